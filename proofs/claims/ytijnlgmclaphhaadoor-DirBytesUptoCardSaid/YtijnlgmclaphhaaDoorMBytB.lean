import Derived.Test.YtijnlgmclaphhaaDoorZ0
import Derived.Test.YtijnlgmclaphhaaDoorMBytA
import Derived.Test.YtijnlgmclaphhaaDoorMBytKE
import Derived.Test.YtijnlgmclaphhaaDoorMBytKN1
import Derived.Test.YtijnlgmclaphhaaDoorU2
import Derived.Test.YtijnlgmclaphhaaDoorMBytKGD
import Derived.Test.YtijnlgmclaphhaaDoorMBytKX
import Derived.Test.YtijnlgmclaphhaaDoorMBytKN2
import Derived.Laws.IdiomStrings
-- Written by a program of this session (gprint.py, over the kit's printer).
namespace Go.Proofs.YtijnlgmclaphhaaDoorZ
open Go.RowKit Go.Proofs.YtijnlgmclaphhaaDoorW.PrintWords Go.Proofs.YtijnlgmclaphhaaDoorW.PrintLast Go.Proofs.YtijnlgmclaphhaaDoorW.PrintMore
attribute [local go_sem] max2_int min2_int max_two min_two max_three min_three max_four min_four   -- for this text's walks alone
set_option linter.unusedVariables false
set_option linter.unusedSimpArgs false

/-! ### gatehouselaw13_lives: function 10 -/
def gatehouselaw13_lives.f (k : Nat)  : Option (Bool) := (dir_Put.f ([] : List (S25)) (⟨#[98]⟩ : ByteArray) 1 7).bind fun bt126 => ((dir_Put.f bt126.1 (⟨#[97]⟩ : ByteArray) 2 9).bind fun bt130 => ((dir_Encode.f bt130.1).bind fun bt134 => ((dir_Split.f (⟨#[47, 97, 47, 47, 46, 47, 98, 47, 46, 46, 47, 99]⟩ : ByteArray)).bind fun bt136 => (if bt126.2 = 0 then (if bt130.2 = 0 then (if bt134.2 = 0 then (if bt136.2 = 0 then (if bt134.1.toList = ([1, 97, 2, 9, 0, 0, 0, 0, 0, 0, 0, 1, 98, 1, 7, 0, 0, 0, 0, 0, 0, 0] : List UInt8) then ((gatehouseref13_SameTexts.f k bt136.1 (([(⟨#[97]⟩ : ByteArray), (⟨#[99]⟩ : ByteArray)] : List ByteArray))).bind fun t143 => (some t143)) else (some false)) else (some false)) else (some false)) else (some false)) else (some false)))))
theorem gatehouselaw13_lives.mono : ∀ k, LeO (gatehouselaw13_lives.f k ) (gatehouselaw13_lives.f (k + 1) ) := by
  intro  k
  unfold gatehouselaw13_lives.f
  repeat' first
      | (with_reducible exact gatehouseref13_SameTexts.mono _ _ _)
      | (with_reducible exact LeO.refl _)
      | (with_reducible exact LeO.none _)
      | (with_reducible refine LeO.ite ?_ ?_)
      | (with_reducible refine LeO.bind ?_ (fun _ => ?_))
      | exact gatehouseref13_SameTexts.mono _ _ _
      | exact LeO.none _
      | refine LeO.ite ?_ ?_
      | refine LeO.bind ?_ (fun _ => ?_)
set_option maxHeartbeats 8000000 in
set_option maxRecDepth 100000 in
theorem gatehouselaw13_lives.calls (k : Nat)  (r : Bool) (w : World) (h : gatehouselaw13_lives.f k  = some r) :
    Calls Tryd.prog 10 #[] w fun e w' => e = .returned (.bool r) ∧ Below w.heap.size w w' := by
  have hu25 := Tryd.underlying25
  have HB := Aside0.mk (Below.refl w.heap.size w)
  have H : ((dir_Put.f ([] : List (S25)) (⟨#[98]⟩ : ByteArray) 1 7).bind fun bt126 => ((dir_Put.f bt126.1 (⟨#[97]⟩ : ByteArray) 2 9).bind fun bt130 => ((dir_Encode.f bt130.1).bind fun bt134 => ((dir_Split.f (⟨#[47, 97, 47, 47, 46, 47, 98, 47, 46, 46, 47, 99]⟩ : ByteArray)).bind fun bt136 => (if bt126.2 = 0 then (if bt130.2 = 0 then (if bt134.2 = 0 then (if bt136.2 = 0 then (if bt134.1.toList = ([1, 97, 2, 9, 0, 0, 0, 0, 0, 0, 0, 1, 98, 1, 7, 0, 0, 0, 0, 0, 0, 0] : List UInt8) then ((gatehouseref13_SameTexts.f k bt136.1 (([(⟨#[97]⟩ : ByteArray), (⟨#[99]⟩ : ByteArray)] : List ByteArray))).bind fun t143 => (some t143)) else (some false)) else (some false)) else (some false)) else (some false)) else (some false)))))) = some r := h
  clear h
  replace H := Option.bind_eq_some_iff.mp H
  obtain ⟨⟨t126, t129⟩, A10, H⟩ := H
  replace H : ((dir_Put.f t126 (⟨#[97]⟩ : ByteArray) 2 9).bind fun bt130 => ((dir_Encode.f bt130.1).bind fun bt134 => ((dir_Split.f (⟨#[47, 97, 47, 47, 46, 47, 98, 47, 46, 46, 47, 99]⟩ : ByteArray)).bind fun bt136 => (if t129 = 0 then (if bt130.2 = 0 then (if bt134.2 = 0 then (if bt136.2 = 0 then (if bt134.1.toList = ([1, 97, 2, 9, 0, 0, 0, 0, 0, 0, 0, 1, 98, 1, 7, 0, 0, 0, 0, 0, 0, 0] : List UInt8) then ((gatehouseref13_SameTexts.f k bt136.1 (([(⟨#[97]⟩ : ByteArray), (⟨#[99]⟩ : ByteArray)] : List ByteArray))).bind fun t143 => (some t143)) else (some false)) else (some false)) else (some false)) else (some false)) else (some false))))) = some r := H
  have A1 := Aside0.mk A10
  clear A10
  replace H := Option.bind_eq_some_iff.mp H
  obtain ⟨⟨t130, t133⟩, A20, H⟩ := H
  replace H : ((dir_Encode.f t130).bind fun bt134 => ((dir_Split.f (⟨#[47, 97, 47, 47, 46, 47, 98, 47, 46, 46, 47, 99]⟩ : ByteArray)).bind fun bt136 => (if t129 = 0 then (if t133 = 0 then (if bt134.2 = 0 then (if bt136.2 = 0 then (if bt134.1.toList = ([1, 97, 2, 9, 0, 0, 0, 0, 0, 0, 0, 1, 98, 1, 7, 0, 0, 0, 0, 0, 0, 0] : List UInt8) then ((gatehouseref13_SameTexts.f k bt136.1 (([(⟨#[97]⟩ : ByteArray), (⟨#[99]⟩ : ByteArray)] : List ByteArray))).bind fun t143 => (some t143)) else (some false)) else (some false)) else (some false)) else (some false)) else (some false)))) = some r := H
  have A2 := Aside0.mk A20
  clear A20
  replace H := Option.bind_eq_some_iff.mp H
  obtain ⟨⟨t134, t135⟩, A30, H⟩ := H
  replace H : ((dir_Split.f (⟨#[47, 97, 47, 47, 46, 47, 98, 47, 46, 46, 47, 99]⟩ : ByteArray)).bind fun bt136 => (if t129 = 0 then (if t133 = 0 then (if t135 = 0 then (if bt136.2 = 0 then (if t134.toList = ([1, 97, 2, 9, 0, 0, 0, 0, 0, 0, 0, 1, 98, 1, 7, 0, 0, 0, 0, 0, 0, 0] : List UInt8) then ((gatehouseref13_SameTexts.f k bt136.1 (([(⟨#[97]⟩ : ByteArray), (⟨#[99]⟩ : ByteArray)] : List ByteArray))).bind fun t143 => (some t143)) else (some false)) else (some false)) else (some false)) else (some false)) else (some false))) = some r := H
  have A3 := Aside0.mk A30
  clear A30
  replace H := Option.bind_eq_some_iff.mp H
  obtain ⟨⟨t136, t137⟩, A40, H⟩ := H
  replace H : (if t129 = 0 then (if t133 = 0 then (if t135 = 0 then (if t137 = 0 then (if t134.toList = ([1, 97, 2, 9, 0, 0, 0, 0, 0, 0, 0, 1, 98, 1, 7, 0, 0, 0, 0, 0, 0, 0] : List UInt8) then ((gatehouseref13_SameTexts.f k t136 (([(⟨#[97]⟩ : ByteArray), (⟨#[99]⟩ : ByteArray)] : List ByteArray))).bind fun t143 => (some t143)) else (some false)) else (some false)) else (some false)) else (some false)) else (some false)) = some r := H
  have A4 := Aside0.mk A40
  clear A40
  by_cases c5 : t129 = 0
  · rw [if_pos c5] at H
    have c5b0 : (t129 == 0) = true := beq_iff_eq.mpr c5
    have c5b1 : (t129 != 0) = false := bne_eq_false_iff_eq.mpr c5
    clear c5
    by_cases c6 : t133 = 0
    · rw [if_pos c6] at H
      have c6b0 : (t133 == 0) = true := beq_iff_eq.mpr c6
      have c6b1 : (t133 != 0) = false := bne_eq_false_iff_eq.mpr c6
      clear c6
      by_cases c7 : t135 = 0
      · rw [if_pos c7] at H
        have c7b0 : (t135 == 0) = true := beq_iff_eq.mpr c7
        have c7b1 : (t135 != 0) = false := bne_eq_false_iff_eq.mpr c7
        clear c7
        by_cases c8 : t137 = 0
        · rw [if_pos c8] at H
          have c8b0 : (t137 == 0) = true := beq_iff_eq.mpr c8
          have c8b1 : (t137 != 0) = false := bne_eq_false_iff_eq.mpr c8
          clear c8
          by_cases c9 : t134.toList = ([1, 97, 2, 9, 0, 0, 0, 0, 0, 0, 0, 1, 98, 1, 7, 0, 0, 0, 0, 0, 0, 0] : List UInt8)
          · rw [if_pos c9] at H
            have c9b0 : (t134.toList == ([1, 97, 2, 9, 0, 0, 0, 0, 0, 0, 0, 1, 98, 1, 7, 0, 0, 0, 0, 0, 0, 0] : List UInt8)) = true := beq_iff_eq.mpr c9
            have c9b1 : (t134.toList != ([1, 97, 2, 9, 0, 0, 0, 0, 0, 0, 0, 1, 98, 1, 7, 0, 0, 0, 0, 0, 0, 0] : List UInt8)) = false := bne_eq_false_iff_eq.mpr c9
            clear c9
            obtain ⟨y140, hy140⟩ : ∃ y_ : List ByteArray, y_ = (([(⟨#[97]⟩ : ByteArray), (⟨#[99]⟩ : ByteArray)] : List ByteArray)) := ⟨_, rfl⟩
            replace H : ((gatehouseref13_SameTexts.f k t136 y140).bind fun t143 => (some t143)) = some r := by first | (rw [hy140]; with_reducible exact H) | (have H2_ := (Option.bind_some _ _).symm.trans H; rw [hy140]; with_reducible exact H2_) | (have H2_ := (Option.bind_some _ _).symm.trans H; with_reducible exact H2_) | with_reducible exact H | (rw [hy140]; exact H) | exact H
            have Ny140 := Aside0.mk hy140
            clear hy140
            replace H := Option.bind_eq_some_iff.mp H
            obtain ⟨t143, A100, H⟩ := H
            replace H : (some t143) = some r := H
            have A10 := Aside0.mk A100
            clear A100
            obtain rfl := Option.some.inj H
            go_enter Tryd.func10, Tryd.ntmps10
            go_wp2_with (first | ((with_reducible refine gate_callee (f := 11) rfl ?_); refine goesL_ (some 11) rfl rfl Tryd.func11 (by kernel_rfl) rfl #[.slice none 0 0, .agg #[.string (⟨#[98]⟩ : ByteArray), .int .i64 1, .int .i64 7]] rfl (by (try simp only [List.map_toArray, List.map_cons, List.map_nil]); first | done | rfl | (simp only [List.length_drop, List.length_take]; rfl)) ?_; (refine (dir_Put.calls _ _ ([] : List (S25)) (⟨#[98]⟩ : ByteArray) 1 7 t126 t129 _ ?side1 ?side2 A1.out).mono ?_); (case side1 => exact Kd.C_nil _ _); (case side2 => exact Nat.le_refl _); rintro e w11 ⟨v127, rfl, ho0, hb⟩; refine ⟨_, rfl, ?_⟩; have n0_ := Aside0.mk (Kd.R_lower ho0 (below_size (by repeat (first | (with_reducible first | exact HB.out | apply below_alloc | apply pw_below_drewN | apply below_drew1) | exact HB.out)))); have n1_ := Aside0.mk (below_step (by repeat (first | (with_reducible first | exact HB.out | apply below_alloc | apply pw_below_drewN | apply below_drew1) | exact HB.out)) hb); clear HB; have HO128 := n0_; have HB := n1_; clear n0_ n1_; (try clear hb); (try clear hb2); (try clear hk); (try clear hi); (try clear ho0); obtain ⟨Ao12, co12, eo12⟩ := Kd.R_slice HO128.out; subst eo12) | ((with_reducible refine gate_callee (f := 11) rfl ?_); refine goesL_ (some 17) rfl rfl Tryd.func11 (by kernel_rfl) rfl #[.slice Ao12 t126.length co12, .agg #[.string (⟨#[97]⟩ : ByteArray), .int .i64 2, .int .i64 9]] rfl (by (try simp only [List.map_toArray, List.map_cons, List.map_nil]); first | done | rfl | (simp only [List.length_drop, List.length_take]; rfl)) ?_; (with_reducible refine (dir_Put.calls _ _ t126 (⟨#[97]⟩ : ByteArray) 2 9 t130 t133 _ ?side1 ?side2 A2.out).mono ?_); (case side1 => repeat (first | exact (Kd.R_reads' HO128.out).2.2 | (with_reducible refine Kd.C_alloc ?_ _) | (with_reducible refine Kd.C_drewN ?_ _) | (with_reducible refine Kd.C_drew ?_))); (case side2 => exact (Kd.R_reads' HO128.out).2.1); rintro e w13 ⟨v131, rfl, ho0, hb⟩; refine ⟨_, rfl, ?_⟩; have n0_ := Aside0.mk (Kd.R_elder' (by (with_reducible repeat (first | apply Kd.R_alloc | apply Kd.R_drewN | apply Kd.R_drew)); exact HO128.out) (Kd.R_base ho0) hb); have n1_ := Aside0.mk (Kd.R_lower (Kd.R_new' ho0 (Kd.R_lt (by (with_reducible repeat (first | apply Kd.R_alloc | apply Kd.R_drewN | apply Kd.R_drew)); exact HO128.out))) (below_size (by repeat (first | (with_reducible first | exact HB.out | apply below_alloc | apply pw_below_drewN | apply below_drew1) | exact HB.out)))); have n2_ := Aside0.mk (below_step (by repeat (first | (with_reducible first | exact HB.out | apply below_alloc | apply pw_below_drewN | apply below_drew1) | exact HB.out)) hb); clear HO128; clear HB; have HO128 := n0_; have HO132 := n1_; have HB := n2_; clear n0_ n1_ n2_; (try clear hb); (try clear hb2); (try clear hk); (try clear hi); (try clear ho0); obtain ⟨Ao14, co14, eo14⟩ := Kd.R_slice HO132.out; subst eo14) | ((with_reducible refine gate_callee (f := 15) rfl ?_); refine goesL_ (some 22) rfl rfl Tryd.func15 (by kernel_rfl) rfl #[.slice Ao14 t130.length co14] rfl (by (try simp only [List.map_toArray, List.map_cons, List.map_nil]); first | done | rfl | (simp only [List.length_drop, List.length_take]; rfl)) ?_; (with_reducible refine (dir_Encode.calls _ _ t130 t134 t135 _ ?side1 ?side2 A3.out).mono ?_); (case side1 => repeat (first | exact (Kd.R_reads' HO132.out).2.2 | (with_reducible refine Kd.C_alloc ?_ _) | (with_reducible refine Kd.C_drewN ?_ _) | (with_reducible refine Kd.C_drew ?_))); (case side2 => exact (Kd.R_reads' HO132.out).2.1); rintro e w15 ⟨rfl, hb⟩; refine ⟨_, rfl, ?_⟩; have n0_ := Aside0.mk (Kd.R_below (by (with_reducible repeat (first | apply Kd.R_alloc | apply Kd.R_drewN | apply Kd.R_drew)); exact HO128.out) hb); have n1_ := Aside0.mk (Kd.R_below (by (with_reducible repeat (first | apply Kd.R_alloc | apply Kd.R_drewN | apply Kd.R_drew)); exact HO132.out) hb); have n2_ := Aside0.mk (below_step (by repeat (first | (with_reducible first | exact HB.out | apply below_alloc | apply pw_below_drewN | apply below_drew1) | exact HB.out)) hb); clear HO128; clear HO132; clear HB; have HO128 := n0_; have HO132 := n1_; have HB := n2_; clear n0_ n1_ n2_; (try clear hb); (try clear hb2); (try clear hk); (try clear hi)) | ((with_reducible refine gate_callee (f := 24) rfl ?_); refine goesL_ (some 26) rfl rfl Tryd.func24 (by kernel_rfl) rfl #[.string (⟨#[47, 97, 47, 47, 46, 47, 98, 47, 46, 46, 47, 99]⟩ : ByteArray)] rfl (by (try simp only [List.map_toArray, List.map_cons, List.map_nil]); first | done | rfl | (simp only [List.length_drop, List.length_take]; rfl)) ?_; (with_reducible refine (dir_Split.calls (⟨#[47, 97, 47, 47, 46, 47, 98, 47, 46, 46, 47, 99]⟩ : ByteArray) t136 t137 _ A4.out).mono ?_); rintro e w16 ⟨v138, rfl, ho0, hb⟩; refine ⟨_, rfl, ?_⟩; have n0_ := Aside0.mk (Kd.R_below (by (with_reducible repeat (first | apply Kd.R_alloc | apply Kd.R_drewN | apply Kd.R_drew)); exact HO128.out) hb); have n1_ := Aside0.mk (Kd.R_below (by (with_reducible repeat (first | apply Kd.R_alloc | apply Kd.R_drewN | apply Kd.R_drew)); exact HO132.out) hb); have n2_ := Aside0.mk (Kd.R_lower ho0 (below_size (by repeat (first | (with_reducible first | exact HB.out | apply below_alloc | apply pw_below_drewN | apply below_drew1) | exact HB.out)))); have n3_ := Aside0.mk (below_step (by repeat (first | (with_reducible first | exact HB.out | apply below_alloc | apply pw_below_drewN | apply below_drew1) | exact HB.out)) hb); clear HO128; clear HO132; clear HB; have HO128 := n0_; have HO132 := n1_; have HO139 := n2_; have HB := n3_; clear n0_ n1_ n2_ n3_; (try clear hb); (try clear hb2); (try clear hk); (try clear hi); (try clear ho0)) | ((with_reducible refine gate_dst (N := 49) rfl ?_); (try (refine gate_guard (by rfl) ?_; dsimp only)); refine Kd.R_lit Kd.string _ 9 ?hg (N := 49) ?hd (xs := ([(⟨#[97]⟩ : ByteArray), (⟨#[99]⟩ : ByteArray)] : List ByteArray)) (inner := [.string (⟨#[97]⟩ : ByteArray), .string (⟨#[99]⟩ : ByteArray)]) (ok := fun _ => True) (okp := fun _ => True) ?hr ?hp (fun _ hk => hk) trivial (Below.refl _ _) (Nat.le_refl _) (by simp) ?_; (case hd => rfl); (case hg => rfl); (case hr => first | (go_simp; done) | (go_simp; rfl)); (case hp => exact (Reps.one (show Kd.M Kd.string _ _ _ (⟨#[97]⟩ : ByteArray) [.string (⟨#[97]⟩ : ByteArray)] from rfl) (Reps.one (show Kd.M Kd.string _ _ _ (⟨#[99]⟩ : ByteArray) [.string (⟨#[99]⟩ : ByteArray)] from rfl) (Reps.none _ _)))); intro v141 w17 ho18 hb hg_ hnew_; clear hg_ hnew_; (first | rw [← Ny140.out] at ho18 | (simp only [Int.reduceToNat] at ho18; rw [← Ny140.out] at ho18)); have n0_ := Aside0.mk (Kd.R_below (by (with_reducible repeat (first | apply Kd.R_alloc | apply Kd.R_drewN | apply Kd.R_drew)); exact HO128.out) hb); have n1_ := Aside0.mk (Kd.R_below (by (with_reducible repeat (first | apply Kd.R_alloc | apply Kd.R_drewN | apply Kd.R_drew)); exact HO132.out) hb); have n2_ := Aside0.mk (Kd.R_elder' (by (with_reducible repeat (first | apply Kd.R_alloc | apply Kd.R_drewN | apply Kd.R_drew)); exact HO139.out) (Kd.R_base ho18) hb); have n3_ := Aside0.mk (Kd.R_lower (Kd.R_new' ho18 (Kd.R_lt (by (with_reducible repeat (first | apply Kd.R_alloc | apply Kd.R_drewN | apply Kd.R_drew)); exact HO139.out))) (below_size (by repeat (first | (with_reducible first | exact HB.out | apply below_alloc | apply pw_below_drewN | apply below_drew1) | exact HB.out)))); have n4_ := Aside0.mk (below_step (by repeat (first | (with_reducible first | exact HB.out | apply below_alloc | apply pw_below_drewN | apply below_drew1) | exact HB.out)) hb); clear HO128; clear HO132; clear HO139; clear HB; have HO128 := n0_; have HO132 := n1_; have HO139 := n2_; have HO142 := n3_; have HB := n4_; clear n0_ n1_ n2_ n3_ n4_; clear hb ho18; obtain ⟨Ao19, co19, eo19⟩ := Kd.R_slice HO139.out; subst eo19; obtain ⟨Ao20, co20, eo20⟩ := Kd.R_slice HO142.out; subst eo20) | (go_at_call 26; (with_reducible refine (gatehouseref13_SameTexts.calls k _ _ t136 _ _ y140 t143 _ ?side1 ?side2 ?side3 ?side4 A10.out).mono ?_); (case side1 => repeat (first | exact (Kd.R_reads' HO139.out).2.2 | (with_reducible refine Kd.C_alloc ?_ _) | (with_reducible refine Kd.C_drewN ?_ _) | (with_reducible refine Kd.C_drew ?_))); (case side2 => exact (Kd.R_reads' HO139.out).2.1); (case side3 => repeat (first | exact (Kd.R_reads' HO142.out).2.2 | (with_reducible refine Kd.C_alloc ?_ _) | (with_reducible refine Kd.C_drewN ?_ _) | (with_reducible refine Kd.C_drew ?_))); (case side4 => exact (Kd.R_reads' HO142.out).2.1); rintro e w' ⟨rfl, ⟨nd, rfl⟩⟩))
            go_ret
            exact ⟨by first | rfl | (simp [errW_none, errW_some] <;> rfl) | (simp [*, errW_none, errW_some] <;> rfl), by repeat (first | (with_reducible first | exact HB.out | apply below_alloc | apply pw_below_drewN | apply below_drew1) | exact HB.out)⟩
          · rw [if_neg c9] at H
            have c9b0 : (t134.toList == ([1, 97, 2, 9, 0, 0, 0, 0, 0, 0, 0, 1, 98, 1, 7, 0, 0, 0, 0, 0, 0, 0] : List UInt8)) = false := beq_eq_false_iff_ne.mpr c9
            have c9b1 : (t134.toList != ([1, 97, 2, 9, 0, 0, 0, 0, 0, 0, 0, 1, 98, 1, 7, 0, 0, 0, 0, 0, 0, 0] : List UInt8)) = true := bne_iff_ne.mpr c9
            obtain rfl := Option.some.inj H
            go_enter Tryd.func10, Tryd.ntmps10
            go_wp2_with (first | ((with_reducible refine gate_callee (f := 11) rfl ?_); refine goesL_ (some 11) rfl rfl Tryd.func11 (by kernel_rfl) rfl #[.slice none 0 0, .agg #[.string (⟨#[98]⟩ : ByteArray), .int .i64 1, .int .i64 7]] rfl (by (try simp only [List.map_toArray, List.map_cons, List.map_nil]); first | done | rfl | (simp only [List.length_drop, List.length_take]; rfl)) ?_; (refine (dir_Put.calls _ _ ([] : List (S25)) (⟨#[98]⟩ : ByteArray) 1 7 t126 t129 _ ?side1 ?side2 A1.out).mono ?_); (case side1 => exact Kd.C_nil _ _); (case side2 => exact Nat.le_refl _); rintro e w21 ⟨v127, rfl, ho0, hb⟩; refine ⟨_, rfl, ?_⟩; have n0_ := Aside0.mk (Kd.R_lower ho0 (below_size (by repeat (first | (with_reducible first | exact HB.out | apply below_alloc | apply pw_below_drewN | apply below_drew1) | exact HB.out)))); have n1_ := Aside0.mk (below_step (by repeat (first | (with_reducible first | exact HB.out | apply below_alloc | apply pw_below_drewN | apply below_drew1) | exact HB.out)) hb); clear HB; have HO128 := n0_; have HB := n1_; clear n0_ n1_; (try clear hb); (try clear hb2); (try clear hk); (try clear hi); (try clear ho0); obtain ⟨Ao22, co22, eo22⟩ := Kd.R_slice HO128.out; subst eo22) | ((with_reducible refine gate_callee (f := 11) rfl ?_); refine goesL_ (some 17) rfl rfl Tryd.func11 (by kernel_rfl) rfl #[.slice Ao22 t126.length co22, .agg #[.string (⟨#[97]⟩ : ByteArray), .int .i64 2, .int .i64 9]] rfl (by (try simp only [List.map_toArray, List.map_cons, List.map_nil]); first | done | rfl | (simp only [List.length_drop, List.length_take]; rfl)) ?_; (with_reducible refine (dir_Put.calls _ _ t126 (⟨#[97]⟩ : ByteArray) 2 9 t130 t133 _ ?side1 ?side2 A2.out).mono ?_); (case side1 => repeat (first | exact (Kd.R_reads' HO128.out).2.2 | (with_reducible refine Kd.C_alloc ?_ _) | (with_reducible refine Kd.C_drewN ?_ _) | (with_reducible refine Kd.C_drew ?_))); (case side2 => exact (Kd.R_reads' HO128.out).2.1); rintro e w23 ⟨v131, rfl, ho0, hb⟩; refine ⟨_, rfl, ?_⟩; have n0_ := Aside0.mk (Kd.R_elder' (by (with_reducible repeat (first | apply Kd.R_alloc | apply Kd.R_drewN | apply Kd.R_drew)); exact HO128.out) (Kd.R_base ho0) hb); have n1_ := Aside0.mk (Kd.R_lower (Kd.R_new' ho0 (Kd.R_lt (by (with_reducible repeat (first | apply Kd.R_alloc | apply Kd.R_drewN | apply Kd.R_drew)); exact HO128.out))) (below_size (by repeat (first | (with_reducible first | exact HB.out | apply below_alloc | apply pw_below_drewN | apply below_drew1) | exact HB.out)))); have n2_ := Aside0.mk (below_step (by repeat (first | (with_reducible first | exact HB.out | apply below_alloc | apply pw_below_drewN | apply below_drew1) | exact HB.out)) hb); clear HO128; clear HB; have HO128 := n0_; have HO132 := n1_; have HB := n2_; clear n0_ n1_ n2_; (try clear hb); (try clear hb2); (try clear hk); (try clear hi); (try clear ho0); obtain ⟨Ao24, co24, eo24⟩ := Kd.R_slice HO132.out; subst eo24) | ((with_reducible refine gate_callee (f := 15) rfl ?_); refine goesL_ (some 22) rfl rfl Tryd.func15 (by kernel_rfl) rfl #[.slice Ao24 t130.length co24] rfl (by (try simp only [List.map_toArray, List.map_cons, List.map_nil]); first | done | rfl | (simp only [List.length_drop, List.length_take]; rfl)) ?_; (with_reducible refine (dir_Encode.calls _ _ t130 t134 t135 _ ?side1 ?side2 A3.out).mono ?_); (case side1 => repeat (first | exact (Kd.R_reads' HO132.out).2.2 | (with_reducible refine Kd.C_alloc ?_ _) | (with_reducible refine Kd.C_drewN ?_ _) | (with_reducible refine Kd.C_drew ?_))); (case side2 => exact (Kd.R_reads' HO132.out).2.1); rintro e w25 ⟨rfl, hb⟩; refine ⟨_, rfl, ?_⟩; have n0_ := Aside0.mk (Kd.R_below (by (with_reducible repeat (first | apply Kd.R_alloc | apply Kd.R_drewN | apply Kd.R_drew)); exact HO128.out) hb); have n1_ := Aside0.mk (Kd.R_below (by (with_reducible repeat (first | apply Kd.R_alloc | apply Kd.R_drewN | apply Kd.R_drew)); exact HO132.out) hb); have n2_ := Aside0.mk (below_step (by repeat (first | (with_reducible first | exact HB.out | apply below_alloc | apply pw_below_drewN | apply below_drew1) | exact HB.out)) hb); clear HO128; clear HO132; clear HB; have HO128 := n0_; have HO132 := n1_; have HB := n2_; clear n0_ n1_ n2_; (try clear hb); (try clear hb2); (try clear hk); (try clear hi)) | ((with_reducible refine gate_callee (f := 24) rfl ?_); refine goesL_ (some 26) rfl rfl Tryd.func24 (by kernel_rfl) rfl #[.string (⟨#[47, 97, 47, 47, 46, 47, 98, 47, 46, 46, 47, 99]⟩ : ByteArray)] rfl (by (try simp only [List.map_toArray, List.map_cons, List.map_nil]); first | done | rfl | (simp only [List.length_drop, List.length_take]; rfl)) ?_; (with_reducible refine (dir_Split.calls (⟨#[47, 97, 47, 47, 46, 47, 98, 47, 46, 46, 47, 99]⟩ : ByteArray) t136 t137 _ A4.out).mono ?_); rintro e w26 ⟨v138, rfl, ho0, hb⟩; refine ⟨_, rfl, ?_⟩; have n0_ := Aside0.mk (Kd.R_below (by (with_reducible repeat (first | apply Kd.R_alloc | apply Kd.R_drewN | apply Kd.R_drew)); exact HO128.out) hb); have n1_ := Aside0.mk (Kd.R_below (by (with_reducible repeat (first | apply Kd.R_alloc | apply Kd.R_drewN | apply Kd.R_drew)); exact HO132.out) hb); have n2_ := Aside0.mk (Kd.R_lower ho0 (below_size (by repeat (first | (with_reducible first | exact HB.out | apply below_alloc | apply pw_below_drewN | apply below_drew1) | exact HB.out)))); have n3_ := Aside0.mk (below_step (by repeat (first | (with_reducible first | exact HB.out | apply below_alloc | apply pw_below_drewN | apply below_drew1) | exact HB.out)) hb); clear HO128; clear HO132; clear HB; have HO128 := n0_; have HO132 := n1_; have HO139 := n2_; have HB := n3_; clear n0_ n1_ n2_ n3_; (try clear hb); (try clear hb2); (try clear hk); (try clear hi); (try clear ho0)))
            go_ret
            exact ⟨by first | rfl | (simp [errW_none, errW_some] <;> rfl) | (simp [*, errW_none, errW_some] <;> rfl), by repeat (first | (with_reducible first | exact HB.out | apply below_alloc | apply pw_below_drewN | apply below_drew1) | exact HB.out)⟩
        · rw [if_neg c8] at H
          have c8b0 : (t137 == 0) = false := beq_eq_false_iff_ne.mpr c8
          have c8b1 : (t137 != 0) = true := bne_iff_ne.mpr c8
          obtain rfl := Option.some.inj H
          go_enter Tryd.func10, Tryd.ntmps10
          go_wp2_with (first | ((with_reducible refine gate_callee (f := 11) rfl ?_); refine goesL_ (some 11) rfl rfl Tryd.func11 (by kernel_rfl) rfl #[.slice none 0 0, .agg #[.string (⟨#[98]⟩ : ByteArray), .int .i64 1, .int .i64 7]] rfl (by (try simp only [List.map_toArray, List.map_cons, List.map_nil]); first | done | rfl | (simp only [List.length_drop, List.length_take]; rfl)) ?_; (refine (dir_Put.calls _ _ ([] : List (S25)) (⟨#[98]⟩ : ByteArray) 1 7 t126 t129 _ ?side1 ?side2 A1.out).mono ?_); (case side1 => exact Kd.C_nil _ _); (case side2 => exact Nat.le_refl _); rintro e w27 ⟨v127, rfl, ho0, hb⟩; refine ⟨_, rfl, ?_⟩; have n0_ := Aside0.mk (Kd.R_lower ho0 (below_size (by repeat (first | (with_reducible first | exact HB.out | apply below_alloc | apply pw_below_drewN | apply below_drew1) | exact HB.out)))); have n1_ := Aside0.mk (below_step (by repeat (first | (with_reducible first | exact HB.out | apply below_alloc | apply pw_below_drewN | apply below_drew1) | exact HB.out)) hb); clear HB; have HO128 := n0_; have HB := n1_; clear n0_ n1_; (try clear hb); (try clear hb2); (try clear hk); (try clear hi); (try clear ho0); obtain ⟨Ao28, co28, eo28⟩ := Kd.R_slice HO128.out; subst eo28) | ((with_reducible refine gate_callee (f := 11) rfl ?_); refine goesL_ (some 17) rfl rfl Tryd.func11 (by kernel_rfl) rfl #[.slice Ao28 t126.length co28, .agg #[.string (⟨#[97]⟩ : ByteArray), .int .i64 2, .int .i64 9]] rfl (by (try simp only [List.map_toArray, List.map_cons, List.map_nil]); first | done | rfl | (simp only [List.length_drop, List.length_take]; rfl)) ?_; (with_reducible refine (dir_Put.calls _ _ t126 (⟨#[97]⟩ : ByteArray) 2 9 t130 t133 _ ?side1 ?side2 A2.out).mono ?_); (case side1 => repeat (first | exact (Kd.R_reads' HO128.out).2.2 | (with_reducible refine Kd.C_alloc ?_ _) | (with_reducible refine Kd.C_drewN ?_ _) | (with_reducible refine Kd.C_drew ?_))); (case side2 => exact (Kd.R_reads' HO128.out).2.1); rintro e w29 ⟨v131, rfl, ho0, hb⟩; refine ⟨_, rfl, ?_⟩; have n0_ := Aside0.mk (Kd.R_elder' (by (with_reducible repeat (first | apply Kd.R_alloc | apply Kd.R_drewN | apply Kd.R_drew)); exact HO128.out) (Kd.R_base ho0) hb); have n1_ := Aside0.mk (Kd.R_lower (Kd.R_new' ho0 (Kd.R_lt (by (with_reducible repeat (first | apply Kd.R_alloc | apply Kd.R_drewN | apply Kd.R_drew)); exact HO128.out))) (below_size (by repeat (first | (with_reducible first | exact HB.out | apply below_alloc | apply pw_below_drewN | apply below_drew1) | exact HB.out)))); have n2_ := Aside0.mk (below_step (by repeat (first | (with_reducible first | exact HB.out | apply below_alloc | apply pw_below_drewN | apply below_drew1) | exact HB.out)) hb); clear HO128; clear HB; have HO128 := n0_; have HO132 := n1_; have HB := n2_; clear n0_ n1_ n2_; (try clear hb); (try clear hb2); (try clear hk); (try clear hi); (try clear ho0); obtain ⟨Ao30, co30, eo30⟩ := Kd.R_slice HO132.out; subst eo30) | ((with_reducible refine gate_callee (f := 15) rfl ?_); refine goesL_ (some 22) rfl rfl Tryd.func15 (by kernel_rfl) rfl #[.slice Ao30 t130.length co30] rfl (by (try simp only [List.map_toArray, List.map_cons, List.map_nil]); first | done | rfl | (simp only [List.length_drop, List.length_take]; rfl)) ?_; (with_reducible refine (dir_Encode.calls _ _ t130 t134 t135 _ ?side1 ?side2 A3.out).mono ?_); (case side1 => repeat (first | exact (Kd.R_reads' HO132.out).2.2 | (with_reducible refine Kd.C_alloc ?_ _) | (with_reducible refine Kd.C_drewN ?_ _) | (with_reducible refine Kd.C_drew ?_))); (case side2 => exact (Kd.R_reads' HO132.out).2.1); rintro e w31 ⟨rfl, hb⟩; refine ⟨_, rfl, ?_⟩; have n0_ := Aside0.mk (Kd.R_below (by (with_reducible repeat (first | apply Kd.R_alloc | apply Kd.R_drewN | apply Kd.R_drew)); exact HO128.out) hb); have n1_ := Aside0.mk (Kd.R_below (by (with_reducible repeat (first | apply Kd.R_alloc | apply Kd.R_drewN | apply Kd.R_drew)); exact HO132.out) hb); have n2_ := Aside0.mk (below_step (by repeat (first | (with_reducible first | exact HB.out | apply below_alloc | apply pw_below_drewN | apply below_drew1) | exact HB.out)) hb); clear HO128; clear HO132; clear HB; have HO128 := n0_; have HO132 := n1_; have HB := n2_; clear n0_ n1_ n2_; (try clear hb); (try clear hb2); (try clear hk); (try clear hi)) | ((with_reducible refine gate_callee (f := 24) rfl ?_); refine goesL_ (some 26) rfl rfl Tryd.func24 (by kernel_rfl) rfl #[.string (⟨#[47, 97, 47, 47, 46, 47, 98, 47, 46, 46, 47, 99]⟩ : ByteArray)] rfl (by (try simp only [List.map_toArray, List.map_cons, List.map_nil]); first | done | rfl | (simp only [List.length_drop, List.length_take]; rfl)) ?_; (with_reducible refine (dir_Split.calls (⟨#[47, 97, 47, 47, 46, 47, 98, 47, 46, 46, 47, 99]⟩ : ByteArray) t136 t137 _ A4.out).mono ?_); rintro e w32 ⟨v138, rfl, ho0, hb⟩; refine ⟨_, rfl, ?_⟩; have n0_ := Aside0.mk (Kd.R_below (by (with_reducible repeat (first | apply Kd.R_alloc | apply Kd.R_drewN | apply Kd.R_drew)); exact HO128.out) hb); have n1_ := Aside0.mk (Kd.R_below (by (with_reducible repeat (first | apply Kd.R_alloc | apply Kd.R_drewN | apply Kd.R_drew)); exact HO132.out) hb); have n2_ := Aside0.mk (Kd.R_lower ho0 (below_size (by repeat (first | (with_reducible first | exact HB.out | apply below_alloc | apply pw_below_drewN | apply below_drew1) | exact HB.out)))); have n3_ := Aside0.mk (below_step (by repeat (first | (with_reducible first | exact HB.out | apply below_alloc | apply pw_below_drewN | apply below_drew1) | exact HB.out)) hb); clear HO128; clear HO132; clear HB; have HO128 := n0_; have HO132 := n1_; have HO139 := n2_; have HB := n3_; clear n0_ n1_ n2_ n3_; (try clear hb); (try clear hb2); (try clear hk); (try clear hi); (try clear ho0)))
          go_ret
          exact ⟨by first | rfl | (simp [errW_none, errW_some] <;> rfl) | (simp [*, errW_none, errW_some] <;> rfl), by repeat (first | (with_reducible first | exact HB.out | apply below_alloc | apply pw_below_drewN | apply below_drew1) | exact HB.out)⟩
      · rw [if_neg c7] at H
        have c7b0 : (t135 == 0) = false := beq_eq_false_iff_ne.mpr c7
        have c7b1 : (t135 != 0) = true := bne_iff_ne.mpr c7
        obtain rfl := Option.some.inj H
        go_enter Tryd.func10, Tryd.ntmps10
        go_wp2_with (first | ((with_reducible refine gate_callee (f := 11) rfl ?_); refine goesL_ (some 11) rfl rfl Tryd.func11 (by kernel_rfl) rfl #[.slice none 0 0, .agg #[.string (⟨#[98]⟩ : ByteArray), .int .i64 1, .int .i64 7]] rfl (by (try simp only [List.map_toArray, List.map_cons, List.map_nil]); first | done | rfl | (simp only [List.length_drop, List.length_take]; rfl)) ?_; (refine (dir_Put.calls _ _ ([] : List (S25)) (⟨#[98]⟩ : ByteArray) 1 7 t126 t129 _ ?side1 ?side2 A1.out).mono ?_); (case side1 => exact Kd.C_nil _ _); (case side2 => exact Nat.le_refl _); rintro e w33 ⟨v127, rfl, ho0, hb⟩; refine ⟨_, rfl, ?_⟩; have n0_ := Aside0.mk (Kd.R_lower ho0 (below_size (by repeat (first | (with_reducible first | exact HB.out | apply below_alloc | apply pw_below_drewN | apply below_drew1) | exact HB.out)))); have n1_ := Aside0.mk (below_step (by repeat (first | (with_reducible first | exact HB.out | apply below_alloc | apply pw_below_drewN | apply below_drew1) | exact HB.out)) hb); clear HB; have HO128 := n0_; have HB := n1_; clear n0_ n1_; (try clear hb); (try clear hb2); (try clear hk); (try clear hi); (try clear ho0); obtain ⟨Ao34, co34, eo34⟩ := Kd.R_slice HO128.out; subst eo34) | ((with_reducible refine gate_callee (f := 11) rfl ?_); refine goesL_ (some 17) rfl rfl Tryd.func11 (by kernel_rfl) rfl #[.slice Ao34 t126.length co34, .agg #[.string (⟨#[97]⟩ : ByteArray), .int .i64 2, .int .i64 9]] rfl (by (try simp only [List.map_toArray, List.map_cons, List.map_nil]); first | done | rfl | (simp only [List.length_drop, List.length_take]; rfl)) ?_; (with_reducible refine (dir_Put.calls _ _ t126 (⟨#[97]⟩ : ByteArray) 2 9 t130 t133 _ ?side1 ?side2 A2.out).mono ?_); (case side1 => repeat (first | exact (Kd.R_reads' HO128.out).2.2 | (with_reducible refine Kd.C_alloc ?_ _) | (with_reducible refine Kd.C_drewN ?_ _) | (with_reducible refine Kd.C_drew ?_))); (case side2 => exact (Kd.R_reads' HO128.out).2.1); rintro e w35 ⟨v131, rfl, ho0, hb⟩; refine ⟨_, rfl, ?_⟩; have n0_ := Aside0.mk (Kd.R_elder' (by (with_reducible repeat (first | apply Kd.R_alloc | apply Kd.R_drewN | apply Kd.R_drew)); exact HO128.out) (Kd.R_base ho0) hb); have n1_ := Aside0.mk (Kd.R_lower (Kd.R_new' ho0 (Kd.R_lt (by (with_reducible repeat (first | apply Kd.R_alloc | apply Kd.R_drewN | apply Kd.R_drew)); exact HO128.out))) (below_size (by repeat (first | (with_reducible first | exact HB.out | apply below_alloc | apply pw_below_drewN | apply below_drew1) | exact HB.out)))); have n2_ := Aside0.mk (below_step (by repeat (first | (with_reducible first | exact HB.out | apply below_alloc | apply pw_below_drewN | apply below_drew1) | exact HB.out)) hb); clear HO128; clear HB; have HO128 := n0_; have HO132 := n1_; have HB := n2_; clear n0_ n1_ n2_; (try clear hb); (try clear hb2); (try clear hk); (try clear hi); (try clear ho0); obtain ⟨Ao36, co36, eo36⟩ := Kd.R_slice HO132.out; subst eo36) | ((with_reducible refine gate_callee (f := 15) rfl ?_); refine goesL_ (some 22) rfl rfl Tryd.func15 (by kernel_rfl) rfl #[.slice Ao36 t130.length co36] rfl (by (try simp only [List.map_toArray, List.map_cons, List.map_nil]); first | done | rfl | (simp only [List.length_drop, List.length_take]; rfl)) ?_; (with_reducible refine (dir_Encode.calls _ _ t130 t134 t135 _ ?side1 ?side2 A3.out).mono ?_); (case side1 => repeat (first | exact (Kd.R_reads' HO132.out).2.2 | (with_reducible refine Kd.C_alloc ?_ _) | (with_reducible refine Kd.C_drewN ?_ _) | (with_reducible refine Kd.C_drew ?_))); (case side2 => exact (Kd.R_reads' HO132.out).2.1); rintro e w37 ⟨rfl, hb⟩; refine ⟨_, rfl, ?_⟩; have n0_ := Aside0.mk (Kd.R_below (by (with_reducible repeat (first | apply Kd.R_alloc | apply Kd.R_drewN | apply Kd.R_drew)); exact HO128.out) hb); have n1_ := Aside0.mk (Kd.R_below (by (with_reducible repeat (first | apply Kd.R_alloc | apply Kd.R_drewN | apply Kd.R_drew)); exact HO132.out) hb); have n2_ := Aside0.mk (below_step (by repeat (first | (with_reducible first | exact HB.out | apply below_alloc | apply pw_below_drewN | apply below_drew1) | exact HB.out)) hb); clear HO128; clear HO132; clear HB; have HO128 := n0_; have HO132 := n1_; have HB := n2_; clear n0_ n1_ n2_; (try clear hb); (try clear hb2); (try clear hk); (try clear hi)) | ((with_reducible refine gate_callee (f := 24) rfl ?_); refine goesL_ (some 26) rfl rfl Tryd.func24 (by kernel_rfl) rfl #[.string (⟨#[47, 97, 47, 47, 46, 47, 98, 47, 46, 46, 47, 99]⟩ : ByteArray)] rfl (by (try simp only [List.map_toArray, List.map_cons, List.map_nil]); first | done | rfl | (simp only [List.length_drop, List.length_take]; rfl)) ?_; (with_reducible refine (dir_Split.calls (⟨#[47, 97, 47, 47, 46, 47, 98, 47, 46, 46, 47, 99]⟩ : ByteArray) t136 t137 _ A4.out).mono ?_); rintro e w38 ⟨v138, rfl, ho0, hb⟩; refine ⟨_, rfl, ?_⟩; have n0_ := Aside0.mk (Kd.R_below (by (with_reducible repeat (first | apply Kd.R_alloc | apply Kd.R_drewN | apply Kd.R_drew)); exact HO128.out) hb); have n1_ := Aside0.mk (Kd.R_below (by (with_reducible repeat (first | apply Kd.R_alloc | apply Kd.R_drewN | apply Kd.R_drew)); exact HO132.out) hb); have n2_ := Aside0.mk (Kd.R_lower ho0 (below_size (by repeat (first | (with_reducible first | exact HB.out | apply below_alloc | apply pw_below_drewN | apply below_drew1) | exact HB.out)))); have n3_ := Aside0.mk (below_step (by repeat (first | (with_reducible first | exact HB.out | apply below_alloc | apply pw_below_drewN | apply below_drew1) | exact HB.out)) hb); clear HO128; clear HO132; clear HB; have HO128 := n0_; have HO132 := n1_; have HO139 := n2_; have HB := n3_; clear n0_ n1_ n2_ n3_; (try clear hb); (try clear hb2); (try clear hk); (try clear hi); (try clear ho0)))
        go_ret
        exact ⟨by first | rfl | (simp [errW_none, errW_some] <;> rfl) | (simp [*, errW_none, errW_some] <;> rfl), by repeat (first | (with_reducible first | exact HB.out | apply below_alloc | apply pw_below_drewN | apply below_drew1) | exact HB.out)⟩
    · rw [if_neg c6] at H
      have c6b0 : (t133 == 0) = false := beq_eq_false_iff_ne.mpr c6
      have c6b1 : (t133 != 0) = true := bne_iff_ne.mpr c6
      obtain rfl := Option.some.inj H
      go_enter Tryd.func10, Tryd.ntmps10
      go_wp2_with (first | ((with_reducible refine gate_callee (f := 11) rfl ?_); refine goesL_ (some 11) rfl rfl Tryd.func11 (by kernel_rfl) rfl #[.slice none 0 0, .agg #[.string (⟨#[98]⟩ : ByteArray), .int .i64 1, .int .i64 7]] rfl (by (try simp only [List.map_toArray, List.map_cons, List.map_nil]); first | done | rfl | (simp only [List.length_drop, List.length_take]; rfl)) ?_; (refine (dir_Put.calls _ _ ([] : List (S25)) (⟨#[98]⟩ : ByteArray) 1 7 t126 t129 _ ?side1 ?side2 A1.out).mono ?_); (case side1 => exact Kd.C_nil _ _); (case side2 => exact Nat.le_refl _); rintro e w39 ⟨v127, rfl, ho0, hb⟩; refine ⟨_, rfl, ?_⟩; have n0_ := Aside0.mk (Kd.R_lower ho0 (below_size (by repeat (first | (with_reducible first | exact HB.out | apply below_alloc | apply pw_below_drewN | apply below_drew1) | exact HB.out)))); have n1_ := Aside0.mk (below_step (by repeat (first | (with_reducible first | exact HB.out | apply below_alloc | apply pw_below_drewN | apply below_drew1) | exact HB.out)) hb); clear HB; have HO128 := n0_; have HB := n1_; clear n0_ n1_; (try clear hb); (try clear hb2); (try clear hk); (try clear hi); (try clear ho0); obtain ⟨Ao40, co40, eo40⟩ := Kd.R_slice HO128.out; subst eo40) | ((with_reducible refine gate_callee (f := 11) rfl ?_); refine goesL_ (some 17) rfl rfl Tryd.func11 (by kernel_rfl) rfl #[.slice Ao40 t126.length co40, .agg #[.string (⟨#[97]⟩ : ByteArray), .int .i64 2, .int .i64 9]] rfl (by (try simp only [List.map_toArray, List.map_cons, List.map_nil]); first | done | rfl | (simp only [List.length_drop, List.length_take]; rfl)) ?_; (with_reducible refine (dir_Put.calls _ _ t126 (⟨#[97]⟩ : ByteArray) 2 9 t130 t133 _ ?side1 ?side2 A2.out).mono ?_); (case side1 => repeat (first | exact (Kd.R_reads' HO128.out).2.2 | (with_reducible refine Kd.C_alloc ?_ _) | (with_reducible refine Kd.C_drewN ?_ _) | (with_reducible refine Kd.C_drew ?_))); (case side2 => exact (Kd.R_reads' HO128.out).2.1); rintro e w41 ⟨v131, rfl, ho0, hb⟩; refine ⟨_, rfl, ?_⟩; have n0_ := Aside0.mk (Kd.R_elder' (by (with_reducible repeat (first | apply Kd.R_alloc | apply Kd.R_drewN | apply Kd.R_drew)); exact HO128.out) (Kd.R_base ho0) hb); have n1_ := Aside0.mk (Kd.R_lower (Kd.R_new' ho0 (Kd.R_lt (by (with_reducible repeat (first | apply Kd.R_alloc | apply Kd.R_drewN | apply Kd.R_drew)); exact HO128.out))) (below_size (by repeat (first | (with_reducible first | exact HB.out | apply below_alloc | apply pw_below_drewN | apply below_drew1) | exact HB.out)))); have n2_ := Aside0.mk (below_step (by repeat (first | (with_reducible first | exact HB.out | apply below_alloc | apply pw_below_drewN | apply below_drew1) | exact HB.out)) hb); clear HO128; clear HB; have HO128 := n0_; have HO132 := n1_; have HB := n2_; clear n0_ n1_ n2_; (try clear hb); (try clear hb2); (try clear hk); (try clear hi); (try clear ho0); obtain ⟨Ao42, co42, eo42⟩ := Kd.R_slice HO132.out; subst eo42) | ((with_reducible refine gate_callee (f := 15) rfl ?_); refine goesL_ (some 22) rfl rfl Tryd.func15 (by kernel_rfl) rfl #[.slice Ao42 t130.length co42] rfl (by (try simp only [List.map_toArray, List.map_cons, List.map_nil]); first | done | rfl | (simp only [List.length_drop, List.length_take]; rfl)) ?_; (with_reducible refine (dir_Encode.calls _ _ t130 t134 t135 _ ?side1 ?side2 A3.out).mono ?_); (case side1 => repeat (first | exact (Kd.R_reads' HO132.out).2.2 | (with_reducible refine Kd.C_alloc ?_ _) | (with_reducible refine Kd.C_drewN ?_ _) | (with_reducible refine Kd.C_drew ?_))); (case side2 => exact (Kd.R_reads' HO132.out).2.1); rintro e w43 ⟨rfl, hb⟩; refine ⟨_, rfl, ?_⟩; have n0_ := Aside0.mk (Kd.R_below (by (with_reducible repeat (first | apply Kd.R_alloc | apply Kd.R_drewN | apply Kd.R_drew)); exact HO128.out) hb); have n1_ := Aside0.mk (Kd.R_below (by (with_reducible repeat (first | apply Kd.R_alloc | apply Kd.R_drewN | apply Kd.R_drew)); exact HO132.out) hb); have n2_ := Aside0.mk (below_step (by repeat (first | (with_reducible first | exact HB.out | apply below_alloc | apply pw_below_drewN | apply below_drew1) | exact HB.out)) hb); clear HO128; clear HO132; clear HB; have HO128 := n0_; have HO132 := n1_; have HB := n2_; clear n0_ n1_ n2_; (try clear hb); (try clear hb2); (try clear hk); (try clear hi)) | ((with_reducible refine gate_callee (f := 24) rfl ?_); refine goesL_ (some 26) rfl rfl Tryd.func24 (by kernel_rfl) rfl #[.string (⟨#[47, 97, 47, 47, 46, 47, 98, 47, 46, 46, 47, 99]⟩ : ByteArray)] rfl (by (try simp only [List.map_toArray, List.map_cons, List.map_nil]); first | done | rfl | (simp only [List.length_drop, List.length_take]; rfl)) ?_; (with_reducible refine (dir_Split.calls (⟨#[47, 97, 47, 47, 46, 47, 98, 47, 46, 46, 47, 99]⟩ : ByteArray) t136 t137 _ A4.out).mono ?_); rintro e w44 ⟨v138, rfl, ho0, hb⟩; refine ⟨_, rfl, ?_⟩; have n0_ := Aside0.mk (Kd.R_below (by (with_reducible repeat (first | apply Kd.R_alloc | apply Kd.R_drewN | apply Kd.R_drew)); exact HO128.out) hb); have n1_ := Aside0.mk (Kd.R_below (by (with_reducible repeat (first | apply Kd.R_alloc | apply Kd.R_drewN | apply Kd.R_drew)); exact HO132.out) hb); have n2_ := Aside0.mk (Kd.R_lower ho0 (below_size (by repeat (first | (with_reducible first | exact HB.out | apply below_alloc | apply pw_below_drewN | apply below_drew1) | exact HB.out)))); have n3_ := Aside0.mk (below_step (by repeat (first | (with_reducible first | exact HB.out | apply below_alloc | apply pw_below_drewN | apply below_drew1) | exact HB.out)) hb); clear HO128; clear HO132; clear HB; have HO128 := n0_; have HO132 := n1_; have HO139 := n2_; have HB := n3_; clear n0_ n1_ n2_ n3_; (try clear hb); (try clear hb2); (try clear hk); (try clear hi); (try clear ho0)))
      go_ret
      exact ⟨by first | rfl | (simp [errW_none, errW_some] <;> rfl) | (simp [*, errW_none, errW_some] <;> rfl), by repeat (first | (with_reducible first | exact HB.out | apply below_alloc | apply pw_below_drewN | apply below_drew1) | exact HB.out)⟩
  · rw [if_neg c5] at H
    have c5b0 : (t129 == 0) = false := beq_eq_false_iff_ne.mpr c5
    have c5b1 : (t129 != 0) = true := bne_iff_ne.mpr c5
    obtain rfl := Option.some.inj H
    go_enter Tryd.func10, Tryd.ntmps10
    go_wp2_with (first | ((with_reducible refine gate_callee (f := 11) rfl ?_); refine goesL_ (some 11) rfl rfl Tryd.func11 (by kernel_rfl) rfl #[.slice none 0 0, .agg #[.string (⟨#[98]⟩ : ByteArray), .int .i64 1, .int .i64 7]] rfl (by (try simp only [List.map_toArray, List.map_cons, List.map_nil]); first | done | rfl | (simp only [List.length_drop, List.length_take]; rfl)) ?_; (refine (dir_Put.calls _ _ ([] : List (S25)) (⟨#[98]⟩ : ByteArray) 1 7 t126 t129 _ ?side1 ?side2 A1.out).mono ?_); (case side1 => exact Kd.C_nil _ _); (case side2 => exact Nat.le_refl _); rintro e w45 ⟨v127, rfl, ho0, hb⟩; refine ⟨_, rfl, ?_⟩; have n0_ := Aside0.mk (Kd.R_lower ho0 (below_size (by repeat (first | (with_reducible first | exact HB.out | apply below_alloc | apply pw_below_drewN | apply below_drew1) | exact HB.out)))); have n1_ := Aside0.mk (below_step (by repeat (first | (with_reducible first | exact HB.out | apply below_alloc | apply pw_below_drewN | apply below_drew1) | exact HB.out)) hb); clear HB; have HO128 := n0_; have HB := n1_; clear n0_ n1_; (try clear hb); (try clear hb2); (try clear hk); (try clear hi); (try clear ho0); obtain ⟨Ao46, co46, eo46⟩ := Kd.R_slice HO128.out; subst eo46) | ((with_reducible refine gate_callee (f := 11) rfl ?_); refine goesL_ (some 17) rfl rfl Tryd.func11 (by kernel_rfl) rfl #[.slice Ao46 t126.length co46, .agg #[.string (⟨#[97]⟩ : ByteArray), .int .i64 2, .int .i64 9]] rfl (by (try simp only [List.map_toArray, List.map_cons, List.map_nil]); first | done | rfl | (simp only [List.length_drop, List.length_take]; rfl)) ?_; (with_reducible refine (dir_Put.calls _ _ t126 (⟨#[97]⟩ : ByteArray) 2 9 t130 t133 _ ?side1 ?side2 A2.out).mono ?_); (case side1 => repeat (first | exact (Kd.R_reads' HO128.out).2.2 | (with_reducible refine Kd.C_alloc ?_ _) | (with_reducible refine Kd.C_drewN ?_ _) | (with_reducible refine Kd.C_drew ?_))); (case side2 => exact (Kd.R_reads' HO128.out).2.1); rintro e w47 ⟨v131, rfl, ho0, hb⟩; refine ⟨_, rfl, ?_⟩; have n0_ := Aside0.mk (Kd.R_elder' (by (with_reducible repeat (first | apply Kd.R_alloc | apply Kd.R_drewN | apply Kd.R_drew)); exact HO128.out) (Kd.R_base ho0) hb); have n1_ := Aside0.mk (Kd.R_lower (Kd.R_new' ho0 (Kd.R_lt (by (with_reducible repeat (first | apply Kd.R_alloc | apply Kd.R_drewN | apply Kd.R_drew)); exact HO128.out))) (below_size (by repeat (first | (with_reducible first | exact HB.out | apply below_alloc | apply pw_below_drewN | apply below_drew1) | exact HB.out)))); have n2_ := Aside0.mk (below_step (by repeat (first | (with_reducible first | exact HB.out | apply below_alloc | apply pw_below_drewN | apply below_drew1) | exact HB.out)) hb); clear HO128; clear HB; have HO128 := n0_; have HO132 := n1_; have HB := n2_; clear n0_ n1_ n2_; (try clear hb); (try clear hb2); (try clear hk); (try clear hi); (try clear ho0); obtain ⟨Ao48, co48, eo48⟩ := Kd.R_slice HO132.out; subst eo48) | ((with_reducible refine gate_callee (f := 15) rfl ?_); refine goesL_ (some 22) rfl rfl Tryd.func15 (by kernel_rfl) rfl #[.slice Ao48 t130.length co48] rfl (by (try simp only [List.map_toArray, List.map_cons, List.map_nil]); first | done | rfl | (simp only [List.length_drop, List.length_take]; rfl)) ?_; (with_reducible refine (dir_Encode.calls _ _ t130 t134 t135 _ ?side1 ?side2 A3.out).mono ?_); (case side1 => repeat (first | exact (Kd.R_reads' HO132.out).2.2 | (with_reducible refine Kd.C_alloc ?_ _) | (with_reducible refine Kd.C_drewN ?_ _) | (with_reducible refine Kd.C_drew ?_))); (case side2 => exact (Kd.R_reads' HO132.out).2.1); rintro e w49 ⟨rfl, hb⟩; refine ⟨_, rfl, ?_⟩; have n0_ := Aside0.mk (Kd.R_below (by (with_reducible repeat (first | apply Kd.R_alloc | apply Kd.R_drewN | apply Kd.R_drew)); exact HO128.out) hb); have n1_ := Aside0.mk (Kd.R_below (by (with_reducible repeat (first | apply Kd.R_alloc | apply Kd.R_drewN | apply Kd.R_drew)); exact HO132.out) hb); have n2_ := Aside0.mk (below_step (by repeat (first | (with_reducible first | exact HB.out | apply below_alloc | apply pw_below_drewN | apply below_drew1) | exact HB.out)) hb); clear HO128; clear HO132; clear HB; have HO128 := n0_; have HO132 := n1_; have HB := n2_; clear n0_ n1_ n2_; (try clear hb); (try clear hb2); (try clear hk); (try clear hi)) | ((with_reducible refine gate_callee (f := 24) rfl ?_); refine goesL_ (some 26) rfl rfl Tryd.func24 (by kernel_rfl) rfl #[.string (⟨#[47, 97, 47, 47, 46, 47, 98, 47, 46, 46, 47, 99]⟩ : ByteArray)] rfl (by (try simp only [List.map_toArray, List.map_cons, List.map_nil]); first | done | rfl | (simp only [List.length_drop, List.length_take]; rfl)) ?_; (with_reducible refine (dir_Split.calls (⟨#[47, 97, 47, 47, 46, 47, 98, 47, 46, 46, 47, 99]⟩ : ByteArray) t136 t137 _ A4.out).mono ?_); rintro e w50 ⟨v138, rfl, ho0, hb⟩; refine ⟨_, rfl, ?_⟩; have n0_ := Aside0.mk (Kd.R_below (by (with_reducible repeat (first | apply Kd.R_alloc | apply Kd.R_drewN | apply Kd.R_drew)); exact HO128.out) hb); have n1_ := Aside0.mk (Kd.R_below (by (with_reducible repeat (first | apply Kd.R_alloc | apply Kd.R_drewN | apply Kd.R_drew)); exact HO132.out) hb); have n2_ := Aside0.mk (Kd.R_lower ho0 (below_size (by repeat (first | (with_reducible first | exact HB.out | apply below_alloc | apply pw_below_drewN | apply below_drew1) | exact HB.out)))); have n3_ := Aside0.mk (below_step (by repeat (first | (with_reducible first | exact HB.out | apply below_alloc | apply pw_below_drewN | apply below_drew1) | exact HB.out)) hb); clear HO128; clear HO132; clear HB; have HO128 := n0_; have HO132 := n1_; have HO139 := n2_; have HB := n3_; clear n0_ n1_ n2_ n3_; (try clear hb); (try clear hb2); (try clear hk); (try clear hi); (try clear ho0)))
    go_ret
    exact ⟨by first | rfl | (simp [errW_none, errW_some] <;> rfl) | (simp [*, errW_none, errW_some] <;> rfl), by repeat (first | (with_reducible first | exact HB.out | apply below_alloc | apply pw_below_drewN | apply below_drew1) | exact HB.out)⟩

end Go.Proofs.YtijnlgmclaphhaaDoorZ
set_option linter.unusedVariables false
set_option linter.unusedSimpArgs false
/-! Plain laws of directories: what Put leaves, one order alone, the example. -/
namespace Go.Proofs.YtijnlgmclaphhaaDoor
open Go Go.RowKit Go.Proofs.YtijnlgmclaphhaaDoorZ Go.Proofs.YtijnlgmclaphhaaDoorW.PrintWords

theorem lives_5 : gatehouselaw13_lives.f 5 = some true := by kernel_rfl
theorem lives_f (k : Nat) (h : 5 ≤ k) : gatehouselaw13_lives.f k = some true := at_rounds gatehouselaw13_lives.mono h lives_5

def eqN (x y : Nm) : Bool := x.f0.toList == y.f0.toList && (x.f1 == y.f1 && (x.f2 == y.f2))
theorem eqN_iff (x y : Nm) : eqN x y = true ↔ x = y := by
  unfold eqN
  simp only [Bool.and_eq_true, beq_iff_eq]
  constructor
  · rintro ⟨h1, h2, h3⟩
    cases x; cases y
    simp only at h1 h2 h3
    rw [toList_inj h1, h2, h3]
  · rintro rfl; exact ⟨rfl, rfl, rfl⟩
def sameL : List Nm → List Nm → Bool
  | [], [] => true
  | x :: l, y :: m => eqN x y && sameL l m
  | _, _ => false
theorem sameL_iff : ∀ l m : List Nm, sameL l m = true ↔ l = m
  | [], [] => by simp [sameL]
  | [], _ :: _ => by simp [sameL]
  | _ :: _, [] => by simp [sameL]
  | x :: l, y :: m => by
    unfold sameL
    rw [Bool.and_eq_true, eqN_iff, sameL_iff l m, List.cons.injEq]
theorem sameL_self (l : List Nm) : sameL l l = true := (sameL_iff l l).2 rfl
theorem sameL_len {l m : List Nm} (h : l.length ≠ m.length) : sameL l m = false := by
  cases hq : sameL l m with
  | false => rfl
  | true => exact absurd (congrArg List.length ((sameL_iff l m).1 hq)) h
theorem same_loop (l m : List Nm) (he : l.length = m.length) (hl : l.length ≤ 4398046511104) (n : Nat) : ∀ (k i : Nat), l.length - i = n → i ≤ l.length → n < k → gatehouseref13_Same.l0 k l m (l.length : Int) (i : Int) = some (sameL (l.drop i) (m.drop i)) := by
  induction n with
  | zero =>
    intro k i h hi hk
    obtain ⟨k, rfl⟩ : ∃ q, k = q + 1 := ⟨k - 1, by omega⟩
    obtain rfl : i = l.length := by omega
    simp only [gatehouseref13_Same.l0]
    rw [if_neg (by omega), List.drop_length, he, List.drop_length]; rfl
  | succ n ih =>
    intro k i h hi hk
    obtain ⟨k, rfl⟩ : ∃ q, k = q + 1 := ⟨k - 1, by omega⟩
    have hlt : i < l.length := by omega
    have hlm : i < m.length := by omega
    simp only [gatehouseref13_Same.l0]
    rw [if_pos (by omega), if_pos (by omega), if_pos (by omega), if_pos (by omega), rd_at l i hlt, rd_at m i hlm, List.drop_eq_getElem_cons hlt, List.drop_eq_getElem_cons hlm, w64 (x := (i : Int) + 1) (by omega) (by omega)]
    have e : sameL (l[i] :: l.drop (i + 1)) (m[i] :: m.drop (i + 1)) = (eqN l[i] m[i] && sameL (l.drop (i + 1)) (m.drop (i + 1))) := rfl
    rw [e]
    have e2 : (!((l[i]).f0.toList == (m[i]).f0.toList) || (!((l[i]).f1 == (m[i]).f1) || !((l[i]).f2 == (m[i]).f2))) = !eqN l[i] m[i] := by unfold eqN; simp only [Bool.not_and]
    rw [e2]
    cases eqN l[i] m[i] with
    | false => rw [if_pos (show (!false) = true from rfl)]; rfl
    | true => rw [if_neg (by simp), Bool.true_and]; exact ih k (i + 1) (by omega) (by omega) (by omega)
theorem same_f (l m : List Nm) (hl : l.length ≤ 4398046511104) (k : Nat) (hk : l.length < k) : gatehouseref13_Same.f k l m = some (sameL l m) := by
  unfold gatehouseref13_Same.f
  by_cases he : l.length = m.length
  · rw [if_pos (by omega)]
    exact same_loop l m he hl l.length k 0 (by omega) (by omega) hk
  · rw [if_neg (by omega), sameL_len he]

theorem ord_cons {x : Nm} {l : List Nm} {b : ByteArray} : ordFrom b (x :: l) = true ↔ okN x = true ∧ blt b x.f0 = true ∧ ordFrom x.f0 l = true := by
  show (okN x && blt b x.f0 && ordFrom x.f0 l) = true ↔ _
  rw [Bool.and_eq_true, Bool.and_eq_true, and_assoc]
theorem ord_weaken {l : List Nm} {b c : ByteArray} (h : ordFrom b l = true) (hc : blt c b = true) : ordFrom c l = true := by
  cases l with
  | nil => rfl
  | cons x l => rw [ord_cons] at h ⊢; exact ⟨h.1, blt_tr hc h.2.1, h.2.2⟩
/-- One order alone. -/
theorem ord_unique : ∀ (l m : List Nm) (b c : ByteArray), ordFrom b l = true → ordFrom c m = true → (∀ x, x ∈ l ↔ x ∈ m) → l = m
  | [], [], _, _, _, _, _ => rfl
  | [], y :: m, _, _, _, _, h => absurd ((h y).2 (by simp)) (by simp)
  | x :: l, [], _, _, _, _, h => absurd ((h x).1 (by simp)) (by simp)
  | x :: l, y :: m, b, c, hl, hm, h => by
    rw [ord_cons] at hl hm
    have gx : ∀ z ∈ l, blt x.f0 z.f0 = true := ord_gt hl.2.2
    have gy : ∀ z ∈ m, blt y.f0 z.f0 = true := ord_gt hm.2.2
    have e : x = y := by
      rcases List.mem_cons.1 ((h x).1 (by simp)) with rfl | hx
      · rfl
      · rcases List.mem_cons.1 ((h y).2 (by simp)) with rfl | hy
        · rfl
        · have := blt_tr (gy x hx) (gx y hy)
          rw [blt_irr] at this; cases this
    subst e
    rw [ord_unique l m _ _ hl.2.2 hm.2.2 fun z => ?_]
    constructor
    · intro hz
      rcases List.mem_cons.1 ((h z).1 (List.mem_cons_of_mem _ hz)) with rfl | h'
      · have := gx z hz; rw [blt_irr] at this; cases this
      · exact h'
    · intro hz
      rcases List.mem_cons.1 ((h z).2 (List.mem_cons_of_mem _ hz)) with rfl | h'
      · have := gy z hz; rw [blt_irr] at this; cases this
      · exact h'
theorem atI_cons (x : Nm) (l : List Nm) (s : ByteArray) : atI (x :: l) s = if blt x.f0 s = true then atI l s + 1 else 0 := by
  unfold atI
  rw [List.takeWhile_cons]
  split
  · rw [List.length_cons]
  · rfl
theorem insL_cons (x : Nm) (l : List Nm) (m : Nm) : insL (x :: l) m = if blt x.f0 m.f0 = true then x :: insL l m else m :: x :: l := by
  unfold insL
  rw [atI_cons]
  split <;> rfl
theorem insL_perm (l : List Nm) (m : Nm) : (insL l m).Perm (m :: l) := by
  unfold insL
  have := List.perm_middle (a := m) (l₁ := l.take (atI l m.f0)) (l₂ := l.drop (atI l m.f0))
  rwa [List.take_append_drop] at this
theorem insL_ord : ∀ (l : List Nm) (m : Nm) (b : ByteArray), ordFrom b l = true → okN m = true → blt b m.f0 = true → hasN l m.f0 = false → ordFrom b (insL l m) = true
  | [], m, b, _, hm, hb, _ => by
    show ordFrom b [m] = true
    rw [ord_cons]; exact ⟨hm, hb, rfl⟩
  | x :: l, m, b, hl, hm, hb, hn => by
    rw [ord_cons] at hl
    have hn' : (x.f0.toList == m.f0.toList) = false ∧ hasN l m.f0 = false := by
      unfold hasN at hn
      rw [List.any_cons, Bool.or_eq_false_iff] at hn
      exact hn
    rw [insL_cons]
    split
    · rename_i h
      rw [ord_cons]
      exact ⟨hl.1, hl.2.1, insL_ord l m _ hl.2.2 hm h hn'.2⟩
    · rename_i h
      have h1 : blt m.f0 x.f0 = true := by
        cases h2 : blt m.f0 x.f0 with
        | true => rfl
        | false =>
          have := blt_tri (by simpa using h) h2
          rw [this] at hn'
          simp at hn'
      rw [ord_cons, ord_cons]
      exact ⟨hm, hb, hl.1, h1, hl.2.2⟩
theorem sizeN_perm {l m : List Nm} (h : l.Perm m) : sizeN l = sizeN m := by
  unfold sizeN
  exact (h.map _).sum_nat
theorem sizeN_ins (l : List Nm) (m : Nm) : sizeN (insL l m) = sizeN l + (10 + m.f0.size) := by
  rw [sizeN_perm (insL_perm l m), sizeN_cons]; omega
theorem right_nil : rightL [] = true := rfl
theorem insL_right {l : List Nm} {m : Nm} (hr : rightL l = true) (hm : okN m = true) (hn : hasN l m.f0 = false) (hz : sizeN l + (10 + m.f0.size) ≤ 4096) : rightL (insL l m) = true := by
  unfold rightL ordL
  rw [insL_ord l m _ (right_ord hr).1 hm (blt_empty (okN_size hm).1) hn, sizeN_ins, decide_eq_true hz]; rfl
theorem putL_ok {l : List Nm} {m : Nm} (hr : rightL l = true) (hm : okN m = true) (hn : hasN l m.f0 = false) (hz : sizeN l + (10 + m.f0.size) ≤ 4096) : putL l m = (insL l m, 0) := by
  unfold putL
  rw [if_pos hr, if_pos hm, if_neg (by rw [hn]; simp), if_neg (by omega)]
theorem putL_zero {l : List Nm} {m : Nm} (h : (putL l m).2 = 0) : rightL l = true ∧ okN m = true ∧ hasN l m.f0 = false ∧ sizeN l + (10 + m.f0.size) ≤ 4096 ∧ putL l m = (insL l m, 0) := by
  unfold putL at h ⊢
  split at h
  · split at h
    · split at h
      · simp at h
      · split at h
        · simp at h
        · rename_i h1 h2 h3 h4
          rw [if_pos h1, if_pos h2, if_neg h3, if_neg h4]
          exact ⟨h1, h2, by simpa using h3, by omega, rfl⟩
    · simp at h
  · simp at h
theorem hasN_iff_mem (l : List Nm) (s : ByteArray) : hasN l s = true ↔ ∃ x ∈ l, x.f0 = s := by
  unfold hasN
  rw [List.any_eq_true]
  constructor
  · rintro ⟨x, hx, h⟩; exact ⟨x, hx, toList_inj (beq_iff_eq.1 h)⟩
  · rintro ⟨x, hx, rfl⟩; exact ⟨x, hx, by simp⟩
theorem hasN_perm {l m : List Nm} (h : l.Perm m) (s : ByteArray) : hasN l s = hasN m s := by
  cases h1 : hasN l s <;> cases h2 : hasN m s <;> try rfl
  · obtain ⟨x, hx, e⟩ := (hasN_iff_mem m s).1 h2
    rw [(hasN_iff_mem l s).2 ⟨x, h.mem_iff.2 hx, e⟩] at h1; cases h1
  · obtain ⟨x, hx, e⟩ := (hasN_iff_mem l s).1 h1
    rw [(hasN_iff_mem m s).2 ⟨x, h.mem_iff.1 hx, e⟩] at h2; cases h2
end Go.Proofs.YtijnlgmclaphhaaDoor
/-! Plain laws of directories: a directory comes back from its bytes; what was put in is found and cut out again. -/
namespace Go.Proofs.YtijnlgmclaphhaaDoor
open Go Go.RowKit Go.Proofs.YtijnlgmclaphhaaDoorZ Go.Proofs.YtijnlgmclaphhaaDoorW.PrintWords

/-- The byte at i, or 0. -/
def byN (s : ByteArray) (i : Nat) : Nat := (s.data.toList[i]?.getD 0).toNat
theorem byN_lt (s : ByteArray) (i : Nat) : byN s i < 256 := UInt8.toNat_lt _
theorem bt_byN (s : ByteArray) (i : Nat) : bt s (i : Int) = (byN s i : Int) := by
  unfold bt byN
  rw [Int.toNat_natCast]
  split
  · rename_i h
    have e : s.size = s.data.toList.length := (Array.length_toList (xs := s.data)).symm
    have h2 : i < s.data.toList.length := by omega
    rw [List.getElem?_eq_getElem h2]
    rfl
  · rename_i h
    have e : s.size = s.data.toList.length := (Array.length_toList (xs := s.data)).symm
    have h2 : ¬ i < s.data.toList.length := by omega
    rw [List.getElem?_eq_none (by omega)]
    rfl
/-- A number of i bytes, the least first. -/
def leN (s : ByteArray) (o : Nat) : Nat → Nat
  | 0 => 0
  | i + 1 => leN s o i + byN s (o + i) * 2 ^ (8 * i)
theorem leN_lt (s : ByteArray) (o : Nat) : ∀ i, leN s o i < 2 ^ (8 * i)
  | 0 => by simp [leN]
  | i + 1 => by
    have h := leN_lt s o i
    have hb := byN_lt s (o + i)
    have e : (2 : Nat) ^ (8 * (i + 1)) = 256 * 2 ^ (8 * i) := by rw [Nat.mul_add, Nat.pow_add]; omega
    unfold leN
    rw [e]
    have : (byN s (o + i) + 1) * 2 ^ (8 * i) ≤ 256 * 2 ^ (8 * i) := Nat.mul_le_mul_right _ (by omega)
    rw [Nat.add_mul] at this
    omega
theorem or_add (a b k : Nat) (ha : a < 2 ^ k) (hb : b * 2 ^ k < 18446744073709551616) (ha2 : a < 18446744073709551616) : bits .or .i64 (a : Int) (wrap64 ((b : Int) * 2 ^ k)) = wrap64 ((a + b * 2 ^ k : Nat) : Int) := by
  have e1 : (b : Int) * 2 ^ k = ((b * 2 ^ k : Nat) : Int) := by push_cast; rfl
  rw [e1]
  have e2 : (b <<< k) ||| a = b * 2 ^ k + a := by rw [← Nat.shiftLeft_add_eq_or_of_lt ha, Nat.shiftLeft_eq]
  rw [Nat.shiftLeft_eq] at e2
  generalize b * 2 ^ k = z at *
  show IntKind.i64.wrap (((BitVec.ofInt 64 (a : Int) ||| BitVec.ofInt 64 (wrap64 (z : Int))).toNat : Nat) : Int) = _
  have t1 : (BitVec.ofInt 64 (a : Int)).toNat = a := by rw [BitVec.toNat_ofInt]; omega
  have t2 : (BitVec.ofInt 64 (wrap64 (z : Int))).toNat = z := by rw [BitVec.toNat_ofInt]; unfold wrap64; omega
  rw [BitVec.toNat_or, t1, t2, Nat.or_comm, e2, Nat.add_comm]
  unfold IntKind.wrap wrap64
  simp [IntKind.signed, IntKind.bits]
  split <;> omega
theorem idE_le (s : ByteArray) (o : Nat) : ∀ i, i ≤ 8 → idE s (o : Int) i = wrap64 (leN s o i : Int)
  | 0, _ => by
    show (0 : Int) = wrap64 ((0 : Nat) : Int)
    unfold wrap64; omega
  | i + 1, hi => by
    have ih := idE_le s o i (by omega)
    have hl := leN_lt s o i
    have h56 : (2 : Nat) ^ (8 * i) ≤ 2 ^ 56 := Nat.pow_le_pow_right (by omega) (by omega)
    have hb := byN_lt s (o + i)
    have hm : byN s (o + i) * 2 ^ (8 * i) ≤ 255 * 2 ^ 56 := Nat.mul_le_mul (by omega) h56
    have e0 : wrap64 (leN s o i : Int) = (leN s o i : Int) := by unfold wrap64; omega
    have eo : (o : Int) + (i : Int) = ((o + i : Nat) : Int) := by omega
    unfold idE leN
    rw [ih, e0, eo, bt_byN]
    exact or_add _ _ _ hl (by omega) (by omega)
theorem le_mod (s : ByteArray) (o n : Nat) (h : ∀ i, i < 8 → byN s (o + i) = n / 256 ^ i % 256) : ∀ i, i ≤ 8 → leN s o i = n % 256 ^ i
  | 0, _ => by simp [leN, Nat.mod_one]
  | i + 1, hi => by
    unfold leN
    rw [le_mod s o n h i (by omega), h i (by omega), Nat.pow_mul, show (2 : Nat) ^ 8 = 256 from rfl, Nat.pow_succ, Nat.mod_mul]
    rw [Nat.mul_comm (256 ^ i)]
theorem byN_of {s : ByteArray} {A B : List UInt8} (h : s.data.toList = A ++ B) (i : Nat) (hi : i < A.length) : byN s i = (A[i]).toNat := by
  unfold byN
  rw [h, List.getElem?_append_left hi, List.getElem?_eq_getElem hi]; rfl
theorem ext_data (s : ByteArray) (a b : Nat) : (s.extract a b).data.toList = (s.data.toList.drop a).take (b - a) := by
  simp [ByteArray.data_extract, Array.toList_extract, List.extract]
theorem encN_at (x : Nm) (hx : okN x = true) (i : Nat) (hi : i < 8) : ∃ h : 2 + x.f0.size + i < (encN x).length, ((encN x)[2 + x.f0.size + i]).toNat = x.f2.toNat / 256 ^ i % 256 := by
  have hl := encN_length x
  refine ⟨by omega, ?_⟩
  have e : (encN x)[2 + x.f0.size + i]? = some (idByte x.f2 i) := by
    unfold encN
    rw [List.getElem?_append_right (by rw [headN_length]; omega), headN_length]
    unfold idTo
    rw [List.getElem?_map, List.getElem?_range (by omega)]
    show some (idByte x.f2 _) = _
    rw [show 2 + x.f0.size + i - (2 + x.f0.size) = i by omega]
  rw [List.getElem?_eq_getElem (by omega)] at e
  rw [Option.some.inj e]
  unfold idByte
  rw [UInt8.toNat_ofNat', Nat.mod_mod]
theorem one_back {x : Nm} (hx : okN x = true) {s : ByteArray} {B : List UInt8} (h : s.data.toList = encN x ++ B) : hdE s = (x.f0.size : Int) ∧ nmE s = x ∧ (tlE s).data.toList = B ∧ s.size = 10 + x.f0.size + B.length := by
  obtain ⟨hf, hk, hi1, hi2⟩ := okN_out hx
  obtain ⟨hz1, hz2⟩ := fits_out hf
  have hl := encN_length x
  have hhl := headN_length x
  have hsz : s.size = 10 + x.f0.size + B.length := by
    have : s.size = s.data.toList.length := (Array.length_toList (xs := s.data)).symm
    rw [this, h, List.length_append, hl]
  have hd : hdE s = (x.f0.size : Int) := by
    have h0 := bt_byN s 0
    rw [byN_of h 0 (by omega)] at h0
    have e : ((encN x)[0]'(by omega)) = UInt8.ofNat x.f0.size := rfl
    rw [e, UInt8.toNat_ofNat', Nat.mod_eq_of_lt (by omega)] at h0
    exact h0
  have htake : (s.data.toList.drop 1).take x.f0.size = x.f0.data.toList := by
    rw [h]
    unfold encN headN
    simp only [List.cons_append, List.append_assoc, List.drop_succ_cons, List.drop_zero]
    have e : x.f0.size = x.f0.data.toList.length := (Array.length_toList (xs := x.f0.data)).symm
    rw [e, List.take_left']
    rfl
  have hname : s.extract 1 (1 + hdE s).toNat = x.f0 := by
    apply toList_inj
    rw [Lib.toList_data, Lib.toList_data, ext_data, hd, show (1 + (x.f0.size : Int)).toNat - 1 = x.f0.size by omega, htake]
  have hkind : bt s (1 + hdE s) = x.f1 := by
    rw [hd, show (1 : Int) + (x.f0.size : Int) = ((1 + x.f0.size : Nat) : Int) by omega, bt_byN]
    have hat : s.data.toList[1 + x.f0.size]? = some (UInt8.ofNat x.f1.toNat) := by
      rw [h]
      unfold encN headN
      simp only [List.cons_append, List.append_assoc]
      rw [show 1 + x.f0.size = x.f0.size + 1 by omega, List.getElem?_cons_succ]
      have e : x.f0.size = x.f0.data.toList.length := (Array.length_toList (xs := x.f0.data)).symm
      rw [e, List.getElem?_append_right (Nat.le_refl _), Nat.sub_self]
      rfl
    unfold byN
    rw [hat]
    show ((UInt8.ofNat x.f1.toNat).toNat : Int) = _
    rw [UInt8.toNat_ofNat']
    rcases hk with e | e <;> rw [e] <;> rfl
  have hid : idE s (2 + hdE s) 8 = x.f2 := by
    rw [hd, show (2 : Int) + (x.f0.size : Int) = ((2 + x.f0.size : Nat) : Int) by omega, idE_le _ _ 8 (Nat.le_refl _)]
    rw [le_mod s (2 + x.f0.size) x.f2.toNat (fun i hi => by
      obtain ⟨h1, h2⟩ := encN_at x hx i hi
      rw [byN_of h _ h1, h2]) 8 (Nat.le_refl _)]
    have : x.f2.toNat % 256 ^ 8 = x.f2.toNat := Nat.mod_eq_of_lt (by omega)
    rw [this]
    unfold wrap64; omega
  refine ⟨hd, ?_, ?_, hsz⟩
  · unfold nmE
    rw [hname, hkind, hid]
  · unfold tlE
    rw [ext_data, hd, h, show ((x.f0.size : Int) + 10).toNat = (encN x).length by omega, List.drop_left]
    exact List.take_of_length_le (by omega)
theorem lastR_cons (s : ByteArray) (x : Nm × ByteArray) (t : List (Nm × ByteArray)) : lastR s (x :: t) = lastR x.2 t := by
  unfold lastR
  cases t with
  | nil => rfl
  | cons y t =>
    obtain ⟨z, hz⟩ : ∃ z, (y :: t).getLast? = some z := ⟨_, List.getLast?_eq_some_getLast (by simp)⟩
    rw [List.getLast?_cons_cons, hz]
/-- A directory comes back from its bytes. -/
theorem ent_enc : ∀ (l : List Nm), (∀ x ∈ l, okN x = true) → ∀ s : ByteArray, s.data.toList = encL l → namesE (entL s) = l ∧ (lastR s (entL s)).toList = []
  | [], _, s, h => by
    have h0 : s.size = 0 := by
      have : s.size = s.data.toList.length := (Array.length_toList (xs := s.data)).symm
      rw [this, h]; rfl
    rw [entL_none (fun hh => by omega)]
    refine ⟨rfl, ?_⟩
    show s.toList = []
    rw [Lib.toList_data, h]; rfl
  | x :: l, hok, s, h => by
    have h' : s.data.toList = encN x ++ encL l := h
    obtain ⟨h1, h2, h3, h4⟩ := one_back (hok x (by simp)) h'
    obtain ⟨r1, r2⟩ := ent_enc l (fun y hy => hok y (List.mem_cons_of_mem _ hy)) _ h3
    rw [entL_some (by omega) (by omega), lastR_cons]
    refine ⟨?_, r2⟩
    show nmE s :: namesE (entL (tlE s)) = _
    rw [h2, r1]
theorem right_ok {l : List Nm} (h : rightL l = true) : ∀ x ∈ l, okN x = true := by
  have : ∀ (l : List Nm) (b : ByteArray), ordFrom b l = true → ∀ x ∈ l, okN x = true := by
    intro l
    induction l with
    | nil => intro b _ x hx; cases hx
    | cons y l ih =>
      intro b h x hx
      rw [ord_cons] at h
      rcases List.mem_cons.1 hx with rfl | hx
      · exact h.1
      · exact ih _ h.2.2 x hx
  exact this l _ (right_ord h).1
theorem decode_enc {l : List Nm} (h : rightL l = true) : decodeL (⟨(encL l).toArray⟩ : ByteArray) = (l, 0) := by
  obtain ⟨h1, h2⟩ := ent_enc l (right_ok h) ⟨(encL l).toArray⟩ (by simp)
  rw [decode_yes h2 (by rw [h1]; exact h), h1]
theorem enc_inj {l m : List Nm} (h : rightL l = true) (k : rightL m = true) (e : encL l = encL m) : l = m := by
  have h1 := decode_enc h
  rw [e, decode_enc k] at h1
  exact (congrArg Prod.fst h1).symm
theorem takeWhile_skip {α : Type} (q : α → Bool) : ∀ (P : List α) (x : α) (R : List α), (∀ y ∈ P, q y = true) → q x = false → ((P ++ x :: R).takeWhile q).length = P.length
  | [], x, R, _, h => by simp [List.takeWhile_cons, h]
  | a :: P, x, R, h1, h2 => by
    rw [List.cons_append, List.takeWhile_cons, if_pos (h1 a (by simp)), List.length_cons, List.length_cons, takeWhile_skip q P x R (fun y hy => h1 y (List.mem_cons_of_mem _ hy)) h2]
theorem mem_takeWhile {α : Type} (q : α → Bool) : ∀ (l : List α) (y : α), y ∈ l.takeWhile q → q y = true
  | [], _, h => by cases h
  | a :: l, y, h => by
    rw [List.takeWhile_cons] at h
    split at h
    · rcases List.mem_cons.1 h with rfl | h
      · assumption
      · exact mem_takeWhile q l y h
    · cases h
theorem take_atI {l : List Nm} {s : ByteArray} : l.take (atI l s) = l.takeWhile fun x => blt x.f0 s := by
  unfold atI
  exact (List.prefix_iff_eq_take.1 (List.takeWhile_prefix _)).symm
theorem before_lt {l : List Nm} {s : ByteArray} : ∀ y ∈ l.take (atI l s), blt y.f0 s = true := by
  rw [take_atI]; exact mem_takeWhile _ l
theorem atI_ins (l : List Nm) (m : Nm) : atI (insL l m) m.f0 = atI l m.f0 := by
  have e : (l.take (atI l m.f0)).length = atI l m.f0 := by rw [List.length_take]; have := atI_le l m.f0; omega
  have := takeWhile_skip (fun x : Nm => blt x.f0 m.f0) (l.take (atI l m.f0)) m (l.drop (atI l m.f0)) before_lt (blt_irr _)
  rw [e] at this
  exact this
theorem findI_ins (l : List Nm) (m : Nm) : findI (insL l m) m.f0 = atI l m.f0 := by
  have e : (l.take (atI l m.f0)).length = atI l m.f0 := by rw [List.length_take]; have := atI_le l m.f0; omega
  have := takeWhile_skip (fun x : Nm => x.f0.toList != m.f0.toList) (l.take (atI l m.f0)) m (l.drop (atI l m.f0)) (fun y hy => by
    have hy := before_lt y hy
    rw [bne_iff_ne]
    intro he
    rw [toList_inj he, blt_irr] at hy
    cases hy) (by simp)
  rw [e] at this
  exact this
theorem ins_at (l : List Nm) (m : Nm) : (insL l m)[atI l m.f0]? = some m := by
  have e : (l.take (atI l m.f0)).length = atI l m.f0 := by rw [List.length_take]; have := atI_le l m.f0; omega
  unfold insL
  rw [List.getElem?_append_right (by omega), e, Nat.sub_self]; rfl
theorem find_ins (l : List Nm) (m : Nm) : findL (insL l m) m.f0 = (m, true) := by
  have h := ins_at l m
  have hlt := (List.getElem?_eq_some_iff.1 h).1
  unfold findL
  have e := findI_ins l m
  rw [dif_pos (by rw [e]; exact hlt)]
  congr 1
  have h2 : (insL l m)[findI (insL l m) m.f0]? = some m := by rw [e]; exact h
  exact (List.getElem?_eq_some_iff.1 h2).2
theorem has_ins (l : List Nm) (m : Nm) : hasN (insL l m) m.f0 = true := (hasN_iff_mem _ _).2 ⟨m, (insL_perm l m).mem_iff.2 (by simp), rfl⟩
theorem cut_ins {l : List Nm} {m : Nm} (hr : rightL (insL l m) = true) : cutL (insL l m) m.f0 = (l, 0) := by
  have e : (l.take (atI l m.f0)).length = atI l m.f0 := by rw [List.length_take]; have := atI_le l m.f0; omega
  rw [cutL_yes hr, if_pos (has_ins l m), atI_ins]
  have e1 : (insL l m).take (atI l m.f0) = l.take (atI l m.f0) := List.take_left' e
  have e2 : (insL l m).drop (atI l m.f0 + 1) = l.drop (atI l m.f0) := by
    unfold insL
    rw [show l.take (atI l m.f0) ++ m :: l.drop (atI l m.f0) = (l.take (atI l m.f0) ++ [m]) ++ l.drop (atI l m.f0) by simp]
    exact List.drop_left' (by rw [List.length_append, e]; rfl)
  rw [e1, e2, List.take_append_drop]
end Go.Proofs.YtijnlgmclaphhaaDoor
/-! The reference's Word over the bytes of a text. -/
namespace Go.Proofs.YtijnlgmclaphhaaDoor
open Go Go.RowKit Go.Proofs.YtijnlgmclaphhaaDoorZ Go.Proofs.YtijnlgmclaphhaaDoorW.PrintWords

def intsOf (s : ByteArray) : List Int := s.data.toList.map fun b => (b.toNat : Int)
theorem intsOf_len (s : ByteArray) : (intsOf s).length = s.size := by
  unfold intsOf
  rw [List.length_map]
  exact Array.length_toList
theorem strOf_ints (l : List UInt8) : strOfNums (l.map fun b => (b.toNat : Int)) = ⟨l.toArray⟩ := by
  unfold strOfNums
  rw [List.map_map]
  congr 2
  conv => rhs; rw [← List.map_id l]
  apply List.map_congr_left
  intro b _
  simp
theorem byN_take (s : ByteArray) (o i : Nat) (hi : i < 8) : byN (⟨((s.data.toList.drop o).take 8).toArray⟩ : ByteArray) i = byN s (o + i) := by
  unfold byN
  rw [List.getElem?_take, if_pos hi, List.getElem?_drop]
theorem wrapU {m : Nat} (hm : m < 18446744073709551616) : IntKind.u64.wrap (m : Int) = (m : Int) := by
  unfold IntKind.wrap; simp [IntKind.signed, IntKind.bits]; omega
/-- From the end to the start: x * 256 + the byte. -/
theorem word_loop (t : ByteArray) (ht : t.size = 8) (e : Int) (n : Nat) : ∀ (k : Nat) (x : Nat), n ≤ 8 → n < k → x * 256 ^ n + leN t 0 n < 18446744073709551616 → gatehouseref03_Word.l0 k t e (x : Int) ((n : Int) - 1) = some (((x * 256 ^ n + leN t 0 n : Nat) : Int), e) := by
  induction n with
  | zero =>
    intro k x _ hk hb
    obtain ⟨k, rfl⟩ : ∃ q, k = q + 1 := ⟨k - 1, by omega⟩
    simp only [gatehouseref03_Word.l0]
    rw [if_neg (by omega)]
    simp [leN]
  | succ n ih =>
    intro k x hn hk hb
    obtain ⟨k, rfl⟩ : ∃ q, k = q + 1 := ⟨k - 1, by omega⟩
    have hby := byN_lt t n
    have hex : (x * 256 + byN t n) * 256 ^ n + leN t 0 n = x * 256 ^ (n + 1) + leN t 0 (n + 1) := by
      show _ = _ + (leN t 0 n + byN t (0 + n) * 2 ^ (8 * n))
      rw [Nat.pow_mul, show (2 : Nat) ^ 8 = 256 from rfl, Nat.zero_add, Nat.pow_succ, Nat.add_mul, Nat.mul_assoc, Nat.mul_comm 256 (256 ^ n)]
      omega
    have hx : x * 256 + byN t n < 18446744073709551616 := by
      have h1 : 0 < 256 ^ n := Nat.pow_pos (by omega)
      have h2 : x * 256 + byN t n ≤ (x * 256 + byN t n) * 256 ^ n := Nat.le_mul_of_pos_right _ h1
      omega
    simp only [gatehouseref03_Word.l0]
    have ei : ((n + 1 : Nat) : Int) - 1 = (n : Int) := by omega
    rw [ei, if_pos (by omega), if_pos (by omega), if_pos (by omega), bt_byN, show wrap64 ((n : Int) - 1) = (n : Int) - 1 by unfold wrap64; omega]
    have ew : IntKind.u64.wrap ((IntKind.u64.wrap ((x : Int) * 256)) + (IntKind.u64.wrap (byN t n : Int))) = ((x * 256 + byN t n : Nat) : Int) := by
      have e1 : (x : Int) * 256 = ((x * 256 : Nat) : Int) := by omega
      rw [e1, wrapU (Nat.lt_of_le_of_lt (Nat.le_add_right _ _) hx), wrapU (Nat.lt_trans hby (by decide))]
      have e2 : ((x * 256 : Nat) : Int) + (byN t n : Int) = ((x * 256 + byN t n : Nat) : Int) := by omega
      rw [e2, wrapU hx]
    rw [ew, ih k _ (by omega) (by omega) (by rw [hex]; exact hb), hex]
theorem leN_eq (t s : ByteArray) (o : Nat) : ∀ i, (∀ j, j < i → byN t j = byN s (o + j)) → leN t 0 i = leN s o i
  | 0, _ => rfl
  | i + 1, h => by
    unfold leN
    rw [leN_eq t s o i fun j hj => h j (by omega), Nat.zero_add, h i (by omega)]
theorem word_f (s : ByteArray) (o : Nat) (h : o + 8 ≤ s.size) (hs : s.size ≤ 1000000) (k : Nat) (hk : 8 < k) : gatehouseref03_Word.f k (intsOf s) (o : Int) = some ((leN s o 8 : Int), 0) := by
  have hl := intsOf_len s
  have hd : s.size = s.data.toList.length := (Array.length_toList (xs := s.data)).symm
  have hfit : gatehouseref03_Fits.f (intsOf s) (o : Int) 8 = some true := by
    unfold gatehouseref03_Fits.f
    rw [if_pos (by omega), if_pos (by omega), if_pos (by omega)]
    congr 1
    rw [decide_eq_true_iff]
    unfold wrap64; omega
  have hw : wrap64 ((o : Int) + 8) = ((o + 8 : Nat) : Int) := by unfold wrap64; omega
  have hrd : gatehouseref03_Read.f (intsOf s) (o : Int) 8 = some (⟨((s.data.toList.drop o).take 8).toArray⟩, 0) := by
    unfold gatehouseref03_Read.f
    rw [hfit, Option.bind_some, if_pos rfl, hw, if_pos (by omega), if_pos (by omega), if_pos (by omega)]
    congr 2
    rw [Int.toNat_natCast, Int.toNat_natCast]
    unfold intsOf
    rw [← List.map_take, ← List.map_drop, strOf_ints, List.drop_take, show o + 8 - o = 8 by omega]
  have hsz : (⟨((s.data.toList.drop o).take 8).toArray⟩ : ByteArray).size = 8 := by
    show ((s.data.toList.drop o).take 8).toArray.size = 8
    rw [List.size_toArray, List.length_take, List.length_drop]
    omega
  unfold gatehouseref03_Word.f
  rw [hrd, Option.bind_some]
  have hi : wrap64 (((⟨((s.data.toList.drop o).take 8).toArray⟩ : ByteArray).size : Int) - 1) = ((8 : Nat) : Int) - 1 := by rw [hsz]; unfold wrap64; omega
  show gatehouseref03_Word.l0 k _ 0 0 (wrap64 (((⟨((s.data.toList.drop o).take 8).toArray⟩ : ByteArray).size : Int) - 1)) = _
  rw [hi]
  have hlt := leN_lt (⟨((s.data.toList.drop o).take 8).toArray⟩ : ByteArray) 0 8
  have := word_loop _ hsz 0 8 k 0 (by omega) hk (by rw [Nat.zero_mul, Nat.zero_add]; exact hlt)
  rw [Nat.zero_mul, Nat.zero_add, leN_eq _ s o 8 fun j hj => byN_take s o j hj] at this
  exact this
end Go.Proofs.YtijnlgmclaphhaaDoor
/-! Plain laws of the reference: Named, Good, Size, Right are the directory's own. -/
namespace Go.Proofs.YtijnlgmclaphhaaDoor
open Go Go.RowKit Go.Proofs.YtijnlgmclaphhaaDoorZ Go.Proofs.YtijnlgmclaphhaaDoorW.PrintWords

theorem bt_at' (s : ByteArray) (i : Nat) (h : i < s.data.toList.length) : bt s (i : Int) = ((s.data.toList[i]).toNat : Int) := by
  have e : s.size = s.data.toList.length := (Array.length_toList (xs := s.data)).symm
  unfold bt
  rw [Int.toNat_natCast, dif_pos (by omega)]
  rfl
theorem named_l0 (s : ByteArray) (hs : s.size ≤ 1000) (n : Nat) : ∀ (k i : Nat), s.size - i = n → i ≤ s.size → n < k → gatehouseref13_Named.l0 k s (i : Int) = some (!((s.data.toList.drop i).any badB)) := by
  have hd : s.size = s.data.toList.length := (Array.length_toList (xs := s.data)).symm
  induction n with
  | zero =>
    intro k i h hi hk
    obtain ⟨k, rfl⟩ : ∃ q, k = q + 1 := ⟨k - 1, by omega⟩
    simp only [gatehouseref13_Named.l0]
    rw [if_neg (by omega), List.drop_of_length_le (by omega)]; rfl
  | succ n ih =>
    intro k i h hi hk
    obtain ⟨k, rfl⟩ : ∃ q, k = q + 1 := ⟨k - 1, by omega⟩
    have hlt : i < s.data.toList.length := by omega
    simp only [gatehouseref13_Named.l0]
    rw [if_pos (by omega), if_pos (by omega), bt_at' s i hlt, w64 (x := (i : Int) + 1) (by omega) (by omega), List.drop_eq_getElem_cons hlt, List.any_cons]
    have z0 : (0 : UInt8).toNat = 0 := rfl
    have z47 : (47 : UInt8).toNat = 47 := rfl
    by_cases h0 : s.data.toList[i] = 0
    · rw [if_pos (by rw [h0]; rfl), h0]; rfl
    · rw [if_neg (fun e => h0 (by apply UInt8.toNat_inj.1; rw [z0]; omega))]
      by_cases h47 : s.data.toList[i] = 47
      · rw [if_pos (by rw [h47]; rfl), h47]; rfl
      · rw [if_neg (fun e => h47 (by apply UInt8.toNat_inj.1; rw [z47]; omega))]
        have hb : badB s.data.toList[i] = false := by
          unfold badB
          rw [Bool.or_eq_false_iff, beq_eq_false_iff_ne, beq_eq_false_iff_ne]
          exact ⟨h47, h0⟩
        rw [hb, Bool.false_or]
        exact ih k (i + 1) (by omega) (by omega) (by omega)
theorem named_f (s : ByteArray) (k : Nat) (hk : 100 < k) : gatehouseref13_Named.f k s = some (fitsB s) := by
  have jt : gatehouseref13_Named.j0 k s true = some false := by
    obtain ⟨k, rfl⟩ : ∃ q, k = q + 1 := ⟨k - 1, by omega⟩
    rw [gatehouseref13_Named.j0, if_pos rfl]
  unfold gatehouseref13_Named.f fitsB
  by_cases h1 : 1 ≤ s.size
  · rw [if_neg (by omega), decide_eq_true h1]
    by_cases h2 : s.size ≤ 32
    · rw [if_neg (by omega), decide_eq_true h2]
      by_cases h3 : s.toList = [46]
      · rw [if_pos h3, jt, h3]; rfl
      · rw [if_neg h3]
        have e3 : (s.toList != [46]) = true := by rw [bne_iff_ne]; exact h3
        rw [e3]
        by_cases h4 : s.toList = [46, 46]
        · rw [h4]
          show gatehouseref13_Named.j0 k s true = _
          rw [jt]; rfl
        · have e4 : (s.toList == [46, 46]) = false := beq_eq_false_iff_ne.2 h4
          have e5 : (s.toList != [46, 46]) = true := by rw [bne_iff_ne]; exact h4
          rw [e4, e5]
          obtain ⟨k, rfl⟩ : ∃ q, k = q + 1 := ⟨k - 1, by omega⟩
          rw [gatehouseref13_Named.j0, if_neg (by simp)]
          exact named_l0 s (by omega) s.size k 0 (by omega) (by omega) (by omega)
    · rw [if_pos (by omega), jt, decide_eq_false h2]; simp
  · rw [if_pos (by omega), jt, decide_eq_false h1]; simp
theorem good_f (x : Nm) (k : Nat) (hk : 100 < k) : gatehouseref13_Good.f k x.f0 x.f1 x.f2 = some (okN x) := by
  have hc : gatehouseref01_Cat.f x.f2 = some (idOk x.f2) := by
    unfold gatehouseref01_Cat.f idOk
    by_cases h : x.f2 ≥ 1
    · rw [if_pos h, decide_eq_true (show 1 ≤ x.f2 from h), Bool.true_and]
    · rw [if_neg h, decide_eq_false (show ¬ 1 ≤ x.f2 from h), Bool.false_and]
  unfold gatehouseref13_Good.f okN kindOk
  rw [named_f _ k hk, Option.bind_some]
  cases fitsB x.f0 with
  | false => rfl
  | true =>
    rw [if_pos rfl]
    by_cases h1 : x.f1 = 1
    · rw [if_pos h1, hc, h1]; simp
    · rw [if_neg h1]
      by_cases h2 : x.f1 = 2
      · rw [if_pos h2, hc, h2]; simp
      · rw [if_neg h2]
        have e1 : (x.f1 == 1) = false := beq_eq_false_iff_ne.2 h1
        have e2 : (x.f1 == 2) = false := beq_eq_false_iff_ne.2 h2
        rw [e1, e2]; rfl
theorem rsize_loop (l : List Nm) (hs : ∀ x ∈ l, x.f0.size ≤ 32) (hl : l.length ≤ 4398046511104) (n : Nat) : ∀ (k i : Nat), l.length - i = n → i ≤ l.length → n < k → gatehouseref13_Size.l0 k (sizeN (l.take i) : Nat) l (l.length : Int) (i : Int) = some (sizeN l : Int) := by
  induction n with
  | zero =>
    intro k i h hi hk
    obtain ⟨k, rfl⟩ : ∃ q, k = q + 1 := ⟨k - 1, by omega⟩
    obtain rfl : i = l.length := by omega
    simp only [gatehouseref13_Size.l0]
    rw [if_neg (by omega), List.take_length]
  | succ n ih =>
    intro k i h hi hk
    obtain ⟨k, rfl⟩ : ∃ q, k = q + 1 := ⟨k - 1, by omega⟩
    have hlt : i < l.length := by omega
    have hT := sizeN_hi (l.take i) fun x hx => hs x (List.mem_of_mem_take hx)
    rw [List.length_take] at hT
    have hx := hs _ (List.getElem_mem hlt)
    simp only [gatehouseref13_Size.l0]
    rw [if_pos (by omega), if_pos (by omega), if_pos (by omega), rd_at l i hlt, w64 (x := 1 + _) (by omega) (by omega), w64 (x := 1 + ((l[i]).f0.size : Int) + 1) (by omega) (by omega), w64 (x := 1 + ((l[i]).f0.size : Int) + 1 + 8) (by omega) (by omega), w64 (x := (sizeN (l.take i) : Int) + _) (by omega) (by omega), w64 (x := (i : Int) + 1) (by omega) (by omega)]
    have := ih k (i + 1) (by omega) (by omega) (by omega)
    rw [sizeN_take l i hlt] at this
    push_cast at this
    rw [← this]
    congr 1
    omega
theorem rsize_f (l : List Nm) (hs : ∀ x ∈ l, x.f0.size ≤ 32) (hl : l.length ≤ 4398046511104) (k : Nat) (hk : l.length < k) : gatehouseref13_Size.f k l = some (sizeN l : Int) := by
  unfold gatehouseref13_Size.f
  exact rsize_loop l hs hl l.length k 0 (by omega) (by omega) hk
def lastN (l : List Nm) (i : Nat) : ByteArray := if h : 0 < i ∧ i ≤ l.length then (l[i - 1]'(by omega)).f0 else ⟨#[]⟩
theorem rRight_loop (l : List Nm) (hl : l.length ≤ 4398046511104) (n : Nat) : ∀ (k i : Nat), l.length - i = n → i ≤ l.length → n + l.length + 200 < k → (∀ x ∈ l.take i, okN x = true) → ordL l = ordFrom (lastN l i) (l.drop i) →
    gatehouseref13_Right.l0 k l l (l.length : Int) (i : Int) = some (rightL l) := by
  induction n with
  | zero =>
    intro k i h hi hk ho he
    obtain ⟨k, rfl⟩ : ∃ q, k = q + 1 := ⟨k - 1, by omega⟩
    obtain rfl : i = l.length := by omega
    rw [List.drop_length] at he
    rw [List.take_length] at ho
    simp only [gatehouseref13_Right.l0]
    rw [if_neg (by omega), rsize_f l (fun x hx => (okN_size (ho x hx)).2) hl k (by omega), Option.bind_some]
    unfold rightL
    rw [he]
    show some (decide ((sizeN l : Int) ≤ 4096)) = some (decide (sizeN l ≤ 4096))
    congr 1
    exact decide_eq_decide.2 (by omega)
  | succ n ih =>
    intro k i h hi hk ho he
    obtain ⟨k, rfl⟩ : ∃ q, k = q + 1 := ⟨k - 1, by omega⟩
    have hlt : i < l.length := by omega
    rw [ordFrom_drop l i hlt] at he
    simp only [gatehouseref13_Right.l0]
    rw [if_pos (by omega), if_pos (by omega), if_pos (by omega), rd_at l i hlt, good_f _ k (by omega), Option.bind_some]
    cases hk1 : okN l[i] with
    | false =>
      rw [if_neg (by simp)]
      rw [hk1] at he
      unfold rightL
      rw [he]; rfl
    | true =>
      rw [if_pos rfl, w64 (x := (i : Int) + 1) (by omega) (by omega)]
      rw [hk1] at he
      have hln : lastN l (i + 1) = (l[i]).f0 := by
        unfold lastN
        rw [dif_pos ⟨by omega, by omega⟩]; rfl
      have go : blt (lastN l i) (l[i]).f0 = true → gatehouseref13_Right.l0 k l l (l.length : Int) ((i : Int) + 1) = some (rightL l) := by
        intro hb
        rw [hb] at he
        refine ih k (i + 1) (by omega) (by omega) (by omega) ?_ (by rw [he, hln]; rfl)
        intro x hx
        rw [List.take_succ_eq_append_getElem hlt, List.mem_append] at hx
        rcases hx with hx | hx
        · exact ho x hx
        · rw [List.mem_singleton.1 hx]; exact hk1
      by_cases h0 : 0 < i
      · have hli : lastN l i = (l[i - 1]'(by omega)).f0 := by unfold lastN; rw [dif_pos ⟨h0, by omega⟩]
        have hidx : rd_T25 l ((i : Int) - 1) = l[i - 1]'(by omega) := by
          rw [show ((i : Int) - 1) = ((i - 1 : Nat) : Int) by omega]
          exact rd_at l (i - 1) (by omega)
        rw [if_pos (by omega), w64 (x := (i : Int) - 1) (by omega) (by omega), if_pos (by omega), if_pos (by omega), hidx, ← hli]
        cases hb : blt (lastN l i) (l[i]).f0 with
        | false =>
          rw [if_neg (by unfold blt at hb; rw [hb]; simp)]
          rw [hb] at he
          unfold rightL
          rw [he]; rfl
        | true =>
          rw [if_pos (show Op.bytesLess (lastN l i).toList (l[i]).f0.toList = true from hb)]
          exact go hb
      · rw [if_neg (by omega)]
        refine go ?_
        have : lastN l i = ⟨#[]⟩ := by unfold lastN; rw [dif_neg (by omega)]
        rw [this]
        exact blt_empty (okN_size hk1).1
theorem rRight_f (l : List Nm) (hl : l.length ≤ 4398046511104) (k : Nat) (hk : 2 * l.length + 300 < k) : gatehouseref13_Right.f k l = some (rightL l) := by
  unfold gatehouseref13_Right.f
  refine rRight_loop l hl l.length k 0 (by omega) (by omega) (by omega) (by simp) ?_
  unfold lastN
  rw [dif_neg (by omega)]; rfl
end Go.Proofs.YtijnlgmclaphhaaDoor
