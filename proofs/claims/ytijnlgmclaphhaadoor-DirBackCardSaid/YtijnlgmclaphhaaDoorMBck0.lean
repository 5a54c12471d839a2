import Derived.Test.YtijnlgmclaphhaaDoorZ0
import Derived.Test.YtijnlgmclaphhaaDoorZ36
import Derived.Test.YtijnlgmclaphhaaDoorE
import Derived.Test.YtijnlgmclaphhaaDoorN1
import Derived.Test.YtijnlgmclaphhaaDoorU2
import Derived.Test.YtijnlgmclaphhaaDoorGD
import Derived.Test.YtijnlgmclaphhaaDoorX
import Derived.Test.YtijnlgmclaphhaaDoorN2
import Derived.Test.YtijnlgmclaphhaaDoorZ17
-- Written by a program of this session (gprint.py, over the kit's printer).
namespace Go.Proofs.YtijnlgmclaphhaaDoorZ
open Go.RowKit Go.Proofs.YtijnlgmclaphhaaDoorW.PrintWords Go.Proofs.YtijnlgmclaphhaaDoorW.PrintLast Go.Proofs.YtijnlgmclaphhaaDoorW.PrintMore
attribute [local go_sem] max2_int min2_int max_two min_two max_three min_three max_four min_four   -- for this text's walks alone
set_option linter.unusedVariables false
set_option linter.unusedSimpArgs false

/-! ### gatehouselaw13_lives: function 10 -/
def gatehouselaw13_lives.f (k : Nat)  : Option (Bool) := (dir_Put.f ([] : List (S25)) (⟨#[98]⟩ : ByteArray) 1 7).bind fun bt126 => ((dir_Put.f bt126.1 (⟨#[97]⟩ : ByteArray) 2 9).bind fun bt130 => ((dir_Encode.f bt130.1).bind fun bt134 => ((dir_Split.f (⟨#[47, 97, 47, 47, 46, 47, 98, 47, 46, 46, 47, 99]⟩ : ByteArray)).bind fun bt136 => (if bt126.2 = 0 then (if bt130.2 = 0 then (if bt134.2 = 0 then (if bt136.2 = 0 then (if bt134.1.toList = ([1, 97, 2, 9, 0, 0, 0, 0, 0, 0, 0, 1, 98, 1, 7, 0, 0, 0, 0, 0, 0, 0] : List UInt8) then ((gatehouseref13_SameTexts.f k bt136.1 (([(⟨#[97]⟩ : ByteArray), (⟨#[99]⟩ : ByteArray)] : List ByteArray))).bind fun t143 => (some t143)) else (some false)) else (some false)) else (some false)) else (some false)) else (some false)))))
theorem gatehouselaw13_lives.mono : ∀ k, LeO (gatehouselaw13_lives.f k ) (gatehouselaw13_lives.f (k + 1) ) := by
  intro  k
  unfold gatehouselaw13_lives.f
  repeat' first
      | (with_reducible exact gatehouseref13_SameTexts.mono _ _ _)
      | (with_reducible exact LeO.refl _)
      | (with_reducible exact LeO.none _)
      | (with_reducible refine LeO.ite ?_ ?_)
      | (with_reducible refine LeO.bind ?_ (fun _ => ?_))
      | exact gatehouseref13_SameTexts.mono _ _ _
      | exact LeO.none _
      | refine LeO.ite ?_ ?_
      | refine LeO.bind ?_ (fun _ => ?_)
set_option maxHeartbeats 8000000 in
set_option maxRecDepth 100000 in
theorem gatehouselaw13_lives.calls (k : Nat)  (r : Bool) (w : World) (h : gatehouselaw13_lives.f k  = some r) :
    Calls Tryd.prog 10 #[] w fun e w' => e = .returned (.bool r) ∧ Below w.heap.size w w' := by
  have hu25 := Tryd.underlying25
  have HB := Aside0.mk (Below.refl w.heap.size w)
  have H : ((dir_Put.f ([] : List (S25)) (⟨#[98]⟩ : ByteArray) 1 7).bind fun bt126 => ((dir_Put.f bt126.1 (⟨#[97]⟩ : ByteArray) 2 9).bind fun bt130 => ((dir_Encode.f bt130.1).bind fun bt134 => ((dir_Split.f (⟨#[47, 97, 47, 47, 46, 47, 98, 47, 46, 46, 47, 99]⟩ : ByteArray)).bind fun bt136 => (if bt126.2 = 0 then (if bt130.2 = 0 then (if bt134.2 = 0 then (if bt136.2 = 0 then (if bt134.1.toList = ([1, 97, 2, 9, 0, 0, 0, 0, 0, 0, 0, 1, 98, 1, 7, 0, 0, 0, 0, 0, 0, 0] : List UInt8) then ((gatehouseref13_SameTexts.f k bt136.1 (([(⟨#[97]⟩ : ByteArray), (⟨#[99]⟩ : ByteArray)] : List ByteArray))).bind fun t143 => (some t143)) else (some false)) else (some false)) else (some false)) else (some false)) else (some false)))))) = some r := h
  clear h
  replace H := Option.bind_eq_some_iff.mp H
  obtain ⟨⟨t126, t129⟩, A10, H⟩ := H
  replace H : ((dir_Put.f t126 (⟨#[97]⟩ : ByteArray) 2 9).bind fun bt130 => ((dir_Encode.f bt130.1).bind fun bt134 => ((dir_Split.f (⟨#[47, 97, 47, 47, 46, 47, 98, 47, 46, 46, 47, 99]⟩ : ByteArray)).bind fun bt136 => (if t129 = 0 then (if bt130.2 = 0 then (if bt134.2 = 0 then (if bt136.2 = 0 then (if bt134.1.toList = ([1, 97, 2, 9, 0, 0, 0, 0, 0, 0, 0, 1, 98, 1, 7, 0, 0, 0, 0, 0, 0, 0] : List UInt8) then ((gatehouseref13_SameTexts.f k bt136.1 (([(⟨#[97]⟩ : ByteArray), (⟨#[99]⟩ : ByteArray)] : List ByteArray))).bind fun t143 => (some t143)) else (some false)) else (some false)) else (some false)) else (some false)) else (some false))))) = some r := H
  have A1 := Aside0.mk A10
  clear A10
  replace H := Option.bind_eq_some_iff.mp H
  obtain ⟨⟨t130, t133⟩, A20, H⟩ := H
  replace H : ((dir_Encode.f t130).bind fun bt134 => ((dir_Split.f (⟨#[47, 97, 47, 47, 46, 47, 98, 47, 46, 46, 47, 99]⟩ : ByteArray)).bind fun bt136 => (if t129 = 0 then (if t133 = 0 then (if bt134.2 = 0 then (if bt136.2 = 0 then (if bt134.1.toList = ([1, 97, 2, 9, 0, 0, 0, 0, 0, 0, 0, 1, 98, 1, 7, 0, 0, 0, 0, 0, 0, 0] : List UInt8) then ((gatehouseref13_SameTexts.f k bt136.1 (([(⟨#[97]⟩ : ByteArray), (⟨#[99]⟩ : ByteArray)] : List ByteArray))).bind fun t143 => (some t143)) else (some false)) else (some false)) else (some false)) else (some false)) else (some false)))) = some r := H
  have A2 := Aside0.mk A20
  clear A20
  replace H := Option.bind_eq_some_iff.mp H
  obtain ⟨⟨t134, t135⟩, A30, H⟩ := H
  replace H : ((dir_Split.f (⟨#[47, 97, 47, 47, 46, 47, 98, 47, 46, 46, 47, 99]⟩ : ByteArray)).bind fun bt136 => (if t129 = 0 then (if t133 = 0 then (if t135 = 0 then (if bt136.2 = 0 then (if t134.toList = ([1, 97, 2, 9, 0, 0, 0, 0, 0, 0, 0, 1, 98, 1, 7, 0, 0, 0, 0, 0, 0, 0] : List UInt8) then ((gatehouseref13_SameTexts.f k bt136.1 (([(⟨#[97]⟩ : ByteArray), (⟨#[99]⟩ : ByteArray)] : List ByteArray))).bind fun t143 => (some t143)) else (some false)) else (some false)) else (some false)) else (some false)) else (some false))) = some r := H
  have A3 := Aside0.mk A30
  clear A30
  replace H := Option.bind_eq_some_iff.mp H
  obtain ⟨⟨t136, t137⟩, A40, H⟩ := H
  replace H : (if t129 = 0 then (if t133 = 0 then (if t135 = 0 then (if t137 = 0 then (if t134.toList = ([1, 97, 2, 9, 0, 0, 0, 0, 0, 0, 0, 1, 98, 1, 7, 0, 0, 0, 0, 0, 0, 0] : List UInt8) then ((gatehouseref13_SameTexts.f k t136 (([(⟨#[97]⟩ : ByteArray), (⟨#[99]⟩ : ByteArray)] : List ByteArray))).bind fun t143 => (some t143)) else (some false)) else (some false)) else (some false)) else (some false)) else (some false)) = some r := H
  have A4 := Aside0.mk A40
  clear A40
  by_cases c5 : t129 = 0
  · rw [if_pos c5] at H
    have c5b0 : (t129 == 0) = true := beq_iff_eq.mpr c5
    have c5b1 : (t129 != 0) = false := bne_eq_false_iff_eq.mpr c5
    clear c5
    by_cases c6 : t133 = 0
    · rw [if_pos c6] at H
      have c6b0 : (t133 == 0) = true := beq_iff_eq.mpr c6
      have c6b1 : (t133 != 0) = false := bne_eq_false_iff_eq.mpr c6
      clear c6
      by_cases c7 : t135 = 0
      · rw [if_pos c7] at H
        have c7b0 : (t135 == 0) = true := beq_iff_eq.mpr c7
        have c7b1 : (t135 != 0) = false := bne_eq_false_iff_eq.mpr c7
        clear c7
        by_cases c8 : t137 = 0
        · rw [if_pos c8] at H
          have c8b0 : (t137 == 0) = true := beq_iff_eq.mpr c8
          have c8b1 : (t137 != 0) = false := bne_eq_false_iff_eq.mpr c8
          clear c8
          by_cases c9 : t134.toList = ([1, 97, 2, 9, 0, 0, 0, 0, 0, 0, 0, 1, 98, 1, 7, 0, 0, 0, 0, 0, 0, 0] : List UInt8)
          · rw [if_pos c9] at H
            have c9b0 : (t134.toList == ([1, 97, 2, 9, 0, 0, 0, 0, 0, 0, 0, 1, 98, 1, 7, 0, 0, 0, 0, 0, 0, 0] : List UInt8)) = true := beq_iff_eq.mpr c9
            have c9b1 : (t134.toList != ([1, 97, 2, 9, 0, 0, 0, 0, 0, 0, 0, 1, 98, 1, 7, 0, 0, 0, 0, 0, 0, 0] : List UInt8)) = false := bne_eq_false_iff_eq.mpr c9
            clear c9
            obtain ⟨y140, hy140⟩ : ∃ y_ : List ByteArray, y_ = (([(⟨#[97]⟩ : ByteArray), (⟨#[99]⟩ : ByteArray)] : List ByteArray)) := ⟨_, rfl⟩
            replace H : ((gatehouseref13_SameTexts.f k t136 y140).bind fun t143 => (some t143)) = some r := by first | (rw [hy140]; with_reducible exact H) | (have H2_ := (Option.bind_some _ _).symm.trans H; rw [hy140]; with_reducible exact H2_) | (have H2_ := (Option.bind_some _ _).symm.trans H; with_reducible exact H2_) | with_reducible exact H | (rw [hy140]; exact H) | exact H
            have Ny140 := Aside0.mk hy140
            clear hy140
            replace H := Option.bind_eq_some_iff.mp H
            obtain ⟨t143, A100, H⟩ := H
            replace H : (some t143) = some r := H
            have A10 := Aside0.mk A100
            clear A100
            obtain rfl := Option.some.inj H
            go_enter Tryd.func10, Tryd.ntmps10
            go_wp2_with (first | ((with_reducible refine gate_callee (f := 11) rfl ?_); refine goesL_ (some 11) rfl rfl Tryd.func11 (by kernel_rfl) rfl #[.slice none 0 0, .agg #[.string (⟨#[98]⟩ : ByteArray), .int .i64 1, .int .i64 7]] rfl (by (try simp only [List.map_toArray, List.map_cons, List.map_nil]); first | done | rfl | (simp only [List.length_drop, List.length_take]; rfl)) ?_; (refine (dir_Put.calls _ _ ([] : List (S25)) (⟨#[98]⟩ : ByteArray) 1 7 t126 t129 _ ?side1 ?side2 A1.out).mono ?_); (case side1 => exact Kd.C_nil _ _); (case side2 => exact Nat.le_refl _); rintro e w11 ⟨v127, rfl, ho0, hb⟩; refine ⟨_, rfl, ?_⟩; have n0_ := Aside0.mk (Kd.R_lower ho0 (below_size (by repeat (first | (with_reducible first | exact HB.out | apply below_alloc | apply pw_below_drewN | apply below_drew1) | exact HB.out)))); have n1_ := Aside0.mk (below_step (by repeat (first | (with_reducible first | exact HB.out | apply below_alloc | apply pw_below_drewN | apply below_drew1) | exact HB.out)) hb); clear HB; have HO128 := n0_; have HB := n1_; clear n0_ n1_; (try clear hb); (try clear hb2); (try clear hk); (try clear hi); (try clear ho0); obtain ⟨Ao12, co12, eo12⟩ := Kd.R_slice HO128.out; subst eo12) | ((with_reducible refine gate_callee (f := 11) rfl ?_); refine goesL_ (some 17) rfl rfl Tryd.func11 (by kernel_rfl) rfl #[.slice Ao12 t126.length co12, .agg #[.string (⟨#[97]⟩ : ByteArray), .int .i64 2, .int .i64 9]] rfl (by (try simp only [List.map_toArray, List.map_cons, List.map_nil]); first | done | rfl | (simp only [List.length_drop, List.length_take]; rfl)) ?_; (with_reducible refine (dir_Put.calls _ _ t126 (⟨#[97]⟩ : ByteArray) 2 9 t130 t133 _ ?side1 ?side2 A2.out).mono ?_); (case side1 => repeat (first | exact (Kd.R_reads' HO128.out).2.2 | (with_reducible refine Kd.C_alloc ?_ _) | (with_reducible refine Kd.C_drewN ?_ _) | (with_reducible refine Kd.C_drew ?_))); (case side2 => exact (Kd.R_reads' HO128.out).2.1); rintro e w13 ⟨v131, rfl, ho0, hb⟩; refine ⟨_, rfl, ?_⟩; have n0_ := Aside0.mk (Kd.R_elder' (by (with_reducible repeat (first | apply Kd.R_alloc | apply Kd.R_drewN | apply Kd.R_drew)); exact HO128.out) (Kd.R_base ho0) hb); have n1_ := Aside0.mk (Kd.R_lower (Kd.R_new' ho0 (Kd.R_lt (by (with_reducible repeat (first | apply Kd.R_alloc | apply Kd.R_drewN | apply Kd.R_drew)); exact HO128.out))) (below_size (by repeat (first | (with_reducible first | exact HB.out | apply below_alloc | apply pw_below_drewN | apply below_drew1) | exact HB.out)))); have n2_ := Aside0.mk (below_step (by repeat (first | (with_reducible first | exact HB.out | apply below_alloc | apply pw_below_drewN | apply below_drew1) | exact HB.out)) hb); clear HO128; clear HB; have HO128 := n0_; have HO132 := n1_; have HB := n2_; clear n0_ n1_ n2_; (try clear hb); (try clear hb2); (try clear hk); (try clear hi); (try clear ho0); obtain ⟨Ao14, co14, eo14⟩ := Kd.R_slice HO132.out; subst eo14) | ((with_reducible refine gate_callee (f := 15) rfl ?_); refine goesL_ (some 22) rfl rfl Tryd.func15 (by kernel_rfl) rfl #[.slice Ao14 t130.length co14] rfl (by (try simp only [List.map_toArray, List.map_cons, List.map_nil]); first | done | rfl | (simp only [List.length_drop, List.length_take]; rfl)) ?_; (with_reducible refine (dir_Encode.calls _ _ t130 t134 t135 _ ?side1 ?side2 A3.out).mono ?_); (case side1 => repeat (first | exact (Kd.R_reads' HO132.out).2.2 | (with_reducible refine Kd.C_alloc ?_ _) | (with_reducible refine Kd.C_drewN ?_ _) | (with_reducible refine Kd.C_drew ?_))); (case side2 => exact (Kd.R_reads' HO132.out).2.1); rintro e w15 ⟨rfl, hb⟩; refine ⟨_, rfl, ?_⟩; have n0_ := Aside0.mk (Kd.R_below (by (with_reducible repeat (first | apply Kd.R_alloc | apply Kd.R_drewN | apply Kd.R_drew)); exact HO128.out) hb); have n1_ := Aside0.mk (Kd.R_below (by (with_reducible repeat (first | apply Kd.R_alloc | apply Kd.R_drewN | apply Kd.R_drew)); exact HO132.out) hb); have n2_ := Aside0.mk (below_step (by repeat (first | (with_reducible first | exact HB.out | apply below_alloc | apply pw_below_drewN | apply below_drew1) | exact HB.out)) hb); clear HO128; clear HO132; clear HB; have HO128 := n0_; have HO132 := n1_; have HB := n2_; clear n0_ n1_ n2_; (try clear hb); (try clear hb2); (try clear hk); (try clear hi)) | ((with_reducible refine gate_callee (f := 24) rfl ?_); refine goesL_ (some 26) rfl rfl Tryd.func24 (by kernel_rfl) rfl #[.string (⟨#[47, 97, 47, 47, 46, 47, 98, 47, 46, 46, 47, 99]⟩ : ByteArray)] rfl (by (try simp only [List.map_toArray, List.map_cons, List.map_nil]); first | done | rfl | (simp only [List.length_drop, List.length_take]; rfl)) ?_; (with_reducible refine (dir_Split.calls (⟨#[47, 97, 47, 47, 46, 47, 98, 47, 46, 46, 47, 99]⟩ : ByteArray) t136 t137 _ A4.out).mono ?_); rintro e w16 ⟨v138, rfl, ho0, hb⟩; refine ⟨_, rfl, ?_⟩; have n0_ := Aside0.mk (Kd.R_below (by (with_reducible repeat (first | apply Kd.R_alloc | apply Kd.R_drewN | apply Kd.R_drew)); exact HO128.out) hb); have n1_ := Aside0.mk (Kd.R_below (by (with_reducible repeat (first | apply Kd.R_alloc | apply Kd.R_drewN | apply Kd.R_drew)); exact HO132.out) hb); have n2_ := Aside0.mk (Kd.R_lower ho0 (below_size (by repeat (first | (with_reducible first | exact HB.out | apply below_alloc | apply pw_below_drewN | apply below_drew1) | exact HB.out)))); have n3_ := Aside0.mk (below_step (by repeat (first | (with_reducible first | exact HB.out | apply below_alloc | apply pw_below_drewN | apply below_drew1) | exact HB.out)) hb); clear HO128; clear HO132; clear HB; have HO128 := n0_; have HO132 := n1_; have HO139 := n2_; have HB := n3_; clear n0_ n1_ n2_ n3_; (try clear hb); (try clear hb2); (try clear hk); (try clear hi); (try clear ho0)) | ((with_reducible refine gate_dst (N := 49) rfl ?_); (try (refine gate_guard (by rfl) ?_; dsimp only)); refine Kd.R_lit Kd.string _ 9 ?hg (N := 49) ?hd (xs := ([(⟨#[97]⟩ : ByteArray), (⟨#[99]⟩ : ByteArray)] : List ByteArray)) (inner := [.string (⟨#[97]⟩ : ByteArray), .string (⟨#[99]⟩ : ByteArray)]) (ok := fun _ => True) (okp := fun _ => True) ?hr ?hp (fun _ hk => hk) trivial (Below.refl _ _) (Nat.le_refl _) (by simp) ?_; (case hd => rfl); (case hg => rfl); (case hr => first | (go_simp; done) | (go_simp; rfl)); (case hp => exact (Reps.one (show Kd.M Kd.string _ _ _ (⟨#[97]⟩ : ByteArray) [.string (⟨#[97]⟩ : ByteArray)] from rfl) (Reps.one (show Kd.M Kd.string _ _ _ (⟨#[99]⟩ : ByteArray) [.string (⟨#[99]⟩ : ByteArray)] from rfl) (Reps.none _ _)))); intro v141 w17 ho18 hb hg_ hnew_; clear hg_ hnew_; (first | rw [← Ny140.out] at ho18 | (simp only [Int.reduceToNat] at ho18; rw [← Ny140.out] at ho18)); have n0_ := Aside0.mk (Kd.R_below (by (with_reducible repeat (first | apply Kd.R_alloc | apply Kd.R_drewN | apply Kd.R_drew)); exact HO128.out) hb); have n1_ := Aside0.mk (Kd.R_below (by (with_reducible repeat (first | apply Kd.R_alloc | apply Kd.R_drewN | apply Kd.R_drew)); exact HO132.out) hb); have n2_ := Aside0.mk (Kd.R_elder' (by (with_reducible repeat (first | apply Kd.R_alloc | apply Kd.R_drewN | apply Kd.R_drew)); exact HO139.out) (Kd.R_base ho18) hb); have n3_ := Aside0.mk (Kd.R_lower (Kd.R_new' ho18 (Kd.R_lt (by (with_reducible repeat (first | apply Kd.R_alloc | apply Kd.R_drewN | apply Kd.R_drew)); exact HO139.out))) (below_size (by repeat (first | (with_reducible first | exact HB.out | apply below_alloc | apply pw_below_drewN | apply below_drew1) | exact HB.out)))); have n4_ := Aside0.mk (below_step (by repeat (first | (with_reducible first | exact HB.out | apply below_alloc | apply pw_below_drewN | apply below_drew1) | exact HB.out)) hb); clear HO128; clear HO132; clear HO139; clear HB; have HO128 := n0_; have HO132 := n1_; have HO139 := n2_; have HO142 := n3_; have HB := n4_; clear n0_ n1_ n2_ n3_ n4_; clear hb ho18; obtain ⟨Ao19, co19, eo19⟩ := Kd.R_slice HO139.out; subst eo19; obtain ⟨Ao20, co20, eo20⟩ := Kd.R_slice HO142.out; subst eo20) | (go_at_call 26; (with_reducible refine (gatehouseref13_SameTexts.calls k _ _ t136 _ _ y140 t143 _ ?side1 ?side2 ?side3 ?side4 A10.out).mono ?_); (case side1 => repeat (first | exact (Kd.R_reads' HO139.out).2.2 | (with_reducible refine Kd.C_alloc ?_ _) | (with_reducible refine Kd.C_drewN ?_ _) | (with_reducible refine Kd.C_drew ?_))); (case side2 => exact (Kd.R_reads' HO139.out).2.1); (case side3 => repeat (first | exact (Kd.R_reads' HO142.out).2.2 | (with_reducible refine Kd.C_alloc ?_ _) | (with_reducible refine Kd.C_drewN ?_ _) | (with_reducible refine Kd.C_drew ?_))); (case side4 => exact (Kd.R_reads' HO142.out).2.1); rintro e w' ⟨rfl, ⟨nd, rfl⟩⟩))
            go_ret
            exact ⟨by first | rfl | (simp [errW_none, errW_some] <;> rfl) | (simp [*, errW_none, errW_some] <;> rfl), by repeat (first | (with_reducible first | exact HB.out | apply below_alloc | apply pw_below_drewN | apply below_drew1) | exact HB.out)⟩
          · rw [if_neg c9] at H
            have c9b0 : (t134.toList == ([1, 97, 2, 9, 0, 0, 0, 0, 0, 0, 0, 1, 98, 1, 7, 0, 0, 0, 0, 0, 0, 0] : List UInt8)) = false := beq_eq_false_iff_ne.mpr c9
            have c9b1 : (t134.toList != ([1, 97, 2, 9, 0, 0, 0, 0, 0, 0, 0, 1, 98, 1, 7, 0, 0, 0, 0, 0, 0, 0] : List UInt8)) = true := bne_iff_ne.mpr c9
            obtain rfl := Option.some.inj H
            go_enter Tryd.func10, Tryd.ntmps10
            go_wp2_with (first | ((with_reducible refine gate_callee (f := 11) rfl ?_); refine goesL_ (some 11) rfl rfl Tryd.func11 (by kernel_rfl) rfl #[.slice none 0 0, .agg #[.string (⟨#[98]⟩ : ByteArray), .int .i64 1, .int .i64 7]] rfl (by (try simp only [List.map_toArray, List.map_cons, List.map_nil]); first | done | rfl | (simp only [List.length_drop, List.length_take]; rfl)) ?_; (refine (dir_Put.calls _ _ ([] : List (S25)) (⟨#[98]⟩ : ByteArray) 1 7 t126 t129 _ ?side1 ?side2 A1.out).mono ?_); (case side1 => exact Kd.C_nil _ _); (case side2 => exact Nat.le_refl _); rintro e w21 ⟨v127, rfl, ho0, hb⟩; refine ⟨_, rfl, ?_⟩; have n0_ := Aside0.mk (Kd.R_lower ho0 (below_size (by repeat (first | (with_reducible first | exact HB.out | apply below_alloc | apply pw_below_drewN | apply below_drew1) | exact HB.out)))); have n1_ := Aside0.mk (below_step (by repeat (first | (with_reducible first | exact HB.out | apply below_alloc | apply pw_below_drewN | apply below_drew1) | exact HB.out)) hb); clear HB; have HO128 := n0_; have HB := n1_; clear n0_ n1_; (try clear hb); (try clear hb2); (try clear hk); (try clear hi); (try clear ho0); obtain ⟨Ao22, co22, eo22⟩ := Kd.R_slice HO128.out; subst eo22) | ((with_reducible refine gate_callee (f := 11) rfl ?_); refine goesL_ (some 17) rfl rfl Tryd.func11 (by kernel_rfl) rfl #[.slice Ao22 t126.length co22, .agg #[.string (⟨#[97]⟩ : ByteArray), .int .i64 2, .int .i64 9]] rfl (by (try simp only [List.map_toArray, List.map_cons, List.map_nil]); first | done | rfl | (simp only [List.length_drop, List.length_take]; rfl)) ?_; (with_reducible refine (dir_Put.calls _ _ t126 (⟨#[97]⟩ : ByteArray) 2 9 t130 t133 _ ?side1 ?side2 A2.out).mono ?_); (case side1 => repeat (first | exact (Kd.R_reads' HO128.out).2.2 | (with_reducible refine Kd.C_alloc ?_ _) | (with_reducible refine Kd.C_drewN ?_ _) | (with_reducible refine Kd.C_drew ?_))); (case side2 => exact (Kd.R_reads' HO128.out).2.1); rintro e w23 ⟨v131, rfl, ho0, hb⟩; refine ⟨_, rfl, ?_⟩; have n0_ := Aside0.mk (Kd.R_elder' (by (with_reducible repeat (first | apply Kd.R_alloc | apply Kd.R_drewN | apply Kd.R_drew)); exact HO128.out) (Kd.R_base ho0) hb); have n1_ := Aside0.mk (Kd.R_lower (Kd.R_new' ho0 (Kd.R_lt (by (with_reducible repeat (first | apply Kd.R_alloc | apply Kd.R_drewN | apply Kd.R_drew)); exact HO128.out))) (below_size (by repeat (first | (with_reducible first | exact HB.out | apply below_alloc | apply pw_below_drewN | apply below_drew1) | exact HB.out)))); have n2_ := Aside0.mk (below_step (by repeat (first | (with_reducible first | exact HB.out | apply below_alloc | apply pw_below_drewN | apply below_drew1) | exact HB.out)) hb); clear HO128; clear HB; have HO128 := n0_; have HO132 := n1_; have HB := n2_; clear n0_ n1_ n2_; (try clear hb); (try clear hb2); (try clear hk); (try clear hi); (try clear ho0); obtain ⟨Ao24, co24, eo24⟩ := Kd.R_slice HO132.out; subst eo24) | ((with_reducible refine gate_callee (f := 15) rfl ?_); refine goesL_ (some 22) rfl rfl Tryd.func15 (by kernel_rfl) rfl #[.slice Ao24 t130.length co24] rfl (by (try simp only [List.map_toArray, List.map_cons, List.map_nil]); first | done | rfl | (simp only [List.length_drop, List.length_take]; rfl)) ?_; (with_reducible refine (dir_Encode.calls _ _ t130 t134 t135 _ ?side1 ?side2 A3.out).mono ?_); (case side1 => repeat (first | exact (Kd.R_reads' HO132.out).2.2 | (with_reducible refine Kd.C_alloc ?_ _) | (with_reducible refine Kd.C_drewN ?_ _) | (with_reducible refine Kd.C_drew ?_))); (case side2 => exact (Kd.R_reads' HO132.out).2.1); rintro e w25 ⟨rfl, hb⟩; refine ⟨_, rfl, ?_⟩; have n0_ := Aside0.mk (Kd.R_below (by (with_reducible repeat (first | apply Kd.R_alloc | apply Kd.R_drewN | apply Kd.R_drew)); exact HO128.out) hb); have n1_ := Aside0.mk (Kd.R_below (by (with_reducible repeat (first | apply Kd.R_alloc | apply Kd.R_drewN | apply Kd.R_drew)); exact HO132.out) hb); have n2_ := Aside0.mk (below_step (by repeat (first | (with_reducible first | exact HB.out | apply below_alloc | apply pw_below_drewN | apply below_drew1) | exact HB.out)) hb); clear HO128; clear HO132; clear HB; have HO128 := n0_; have HO132 := n1_; have HB := n2_; clear n0_ n1_ n2_; (try clear hb); (try clear hb2); (try clear hk); (try clear hi)) | ((with_reducible refine gate_callee (f := 24) rfl ?_); refine goesL_ (some 26) rfl rfl Tryd.func24 (by kernel_rfl) rfl #[.string (⟨#[47, 97, 47, 47, 46, 47, 98, 47, 46, 46, 47, 99]⟩ : ByteArray)] rfl (by (try simp only [List.map_toArray, List.map_cons, List.map_nil]); first | done | rfl | (simp only [List.length_drop, List.length_take]; rfl)) ?_; (with_reducible refine (dir_Split.calls (⟨#[47, 97, 47, 47, 46, 47, 98, 47, 46, 46, 47, 99]⟩ : ByteArray) t136 t137 _ A4.out).mono ?_); rintro e w26 ⟨v138, rfl, ho0, hb⟩; refine ⟨_, rfl, ?_⟩; have n0_ := Aside0.mk (Kd.R_below (by (with_reducible repeat (first | apply Kd.R_alloc | apply Kd.R_drewN | apply Kd.R_drew)); exact HO128.out) hb); have n1_ := Aside0.mk (Kd.R_below (by (with_reducible repeat (first | apply Kd.R_alloc | apply Kd.R_drewN | apply Kd.R_drew)); exact HO132.out) hb); have n2_ := Aside0.mk (Kd.R_lower ho0 (below_size (by repeat (first | (with_reducible first | exact HB.out | apply below_alloc | apply pw_below_drewN | apply below_drew1) | exact HB.out)))); have n3_ := Aside0.mk (below_step (by repeat (first | (with_reducible first | exact HB.out | apply below_alloc | apply pw_below_drewN | apply below_drew1) | exact HB.out)) hb); clear HO128; clear HO132; clear HB; have HO128 := n0_; have HO132 := n1_; have HO139 := n2_; have HB := n3_; clear n0_ n1_ n2_ n3_; (try clear hb); (try clear hb2); (try clear hk); (try clear hi); (try clear ho0)))
            go_ret
            exact ⟨by first | rfl | (simp [errW_none, errW_some] <;> rfl) | (simp [*, errW_none, errW_some] <;> rfl), by repeat (first | (with_reducible first | exact HB.out | apply below_alloc | apply pw_below_drewN | apply below_drew1) | exact HB.out)⟩
        · rw [if_neg c8] at H
          have c8b0 : (t137 == 0) = false := beq_eq_false_iff_ne.mpr c8
          have c8b1 : (t137 != 0) = true := bne_iff_ne.mpr c8
          obtain rfl := Option.some.inj H
          go_enter Tryd.func10, Tryd.ntmps10
          go_wp2_with (first | ((with_reducible refine gate_callee (f := 11) rfl ?_); refine goesL_ (some 11) rfl rfl Tryd.func11 (by kernel_rfl) rfl #[.slice none 0 0, .agg #[.string (⟨#[98]⟩ : ByteArray), .int .i64 1, .int .i64 7]] rfl (by (try simp only [List.map_toArray, List.map_cons, List.map_nil]); first | done | rfl | (simp only [List.length_drop, List.length_take]; rfl)) ?_; (refine (dir_Put.calls _ _ ([] : List (S25)) (⟨#[98]⟩ : ByteArray) 1 7 t126 t129 _ ?side1 ?side2 A1.out).mono ?_); (case side1 => exact Kd.C_nil _ _); (case side2 => exact Nat.le_refl _); rintro e w27 ⟨v127, rfl, ho0, hb⟩; refine ⟨_, rfl, ?_⟩; have n0_ := Aside0.mk (Kd.R_lower ho0 (below_size (by repeat (first | (with_reducible first | exact HB.out | apply below_alloc | apply pw_below_drewN | apply below_drew1) | exact HB.out)))); have n1_ := Aside0.mk (below_step (by repeat (first | (with_reducible first | exact HB.out | apply below_alloc | apply pw_below_drewN | apply below_drew1) | exact HB.out)) hb); clear HB; have HO128 := n0_; have HB := n1_; clear n0_ n1_; (try clear hb); (try clear hb2); (try clear hk); (try clear hi); (try clear ho0); obtain ⟨Ao28, co28, eo28⟩ := Kd.R_slice HO128.out; subst eo28) | ((with_reducible refine gate_callee (f := 11) rfl ?_); refine goesL_ (some 17) rfl rfl Tryd.func11 (by kernel_rfl) rfl #[.slice Ao28 t126.length co28, .agg #[.string (⟨#[97]⟩ : ByteArray), .int .i64 2, .int .i64 9]] rfl (by (try simp only [List.map_toArray, List.map_cons, List.map_nil]); first | done | rfl | (simp only [List.length_drop, List.length_take]; rfl)) ?_; (with_reducible refine (dir_Put.calls _ _ t126 (⟨#[97]⟩ : ByteArray) 2 9 t130 t133 _ ?side1 ?side2 A2.out).mono ?_); (case side1 => repeat (first | exact (Kd.R_reads' HO128.out).2.2 | (with_reducible refine Kd.C_alloc ?_ _) | (with_reducible refine Kd.C_drewN ?_ _) | (with_reducible refine Kd.C_drew ?_))); (case side2 => exact (Kd.R_reads' HO128.out).2.1); rintro e w29 ⟨v131, rfl, ho0, hb⟩; refine ⟨_, rfl, ?_⟩; have n0_ := Aside0.mk (Kd.R_elder' (by (with_reducible repeat (first | apply Kd.R_alloc | apply Kd.R_drewN | apply Kd.R_drew)); exact HO128.out) (Kd.R_base ho0) hb); have n1_ := Aside0.mk (Kd.R_lower (Kd.R_new' ho0 (Kd.R_lt (by (with_reducible repeat (first | apply Kd.R_alloc | apply Kd.R_drewN | apply Kd.R_drew)); exact HO128.out))) (below_size (by repeat (first | (with_reducible first | exact HB.out | apply below_alloc | apply pw_below_drewN | apply below_drew1) | exact HB.out)))); have n2_ := Aside0.mk (below_step (by repeat (first | (with_reducible first | exact HB.out | apply below_alloc | apply pw_below_drewN | apply below_drew1) | exact HB.out)) hb); clear HO128; clear HB; have HO128 := n0_; have HO132 := n1_; have HB := n2_; clear n0_ n1_ n2_; (try clear hb); (try clear hb2); (try clear hk); (try clear hi); (try clear ho0); obtain ⟨Ao30, co30, eo30⟩ := Kd.R_slice HO132.out; subst eo30) | ((with_reducible refine gate_callee (f := 15) rfl ?_); refine goesL_ (some 22) rfl rfl Tryd.func15 (by kernel_rfl) rfl #[.slice Ao30 t130.length co30] rfl (by (try simp only [List.map_toArray, List.map_cons, List.map_nil]); first | done | rfl | (simp only [List.length_drop, List.length_take]; rfl)) ?_; (with_reducible refine (dir_Encode.calls _ _ t130 t134 t135 _ ?side1 ?side2 A3.out).mono ?_); (case side1 => repeat (first | exact (Kd.R_reads' HO132.out).2.2 | (with_reducible refine Kd.C_alloc ?_ _) | (with_reducible refine Kd.C_drewN ?_ _) | (with_reducible refine Kd.C_drew ?_))); (case side2 => exact (Kd.R_reads' HO132.out).2.1); rintro e w31 ⟨rfl, hb⟩; refine ⟨_, rfl, ?_⟩; have n0_ := Aside0.mk (Kd.R_below (by (with_reducible repeat (first | apply Kd.R_alloc | apply Kd.R_drewN | apply Kd.R_drew)); exact HO128.out) hb); have n1_ := Aside0.mk (Kd.R_below (by (with_reducible repeat (first | apply Kd.R_alloc | apply Kd.R_drewN | apply Kd.R_drew)); exact HO132.out) hb); have n2_ := Aside0.mk (below_step (by repeat (first | (with_reducible first | exact HB.out | apply below_alloc | apply pw_below_drewN | apply below_drew1) | exact HB.out)) hb); clear HO128; clear HO132; clear HB; have HO128 := n0_; have HO132 := n1_; have HB := n2_; clear n0_ n1_ n2_; (try clear hb); (try clear hb2); (try clear hk); (try clear hi)) | ((with_reducible refine gate_callee (f := 24) rfl ?_); refine goesL_ (some 26) rfl rfl Tryd.func24 (by kernel_rfl) rfl #[.string (⟨#[47, 97, 47, 47, 46, 47, 98, 47, 46, 46, 47, 99]⟩ : ByteArray)] rfl (by (try simp only [List.map_toArray, List.map_cons, List.map_nil]); first | done | rfl | (simp only [List.length_drop, List.length_take]; rfl)) ?_; (with_reducible refine (dir_Split.calls (⟨#[47, 97, 47, 47, 46, 47, 98, 47, 46, 46, 47, 99]⟩ : ByteArray) t136 t137 _ A4.out).mono ?_); rintro e w32 ⟨v138, rfl, ho0, hb⟩; refine ⟨_, rfl, ?_⟩; have n0_ := Aside0.mk (Kd.R_below (by (with_reducible repeat (first | apply Kd.R_alloc | apply Kd.R_drewN | apply Kd.R_drew)); exact HO128.out) hb); have n1_ := Aside0.mk (Kd.R_below (by (with_reducible repeat (first | apply Kd.R_alloc | apply Kd.R_drewN | apply Kd.R_drew)); exact HO132.out) hb); have n2_ := Aside0.mk (Kd.R_lower ho0 (below_size (by repeat (first | (with_reducible first | exact HB.out | apply below_alloc | apply pw_below_drewN | apply below_drew1) | exact HB.out)))); have n3_ := Aside0.mk (below_step (by repeat (first | (with_reducible first | exact HB.out | apply below_alloc | apply pw_below_drewN | apply below_drew1) | exact HB.out)) hb); clear HO128; clear HO132; clear HB; have HO128 := n0_; have HO132 := n1_; have HO139 := n2_; have HB := n3_; clear n0_ n1_ n2_ n3_; (try clear hb); (try clear hb2); (try clear hk); (try clear hi); (try clear ho0)))
          go_ret
          exact ⟨by first | rfl | (simp [errW_none, errW_some] <;> rfl) | (simp [*, errW_none, errW_some] <;> rfl), by repeat (first | (with_reducible first | exact HB.out | apply below_alloc | apply pw_below_drewN | apply below_drew1) | exact HB.out)⟩
      · rw [if_neg c7] at H
        have c7b0 : (t135 == 0) = false := beq_eq_false_iff_ne.mpr c7
        have c7b1 : (t135 != 0) = true := bne_iff_ne.mpr c7
        obtain rfl := Option.some.inj H
        go_enter Tryd.func10, Tryd.ntmps10
        go_wp2_with (first | ((with_reducible refine gate_callee (f := 11) rfl ?_); refine goesL_ (some 11) rfl rfl Tryd.func11 (by kernel_rfl) rfl #[.slice none 0 0, .agg #[.string (⟨#[98]⟩ : ByteArray), .int .i64 1, .int .i64 7]] rfl (by (try simp only [List.map_toArray, List.map_cons, List.map_nil]); first | done | rfl | (simp only [List.length_drop, List.length_take]; rfl)) ?_; (refine (dir_Put.calls _ _ ([] : List (S25)) (⟨#[98]⟩ : ByteArray) 1 7 t126 t129 _ ?side1 ?side2 A1.out).mono ?_); (case side1 => exact Kd.C_nil _ _); (case side2 => exact Nat.le_refl _); rintro e w33 ⟨v127, rfl, ho0, hb⟩; refine ⟨_, rfl, ?_⟩; have n0_ := Aside0.mk (Kd.R_lower ho0 (below_size (by repeat (first | (with_reducible first | exact HB.out | apply below_alloc | apply pw_below_drewN | apply below_drew1) | exact HB.out)))); have n1_ := Aside0.mk (below_step (by repeat (first | (with_reducible first | exact HB.out | apply below_alloc | apply pw_below_drewN | apply below_drew1) | exact HB.out)) hb); clear HB; have HO128 := n0_; have HB := n1_; clear n0_ n1_; (try clear hb); (try clear hb2); (try clear hk); (try clear hi); (try clear ho0); obtain ⟨Ao34, co34, eo34⟩ := Kd.R_slice HO128.out; subst eo34) | ((with_reducible refine gate_callee (f := 11) rfl ?_); refine goesL_ (some 17) rfl rfl Tryd.func11 (by kernel_rfl) rfl #[.slice Ao34 t126.length co34, .agg #[.string (⟨#[97]⟩ : ByteArray), .int .i64 2, .int .i64 9]] rfl (by (try simp only [List.map_toArray, List.map_cons, List.map_nil]); first | done | rfl | (simp only [List.length_drop, List.length_take]; rfl)) ?_; (with_reducible refine (dir_Put.calls _ _ t126 (⟨#[97]⟩ : ByteArray) 2 9 t130 t133 _ ?side1 ?side2 A2.out).mono ?_); (case side1 => repeat (first | exact (Kd.R_reads' HO128.out).2.2 | (with_reducible refine Kd.C_alloc ?_ _) | (with_reducible refine Kd.C_drewN ?_ _) | (with_reducible refine Kd.C_drew ?_))); (case side2 => exact (Kd.R_reads' HO128.out).2.1); rintro e w35 ⟨v131, rfl, ho0, hb⟩; refine ⟨_, rfl, ?_⟩; have n0_ := Aside0.mk (Kd.R_elder' (by (with_reducible repeat (first | apply Kd.R_alloc | apply Kd.R_drewN | apply Kd.R_drew)); exact HO128.out) (Kd.R_base ho0) hb); have n1_ := Aside0.mk (Kd.R_lower (Kd.R_new' ho0 (Kd.R_lt (by (with_reducible repeat (first | apply Kd.R_alloc | apply Kd.R_drewN | apply Kd.R_drew)); exact HO128.out))) (below_size (by repeat (first | (with_reducible first | exact HB.out | apply below_alloc | apply pw_below_drewN | apply below_drew1) | exact HB.out)))); have n2_ := Aside0.mk (below_step (by repeat (first | (with_reducible first | exact HB.out | apply below_alloc | apply pw_below_drewN | apply below_drew1) | exact HB.out)) hb); clear HO128; clear HB; have HO128 := n0_; have HO132 := n1_; have HB := n2_; clear n0_ n1_ n2_; (try clear hb); (try clear hb2); (try clear hk); (try clear hi); (try clear ho0); obtain ⟨Ao36, co36, eo36⟩ := Kd.R_slice HO132.out; subst eo36) | ((with_reducible refine gate_callee (f := 15) rfl ?_); refine goesL_ (some 22) rfl rfl Tryd.func15 (by kernel_rfl) rfl #[.slice Ao36 t130.length co36] rfl (by (try simp only [List.map_toArray, List.map_cons, List.map_nil]); first | done | rfl | (simp only [List.length_drop, List.length_take]; rfl)) ?_; (with_reducible refine (dir_Encode.calls _ _ t130 t134 t135 _ ?side1 ?side2 A3.out).mono ?_); (case side1 => repeat (first | exact (Kd.R_reads' HO132.out).2.2 | (with_reducible refine Kd.C_alloc ?_ _) | (with_reducible refine Kd.C_drewN ?_ _) | (with_reducible refine Kd.C_drew ?_))); (case side2 => exact (Kd.R_reads' HO132.out).2.1); rintro e w37 ⟨rfl, hb⟩; refine ⟨_, rfl, ?_⟩; have n0_ := Aside0.mk (Kd.R_below (by (with_reducible repeat (first | apply Kd.R_alloc | apply Kd.R_drewN | apply Kd.R_drew)); exact HO128.out) hb); have n1_ := Aside0.mk (Kd.R_below (by (with_reducible repeat (first | apply Kd.R_alloc | apply Kd.R_drewN | apply Kd.R_drew)); exact HO132.out) hb); have n2_ := Aside0.mk (below_step (by repeat (first | (with_reducible first | exact HB.out | apply below_alloc | apply pw_below_drewN | apply below_drew1) | exact HB.out)) hb); clear HO128; clear HO132; clear HB; have HO128 := n0_; have HO132 := n1_; have HB := n2_; clear n0_ n1_ n2_; (try clear hb); (try clear hb2); (try clear hk); (try clear hi)) | ((with_reducible refine gate_callee (f := 24) rfl ?_); refine goesL_ (some 26) rfl rfl Tryd.func24 (by kernel_rfl) rfl #[.string (⟨#[47, 97, 47, 47, 46, 47, 98, 47, 46, 46, 47, 99]⟩ : ByteArray)] rfl (by (try simp only [List.map_toArray, List.map_cons, List.map_nil]); first | done | rfl | (simp only [List.length_drop, List.length_take]; rfl)) ?_; (with_reducible refine (dir_Split.calls (⟨#[47, 97, 47, 47, 46, 47, 98, 47, 46, 46, 47, 99]⟩ : ByteArray) t136 t137 _ A4.out).mono ?_); rintro e w38 ⟨v138, rfl, ho0, hb⟩; refine ⟨_, rfl, ?_⟩; have n0_ := Aside0.mk (Kd.R_below (by (with_reducible repeat (first | apply Kd.R_alloc | apply Kd.R_drewN | apply Kd.R_drew)); exact HO128.out) hb); have n1_ := Aside0.mk (Kd.R_below (by (with_reducible repeat (first | apply Kd.R_alloc | apply Kd.R_drewN | apply Kd.R_drew)); exact HO132.out) hb); have n2_ := Aside0.mk (Kd.R_lower ho0 (below_size (by repeat (first | (with_reducible first | exact HB.out | apply below_alloc | apply pw_below_drewN | apply below_drew1) | exact HB.out)))); have n3_ := Aside0.mk (below_step (by repeat (first | (with_reducible first | exact HB.out | apply below_alloc | apply pw_below_drewN | apply below_drew1) | exact HB.out)) hb); clear HO128; clear HO132; clear HB; have HO128 := n0_; have HO132 := n1_; have HO139 := n2_; have HB := n3_; clear n0_ n1_ n2_ n3_; (try clear hb); (try clear hb2); (try clear hk); (try clear hi); (try clear ho0)))
        go_ret
        exact ⟨by first | rfl | (simp [errW_none, errW_some] <;> rfl) | (simp [*, errW_none, errW_some] <;> rfl), by repeat (first | (with_reducible first | exact HB.out | apply below_alloc | apply pw_below_drewN | apply below_drew1) | exact HB.out)⟩
    · rw [if_neg c6] at H
      have c6b0 : (t133 == 0) = false := beq_eq_false_iff_ne.mpr c6
      have c6b1 : (t133 != 0) = true := bne_iff_ne.mpr c6
      obtain rfl := Option.some.inj H
      go_enter Tryd.func10, Tryd.ntmps10
      go_wp2_with (first | ((with_reducible refine gate_callee (f := 11) rfl ?_); refine goesL_ (some 11) rfl rfl Tryd.func11 (by kernel_rfl) rfl #[.slice none 0 0, .agg #[.string (⟨#[98]⟩ : ByteArray), .int .i64 1, .int .i64 7]] rfl (by (try simp only [List.map_toArray, List.map_cons, List.map_nil]); first | done | rfl | (simp only [List.length_drop, List.length_take]; rfl)) ?_; (refine (dir_Put.calls _ _ ([] : List (S25)) (⟨#[98]⟩ : ByteArray) 1 7 t126 t129 _ ?side1 ?side2 A1.out).mono ?_); (case side1 => exact Kd.C_nil _ _); (case side2 => exact Nat.le_refl _); rintro e w39 ⟨v127, rfl, ho0, hb⟩; refine ⟨_, rfl, ?_⟩; have n0_ := Aside0.mk (Kd.R_lower ho0 (below_size (by repeat (first | (with_reducible first | exact HB.out | apply below_alloc | apply pw_below_drewN | apply below_drew1) | exact HB.out)))); have n1_ := Aside0.mk (below_step (by repeat (first | (with_reducible first | exact HB.out | apply below_alloc | apply pw_below_drewN | apply below_drew1) | exact HB.out)) hb); clear HB; have HO128 := n0_; have HB := n1_; clear n0_ n1_; (try clear hb); (try clear hb2); (try clear hk); (try clear hi); (try clear ho0); obtain ⟨Ao40, co40, eo40⟩ := Kd.R_slice HO128.out; subst eo40) | ((with_reducible refine gate_callee (f := 11) rfl ?_); refine goesL_ (some 17) rfl rfl Tryd.func11 (by kernel_rfl) rfl #[.slice Ao40 t126.length co40, .agg #[.string (⟨#[97]⟩ : ByteArray), .int .i64 2, .int .i64 9]] rfl (by (try simp only [List.map_toArray, List.map_cons, List.map_nil]); first | done | rfl | (simp only [List.length_drop, List.length_take]; rfl)) ?_; (with_reducible refine (dir_Put.calls _ _ t126 (⟨#[97]⟩ : ByteArray) 2 9 t130 t133 _ ?side1 ?side2 A2.out).mono ?_); (case side1 => repeat (first | exact (Kd.R_reads' HO128.out).2.2 | (with_reducible refine Kd.C_alloc ?_ _) | (with_reducible refine Kd.C_drewN ?_ _) | (with_reducible refine Kd.C_drew ?_))); (case side2 => exact (Kd.R_reads' HO128.out).2.1); rintro e w41 ⟨v131, rfl, ho0, hb⟩; refine ⟨_, rfl, ?_⟩; have n0_ := Aside0.mk (Kd.R_elder' (by (with_reducible repeat (first | apply Kd.R_alloc | apply Kd.R_drewN | apply Kd.R_drew)); exact HO128.out) (Kd.R_base ho0) hb); have n1_ := Aside0.mk (Kd.R_lower (Kd.R_new' ho0 (Kd.R_lt (by (with_reducible repeat (first | apply Kd.R_alloc | apply Kd.R_drewN | apply Kd.R_drew)); exact HO128.out))) (below_size (by repeat (first | (with_reducible first | exact HB.out | apply below_alloc | apply pw_below_drewN | apply below_drew1) | exact HB.out)))); have n2_ := Aside0.mk (below_step (by repeat (first | (with_reducible first | exact HB.out | apply below_alloc | apply pw_below_drewN | apply below_drew1) | exact HB.out)) hb); clear HO128; clear HB; have HO128 := n0_; have HO132 := n1_; have HB := n2_; clear n0_ n1_ n2_; (try clear hb); (try clear hb2); (try clear hk); (try clear hi); (try clear ho0); obtain ⟨Ao42, co42, eo42⟩ := Kd.R_slice HO132.out; subst eo42) | ((with_reducible refine gate_callee (f := 15) rfl ?_); refine goesL_ (some 22) rfl rfl Tryd.func15 (by kernel_rfl) rfl #[.slice Ao42 t130.length co42] rfl (by (try simp only [List.map_toArray, List.map_cons, List.map_nil]); first | done | rfl | (simp only [List.length_drop, List.length_take]; rfl)) ?_; (with_reducible refine (dir_Encode.calls _ _ t130 t134 t135 _ ?side1 ?side2 A3.out).mono ?_); (case side1 => repeat (first | exact (Kd.R_reads' HO132.out).2.2 | (with_reducible refine Kd.C_alloc ?_ _) | (with_reducible refine Kd.C_drewN ?_ _) | (with_reducible refine Kd.C_drew ?_))); (case side2 => exact (Kd.R_reads' HO132.out).2.1); rintro e w43 ⟨rfl, hb⟩; refine ⟨_, rfl, ?_⟩; have n0_ := Aside0.mk (Kd.R_below (by (with_reducible repeat (first | apply Kd.R_alloc | apply Kd.R_drewN | apply Kd.R_drew)); exact HO128.out) hb); have n1_ := Aside0.mk (Kd.R_below (by (with_reducible repeat (first | apply Kd.R_alloc | apply Kd.R_drewN | apply Kd.R_drew)); exact HO132.out) hb); have n2_ := Aside0.mk (below_step (by repeat (first | (with_reducible first | exact HB.out | apply below_alloc | apply pw_below_drewN | apply below_drew1) | exact HB.out)) hb); clear HO128; clear HO132; clear HB; have HO128 := n0_; have HO132 := n1_; have HB := n2_; clear n0_ n1_ n2_; (try clear hb); (try clear hb2); (try clear hk); (try clear hi)) | ((with_reducible refine gate_callee (f := 24) rfl ?_); refine goesL_ (some 26) rfl rfl Tryd.func24 (by kernel_rfl) rfl #[.string (⟨#[47, 97, 47, 47, 46, 47, 98, 47, 46, 46, 47, 99]⟩ : ByteArray)] rfl (by (try simp only [List.map_toArray, List.map_cons, List.map_nil]); first | done | rfl | (simp only [List.length_drop, List.length_take]; rfl)) ?_; (with_reducible refine (dir_Split.calls (⟨#[47, 97, 47, 47, 46, 47, 98, 47, 46, 46, 47, 99]⟩ : ByteArray) t136 t137 _ A4.out).mono ?_); rintro e w44 ⟨v138, rfl, ho0, hb⟩; refine ⟨_, rfl, ?_⟩; have n0_ := Aside0.mk (Kd.R_below (by (with_reducible repeat (first | apply Kd.R_alloc | apply Kd.R_drewN | apply Kd.R_drew)); exact HO128.out) hb); have n1_ := Aside0.mk (Kd.R_below (by (with_reducible repeat (first | apply Kd.R_alloc | apply Kd.R_drewN | apply Kd.R_drew)); exact HO132.out) hb); have n2_ := Aside0.mk (Kd.R_lower ho0 (below_size (by repeat (first | (with_reducible first | exact HB.out | apply below_alloc | apply pw_below_drewN | apply below_drew1) | exact HB.out)))); have n3_ := Aside0.mk (below_step (by repeat (first | (with_reducible first | exact HB.out | apply below_alloc | apply pw_below_drewN | apply below_drew1) | exact HB.out)) hb); clear HO128; clear HO132; clear HB; have HO128 := n0_; have HO132 := n1_; have HO139 := n2_; have HB := n3_; clear n0_ n1_ n2_ n3_; (try clear hb); (try clear hb2); (try clear hk); (try clear hi); (try clear ho0)))
      go_ret
      exact ⟨by first | rfl | (simp [errW_none, errW_some] <;> rfl) | (simp [*, errW_none, errW_some] <;> rfl), by repeat (first | (with_reducible first | exact HB.out | apply below_alloc | apply pw_below_drewN | apply below_drew1) | exact HB.out)⟩
  · rw [if_neg c5] at H
    have c5b0 : (t129 == 0) = false := beq_eq_false_iff_ne.mpr c5
    have c5b1 : (t129 != 0) = true := bne_iff_ne.mpr c5
    obtain rfl := Option.some.inj H
    go_enter Tryd.func10, Tryd.ntmps10
    go_wp2_with (first | ((with_reducible refine gate_callee (f := 11) rfl ?_); refine goesL_ (some 11) rfl rfl Tryd.func11 (by kernel_rfl) rfl #[.slice none 0 0, .agg #[.string (⟨#[98]⟩ : ByteArray), .int .i64 1, .int .i64 7]] rfl (by (try simp only [List.map_toArray, List.map_cons, List.map_nil]); first | done | rfl | (simp only [List.length_drop, List.length_take]; rfl)) ?_; (refine (dir_Put.calls _ _ ([] : List (S25)) (⟨#[98]⟩ : ByteArray) 1 7 t126 t129 _ ?side1 ?side2 A1.out).mono ?_); (case side1 => exact Kd.C_nil _ _); (case side2 => exact Nat.le_refl _); rintro e w45 ⟨v127, rfl, ho0, hb⟩; refine ⟨_, rfl, ?_⟩; have n0_ := Aside0.mk (Kd.R_lower ho0 (below_size (by repeat (first | (with_reducible first | exact HB.out | apply below_alloc | apply pw_below_drewN | apply below_drew1) | exact HB.out)))); have n1_ := Aside0.mk (below_step (by repeat (first | (with_reducible first | exact HB.out | apply below_alloc | apply pw_below_drewN | apply below_drew1) | exact HB.out)) hb); clear HB; have HO128 := n0_; have HB := n1_; clear n0_ n1_; (try clear hb); (try clear hb2); (try clear hk); (try clear hi); (try clear ho0); obtain ⟨Ao46, co46, eo46⟩ := Kd.R_slice HO128.out; subst eo46) | ((with_reducible refine gate_callee (f := 11) rfl ?_); refine goesL_ (some 17) rfl rfl Tryd.func11 (by kernel_rfl) rfl #[.slice Ao46 t126.length co46, .agg #[.string (⟨#[97]⟩ : ByteArray), .int .i64 2, .int .i64 9]] rfl (by (try simp only [List.map_toArray, List.map_cons, List.map_nil]); first | done | rfl | (simp only [List.length_drop, List.length_take]; rfl)) ?_; (with_reducible refine (dir_Put.calls _ _ t126 (⟨#[97]⟩ : ByteArray) 2 9 t130 t133 _ ?side1 ?side2 A2.out).mono ?_); (case side1 => repeat (first | exact (Kd.R_reads' HO128.out).2.2 | (with_reducible refine Kd.C_alloc ?_ _) | (with_reducible refine Kd.C_drewN ?_ _) | (with_reducible refine Kd.C_drew ?_))); (case side2 => exact (Kd.R_reads' HO128.out).2.1); rintro e w47 ⟨v131, rfl, ho0, hb⟩; refine ⟨_, rfl, ?_⟩; have n0_ := Aside0.mk (Kd.R_elder' (by (with_reducible repeat (first | apply Kd.R_alloc | apply Kd.R_drewN | apply Kd.R_drew)); exact HO128.out) (Kd.R_base ho0) hb); have n1_ := Aside0.mk (Kd.R_lower (Kd.R_new' ho0 (Kd.R_lt (by (with_reducible repeat (first | apply Kd.R_alloc | apply Kd.R_drewN | apply Kd.R_drew)); exact HO128.out))) (below_size (by repeat (first | (with_reducible first | exact HB.out | apply below_alloc | apply pw_below_drewN | apply below_drew1) | exact HB.out)))); have n2_ := Aside0.mk (below_step (by repeat (first | (with_reducible first | exact HB.out | apply below_alloc | apply pw_below_drewN | apply below_drew1) | exact HB.out)) hb); clear HO128; clear HB; have HO128 := n0_; have HO132 := n1_; have HB := n2_; clear n0_ n1_ n2_; (try clear hb); (try clear hb2); (try clear hk); (try clear hi); (try clear ho0); obtain ⟨Ao48, co48, eo48⟩ := Kd.R_slice HO132.out; subst eo48) | ((with_reducible refine gate_callee (f := 15) rfl ?_); refine goesL_ (some 22) rfl rfl Tryd.func15 (by kernel_rfl) rfl #[.slice Ao48 t130.length co48] rfl (by (try simp only [List.map_toArray, List.map_cons, List.map_nil]); first | done | rfl | (simp only [List.length_drop, List.length_take]; rfl)) ?_; (with_reducible refine (dir_Encode.calls _ _ t130 t134 t135 _ ?side1 ?side2 A3.out).mono ?_); (case side1 => repeat (first | exact (Kd.R_reads' HO132.out).2.2 | (with_reducible refine Kd.C_alloc ?_ _) | (with_reducible refine Kd.C_drewN ?_ _) | (with_reducible refine Kd.C_drew ?_))); (case side2 => exact (Kd.R_reads' HO132.out).2.1); rintro e w49 ⟨rfl, hb⟩; refine ⟨_, rfl, ?_⟩; have n0_ := Aside0.mk (Kd.R_below (by (with_reducible repeat (first | apply Kd.R_alloc | apply Kd.R_drewN | apply Kd.R_drew)); exact HO128.out) hb); have n1_ := Aside0.mk (Kd.R_below (by (with_reducible repeat (first | apply Kd.R_alloc | apply Kd.R_drewN | apply Kd.R_drew)); exact HO132.out) hb); have n2_ := Aside0.mk (below_step (by repeat (first | (with_reducible first | exact HB.out | apply below_alloc | apply pw_below_drewN | apply below_drew1) | exact HB.out)) hb); clear HO128; clear HO132; clear HB; have HO128 := n0_; have HO132 := n1_; have HB := n2_; clear n0_ n1_ n2_; (try clear hb); (try clear hb2); (try clear hk); (try clear hi)) | ((with_reducible refine gate_callee (f := 24) rfl ?_); refine goesL_ (some 26) rfl rfl Tryd.func24 (by kernel_rfl) rfl #[.string (⟨#[47, 97, 47, 47, 46, 47, 98, 47, 46, 46, 47, 99]⟩ : ByteArray)] rfl (by (try simp only [List.map_toArray, List.map_cons, List.map_nil]); first | done | rfl | (simp only [List.length_drop, List.length_take]; rfl)) ?_; (with_reducible refine (dir_Split.calls (⟨#[47, 97, 47, 47, 46, 47, 98, 47, 46, 46, 47, 99]⟩ : ByteArray) t136 t137 _ A4.out).mono ?_); rintro e w50 ⟨v138, rfl, ho0, hb⟩; refine ⟨_, rfl, ?_⟩; have n0_ := Aside0.mk (Kd.R_below (by (with_reducible repeat (first | apply Kd.R_alloc | apply Kd.R_drewN | apply Kd.R_drew)); exact HO128.out) hb); have n1_ := Aside0.mk (Kd.R_below (by (with_reducible repeat (first | apply Kd.R_alloc | apply Kd.R_drewN | apply Kd.R_drew)); exact HO132.out) hb); have n2_ := Aside0.mk (Kd.R_lower ho0 (below_size (by repeat (first | (with_reducible first | exact HB.out | apply below_alloc | apply pw_below_drewN | apply below_drew1) | exact HB.out)))); have n3_ := Aside0.mk (below_step (by repeat (first | (with_reducible first | exact HB.out | apply below_alloc | apply pw_below_drewN | apply below_drew1) | exact HB.out)) hb); clear HO128; clear HO132; clear HB; have HO128 := n0_; have HO132 := n1_; have HO139 := n2_; have HB := n3_; clear n0_ n1_ n2_ n3_; (try clear hb); (try clear hb2); (try clear hk); (try clear hi); (try clear ho0)))
    go_ret
    exact ⟨by first | rfl | (simp [errW_none, errW_some] <;> rfl) | (simp [*, errW_none, errW_some] <;> rfl), by repeat (first | (with_reducible first | exact HB.out | apply below_alloc | apply pw_below_drewN | apply below_drew1) | exact HB.out)⟩

end Go.Proofs.YtijnlgmclaphhaaDoorZ
-- Written by a program of this session (gprint.py, over the kit's printer).
namespace Go.Proofs.YtijnlgmclaphhaaDoorZ
open Go.RowKit Go.Proofs.YtijnlgmclaphhaaDoorW.PrintWords Go.Proofs.YtijnlgmclaphhaaDoorW.PrintLast Go.Proofs.YtijnlgmclaphhaaDoorW.PrintMore
attribute [local go_sem] max2_int min2_int max_two min_two max_three min_three max_four min_four   -- for this text's walks alone
set_option linter.unusedVariables false
set_option linter.unusedSimpArgs false

theorem eqA25 (d : Nat) (w : World) (x0 y0 : ByteArray) (x1 y1 : Int) (x2 y2 : Int) :
    (Op.equalIn (d + 2) 25 (.agg #[.string x0, .int .i64 x1, .int .i64 x2]) (.agg #[.string y0, .int .i64 y1, .int .i64 y2])).run Tryd.prog w = .ok (x0.toList == y0.toList && (x1 == y1 && (x2 == y2))) w := by
  refine eqA_of Tryd.underlying25 (by kernel_rfl) ?_
  refine eqf_cons (by rfl) (by go_simp; rfl) (by go_simp; rfl) (by go_simp) ?_
  refine eqf_cons (by rfl) (by go_simp; rfl) (by go_simp; rfl) (by go_simp) ?_
  exact eqf_last (by rfl) (by go_simp; rfl) (by go_simp; rfl) (by go_simp)
end Go.Proofs.YtijnlgmclaphhaaDoorZ
-- Written by a program of this session (gprint.py, over the kit's printer).
namespace Go.Proofs.YtijnlgmclaphhaaDoorZ
open Go.RowKit Go.Proofs.YtijnlgmclaphhaaDoorW.PrintWords Go.Proofs.YtijnlgmclaphhaaDoorW.PrintLast Go.Proofs.YtijnlgmclaphhaaDoorW.PrintMore
attribute [local go_sem] max2_int min2_int max_two min_two max_three min_three max_four min_four   -- for this text's walks alone
set_option linter.unusedVariables false
set_option linter.unusedSimpArgs false

attribute [local go_sem high] eqA25
/-! ### gatehouseref13_Same: function 12 -/
def gatehouseref13_Same.l0 : Nat → List (S25) → List (S25) → Int → Int → Option (Bool)
  | 0, _, _, _, _ => none
  | k + 1, x0, x1, x12, x13 => if x13 < x12 then (if 0 ≤ x13 then (if x13 < (x0.length : Int) then (if x13 < (x1.length : Int) then (if (!((((rd_T25 x0 x13).f0).toList) == (((rd_T25 x1 x13).f0).toList)) || (!(((rd_T25 x0 x13).f1) == ((rd_T25 x1 x13).f1)) || (!(((rd_T25 x0 x13).f2) == ((rd_T25 x1 x13).f2))))) = true then (some false) else (gatehouseref13_Same.l0 k x0 x1 x12 (wrap64 (x13 + 1)))) else (none)) else (none)) else (none)) else (some true)
def gatehouseref13_Same.f (k : Nat) (l0 : List (S25)) (l1 : List (S25)) : Option (Bool) := if (l0.length : Int) = (l1.length : Int) then (gatehouseref13_Same.l0 k l0 l1 (l0.length : Int) 0) else (some false)
theorem gatehouseref13_Same.mono_l : ∀ k, (∀ y0 y1 y2 y3, LeO (gatehouseref13_Same.l0 k y0 y1 y2 y3) (gatehouseref13_Same.l0 (k + 1) y0 y1 y2 y3))
  | 0 => fun _ _ _ _ r h => by simp [gatehouseref13_Same.l0] at h
  | k + 1 => by
    have ih0 := gatehouseref13_Same.mono_l k
    · intro y0 y1 y2 y3
      unfold gatehouseref13_Same.l0
      repeat' first
      | (with_reducible exact ih0 _ _ _ _)
      | (with_reducible exact LeO.refl _)
      | (with_reducible exact LeO.none _)
      | (with_reducible refine LeO.ite ?_ ?_)
      | (with_reducible refine LeO.bind ?_ (fun _ => ?_))
      | exact ih0 _ _ _ _
      | exact LeO.none _
      | refine LeO.ite ?_ ?_
      | refine LeO.bind ?_ (fun _ => ?_)
theorem gatehouseref13_Same.mono : ∀ a0 a1 k, LeO (gatehouseref13_Same.f k a0 a1) (gatehouseref13_Same.f (k + 1) a0 a1) := by
  intro a0 a1 k
  have ih0 := gatehouseref13_Same.mono_l k
  unfold gatehouseref13_Same.f
  repeat' first
      | (with_reducible exact ih0 _ _ _ _)
      | (with_reducible exact LeO.refl _)
      | (with_reducible exact LeO.none _)
      | (with_reducible refine LeO.ite ?_ ?_)
      | (with_reducible refine LeO.bind ?_ (fun _ => ?_))
      | exact ih0 _ _ _ _
      | exact LeO.none _
      | refine LeO.ite ?_ ?_
      | refine LeO.bind ?_ (fun _ => ?_)
set_option maxHeartbeats 8000000 in
set_option maxRecDepth 100000 in
theorem gatehouseref13_Same.calls (k : Nat) (A0 : Option Addr) (c0 : Nat) (l0 : List (S25)) (A1 : Option Addr) (c1 : Nat) (l1 : List (S25)) (r : Bool) (w : World) (hr0 : Kd.C k25 w A0 l0.length l0) (hc0 : l0.length ≤ c0) (hr1 : Kd.C k25 w A1 l1.length l1) (hc1 : l1.length ≤ c1) (h : gatehouseref13_Same.f k l0 l1 = some r) :
    Calls Tryd.prog 12 #[.slice A0 l0.length c0, .slice A1 l1.length c1] w fun e w' => e = .returned (.bool r) ∧ Drawn0 w w' := by
  have hu25 := Tryd.underlying25
  have HR0 := Aside0.mk hr0
  have HC0 := Aside0.mk hc0
  clear hr0 hc0
  have HR1 := Aside0.mk hr1
  have HC1 := Aside0.mk hc1
  clear hr1 hc1
  have H : (if (l0.length : Int) = (l1.length : Int) then (gatehouseref13_Same.l0 k l0 l1 (l0.length : Int) 0) else (some false)) = some r := h
  clear h
  by_cases c3 : (l0.length : Int) = (l1.length : Int)
  · rw [if_pos c3] at H
    have c3b0 : ((l0.length : Int) == (l1.length : Int)) = true := beq_iff_eq.mpr c3
    have c3b1 : ((l0.length : Int) != (l1.length : Int)) = false := bne_eq_false_iff_eq.mpr c3
    have c3b2 : (l0.length == l1.length) = true := by first | simpa using c3 | (simp at c3 ⊢; omega)
    clear c3
    have H' := Aside0.mk H
    clear H
    go_enter Tryd.func12, Tryd.ntmps12
    go_wp2
    repeat (go_quiet (fail); try go_wp2)
    go_loopg [13] k (fun kq v13 w' => ∃ (x13_1 : Int), v13 = .int .i64 x13_1 ∧ Aside0 (gatehouseref13_Same.l0 kq l0 l1 (l0.length : Int) x13_1 = some r) ∧ Aside0 (kq ≤ k) ∧ Drawn0 w w')
    case atStart => exact ⟨(0), (by first | rfl | (simp; done) | (simp [*]; done)), H', ⟨Nat.le_refl _⟩, by repeat (first | exact Drawn0.refl _ | apply Drawn0.step)⟩
    case round =>
      clear H'
      try clear c1
      try clear p2
      try clear c3
      try clear c3b0
      try clear c3b1
      try clear c3b2
      obtain ⟨x13_1, rfl, HA, HK1, ⟨m1, rfl⟩⟩ := hrel
      cases gk with
      | zero => exact absurd HA.out (by simp [gatehouseref13_Same.l0])
      | succ k1 =>
        have H := HA.out
        clear HA
        simp only [gatehouseref13_Same.l0] at H
        by_cases c4 : x13_1 < (l0.length : Int)
        · rw [if_pos c4] at H
          have c4b0 : decide (x13_1 < (l0.length : Int)) = true := decide_eq_true c4
          clear c4
          by_cases c5 : 0 ≤ x13_1
          · rw [if_pos c5] at H
            have c5b0 : decide (0 ≤ x13_1) = true := decide_eq_true c5
            clear c5
            by_cases c6 : x13_1 < (l0.length : Int)
            · rw [if_pos c6] at H
              have c6b0 : decide (x13_1 < (l0.length : Int)) = true := decide_eq_true c6
              clear c6
              by_cases c7 : x13_1 < (l1.length : Int)
              · rw [if_pos c7] at H
                have c7b0 : decide (x13_1 < (l1.length : Int)) = true := decide_eq_true c7
                clear c7
                by_cases c8 : (!((((rd_T25 l0 x13_1).f0).toList) == (((rd_T25 l1 x13_1).f0).toList)) || (!(((rd_T25 l0 x13_1).f1) == ((rd_T25 l1 x13_1).f1)) || (!(((rd_T25 l0 x13_1).f2) == ((rd_T25 l1 x13_1).f2))))) = true
                · rw [if_pos c8] at H
                  have c8b0 : (!((((rd_T25 l0 x13_1).f0).toList) == (((rd_T25 l1 x13_1).f0).toList)) || (!(((rd_T25 l0 x13_1).f1) == ((rd_T25 l1 x13_1).f1)) || (!(((rd_T25 l0 x13_1).f2) == ((rd_T25 l1 x13_1).f2))))) = true := c8
                  clear c8
                  obtain rfl := Option.some.inj H
                  have p144 : 0 ≤ (x13_1 : Int) := of_decide_eq_true (by first | (with_reducible assumption) | assumption)
                  have q144 : x13_1 < (l0.length : Int) := of_decide_eq_true (by first | (with_reducible assumption) | assumption)
                  obtain ⟨ad144, e144, hx144_0, hx144_1, hx144_2⟩ := at_T25 HR0.out x13_1 p144 q144
                  cases e144
                  replace p144 := eq_true p144
                  replace q144 := eq_true q144
                  have p145 : 0 ≤ (x13_1 : Int) := of_decide_eq_true (by first | (with_reducible assumption) | assumption)
                  have q145 : x13_1 < (l1.length : Int) := of_decide_eq_true (by first | (with_reducible assumption) | assumption)
                  obtain ⟨ad145, e145, hx145_0, hx145_1, hx145_2⟩ := at_T25 HR1.out x13_1 p145 q145
                  cases e145
                  replace p145 := eq_true p145
                  replace q145 := eq_true q145
                  go_wp2
                  repeat (go_quiet (fail); try go_wp2)
                  go_ret
                  exact ⟨by first | rfl | (simp; done) | (simp [*]; done), by repeat (first | exact Drawn0.refl _ | apply Drawn0.step)⟩
                · rw [if_neg c8] at H
                  have c8b0 : (!((((rd_T25 l0 x13_1).f0).toList) == (((rd_T25 l1 x13_1).f0).toList)) || (!(((rd_T25 l0 x13_1).f1) == ((rd_T25 l1 x13_1).f1)) || (!(((rd_T25 l0 x13_1).f2) == ((rd_T25 l1 x13_1).f2))))) = false := by simpa using c8
                  clear c8
                  have H' := Aside0.mk H
                  clear H
                  have p144 : 0 ≤ (x13_1 : Int) := of_decide_eq_true (by first | (with_reducible assumption) | assumption)
                  have q144 : x13_1 < (l0.length : Int) := of_decide_eq_true (by first | (with_reducible assumption) | assumption)
                  obtain ⟨ad144, e144, hx144_0, hx144_1, hx144_2⟩ := at_T25 HR0.out x13_1 p144 q144
                  cases e144
                  replace p144 := eq_true p144
                  replace q144 := eq_true q144
                  have p145 : 0 ≤ (x13_1 : Int) := of_decide_eq_true (by first | (with_reducible assumption) | assumption)
                  have q145 : x13_1 < (l1.length : Int) := of_decide_eq_true (by first | (with_reducible assumption) | assumption)
                  obtain ⟨ad145, e145, hx145_0, hx145_1, hx145_2⟩ := at_T25 HR1.out x13_1 p145 q145
                  cases e145
                  replace p145 := eq_true p145
                  replace q145 := eq_true q145
                  go_wp2
                  repeat (go_quiet (fail); try go_wp2)
                  go_roundg k1
                  case measure => have := HK1.out; omega
                  case rel => exact ⟨(wrap64 (x13_1 + 1)), (by first | rfl | (simp; done) | (simp [*]; done)), H', ⟨by have := HK1.out; omega⟩, by repeat (first | exact Drawn0.refl _ | apply Drawn0.step)⟩
              · rw [if_neg c7] at H
                exact absurd H (by simp)
            · rw [if_neg c6] at H
              exact absurd H (by simp)
          · rw [if_neg c5] at H
            exact absurd H (by simp)
        · rw [if_neg c4] at H
          have c4b0 : decide (x13_1 < (l0.length : Int)) = false := decide_eq_false c4
          clear c4
          obtain rfl := Option.some.inj H
          go_wp2
          repeat (go_quiet (fail); try go_wp2)
          go_ret
          exact ⟨by first | rfl | (simp; done) | (simp [*]; done), by repeat (first | exact Drawn0.refl _ | apply Drawn0.step)⟩
  · rw [if_neg c3] at H
    have c3b0 : ((l0.length : Int) == (l1.length : Int)) = false := beq_eq_false_iff_ne.mpr c3
    have c3b1 : ((l0.length : Int) != (l1.length : Int)) = true := bne_iff_ne.mpr c3
    have c3b2 : (l0.length == l1.length) = false := by first | simpa using c3 | (simp at c3 ⊢; omega)
    obtain rfl := Option.some.inj H
    go_enter Tryd.func12, Tryd.ntmps12
    go_wp2
    repeat (go_quiet (fail); try go_wp2)
    go_ret
    exact ⟨by first | rfl | (simp; done) | (simp [*]; done), by repeat (first | exact Drawn0.refl _ | apply Drawn0.step)⟩

end Go.Proofs.YtijnlgmclaphhaaDoorZ
set_option linter.unusedVariables false
set_option linter.unusedSimpArgs false
/-! Plain laws of directories: what Put leaves, one order alone, the example. -/
namespace Go.Proofs.YtijnlgmclaphhaaDoor
open Go Go.RowKit Go.Proofs.YtijnlgmclaphhaaDoorZ Go.Proofs.YtijnlgmclaphhaaDoorW.PrintWords

theorem lives_5 : gatehouselaw13_lives.f 5 = some true := by kernel_rfl
theorem lives_f (k : Nat) (h : 5 ≤ k) : gatehouselaw13_lives.f k = some true := at_rounds gatehouselaw13_lives.mono h lives_5

def eqN (x y : Nm) : Bool := x.f0.toList == y.f0.toList && (x.f1 == y.f1 && (x.f2 == y.f2))
theorem eqN_iff (x y : Nm) : eqN x y = true ↔ x = y := by
  unfold eqN
  simp only [Bool.and_eq_true, beq_iff_eq]
  constructor
  · rintro ⟨h1, h2, h3⟩
    cases x; cases y
    simp only at h1 h2 h3
    rw [toList_inj h1, h2, h3]
  · rintro rfl; exact ⟨rfl, rfl, rfl⟩
def sameL : List Nm → List Nm → Bool
  | [], [] => true
  | x :: l, y :: m => eqN x y && sameL l m
  | _, _ => false
theorem sameL_iff : ∀ l m : List Nm, sameL l m = true ↔ l = m
  | [], [] => by simp [sameL]
  | [], _ :: _ => by simp [sameL]
  | _ :: _, [] => by simp [sameL]
  | x :: l, y :: m => by
    unfold sameL
    rw [Bool.and_eq_true, eqN_iff, sameL_iff l m, List.cons.injEq]
theorem sameL_self (l : List Nm) : sameL l l = true := (sameL_iff l l).2 rfl
theorem sameL_len {l m : List Nm} (h : l.length ≠ m.length) : sameL l m = false := by
  cases hq : sameL l m with
  | false => rfl
  | true => exact absurd (congrArg List.length ((sameL_iff l m).1 hq)) h
theorem same_loop (l m : List Nm) (he : l.length = m.length) (hl : l.length ≤ 4398046511104) (n : Nat) : ∀ (k i : Nat), l.length - i = n → i ≤ l.length → n < k → gatehouseref13_Same.l0 k l m (l.length : Int) (i : Int) = some (sameL (l.drop i) (m.drop i)) := by
  induction n with
  | zero =>
    intro k i h hi hk
    obtain ⟨k, rfl⟩ : ∃ q, k = q + 1 := ⟨k - 1, by omega⟩
    obtain rfl : i = l.length := by omega
    simp only [gatehouseref13_Same.l0]
    rw [if_neg (by omega), List.drop_length, he, List.drop_length]; rfl
  | succ n ih =>
    intro k i h hi hk
    obtain ⟨k, rfl⟩ : ∃ q, k = q + 1 := ⟨k - 1, by omega⟩
    have hlt : i < l.length := by omega
    have hlm : i < m.length := by omega
    simp only [gatehouseref13_Same.l0]
    rw [if_pos (by omega), if_pos (by omega), if_pos (by omega), if_pos (by omega), rd_at l i hlt, rd_at m i hlm, List.drop_eq_getElem_cons hlt, List.drop_eq_getElem_cons hlm, w64 (x := (i : Int) + 1) (by omega) (by omega)]
    have e : sameL (l[i] :: l.drop (i + 1)) (m[i] :: m.drop (i + 1)) = (eqN l[i] m[i] && sameL (l.drop (i + 1)) (m.drop (i + 1))) := rfl
    rw [e]
    have e2 : (!((l[i]).f0.toList == (m[i]).f0.toList) || (!((l[i]).f1 == (m[i]).f1) || !((l[i]).f2 == (m[i]).f2))) = !eqN l[i] m[i] := by unfold eqN; simp only [Bool.not_and]
    rw [e2]
    cases eqN l[i] m[i] with
    | false => rw [if_pos (show (!false) = true from rfl)]; rfl
    | true => rw [if_neg (by simp), Bool.true_and]; exact ih k (i + 1) (by omega) (by omega) (by omega)
theorem same_f (l m : List Nm) (hl : l.length ≤ 4398046511104) (k : Nat) (hk : l.length < k) : gatehouseref13_Same.f k l m = some (sameL l m) := by
  unfold gatehouseref13_Same.f
  by_cases he : l.length = m.length
  · rw [if_pos (by omega)]
    exact same_loop l m he hl l.length k 0 (by omega) (by omega) hk
  · rw [if_neg (by omega), sameL_len he]

theorem ord_cons {x : Nm} {l : List Nm} {b : ByteArray} : ordFrom b (x :: l) = true ↔ okN x = true ∧ blt b x.f0 = true ∧ ordFrom x.f0 l = true := by
  show (okN x && blt b x.f0 && ordFrom x.f0 l) = true ↔ _
  rw [Bool.and_eq_true, Bool.and_eq_true, and_assoc]
theorem ord_weaken {l : List Nm} {b c : ByteArray} (h : ordFrom b l = true) (hc : blt c b = true) : ordFrom c l = true := by
  cases l with
  | nil => rfl
  | cons x l => rw [ord_cons] at h ⊢; exact ⟨h.1, blt_tr hc h.2.1, h.2.2⟩
/-- One order alone. -/
theorem ord_unique : ∀ (l m : List Nm) (b c : ByteArray), ordFrom b l = true → ordFrom c m = true → (∀ x, x ∈ l ↔ x ∈ m) → l = m
  | [], [], _, _, _, _, _ => rfl
  | [], y :: m, _, _, _, _, h => absurd ((h y).2 (by simp)) (by simp)
  | x :: l, [], _, _, _, _, h => absurd ((h x).1 (by simp)) (by simp)
  | x :: l, y :: m, b, c, hl, hm, h => by
    rw [ord_cons] at hl hm
    have gx : ∀ z ∈ l, blt x.f0 z.f0 = true := ord_gt hl.2.2
    have gy : ∀ z ∈ m, blt y.f0 z.f0 = true := ord_gt hm.2.2
    have e : x = y := by
      rcases List.mem_cons.1 ((h x).1 (by simp)) with rfl | hx
      · rfl
      · rcases List.mem_cons.1 ((h y).2 (by simp)) with rfl | hy
        · rfl
        · have := blt_tr (gy x hx) (gx y hy)
          rw [blt_irr] at this; cases this
    subst e
    rw [ord_unique l m _ _ hl.2.2 hm.2.2 fun z => ?_]
    constructor
    · intro hz
      rcases List.mem_cons.1 ((h z).1 (List.mem_cons_of_mem _ hz)) with rfl | h'
      · have := gx z hz; rw [blt_irr] at this; cases this
      · exact h'
    · intro hz
      rcases List.mem_cons.1 ((h z).2 (List.mem_cons_of_mem _ hz)) with rfl | h'
      · have := gy z hz; rw [blt_irr] at this; cases this
      · exact h'
theorem atI_cons (x : Nm) (l : List Nm) (s : ByteArray) : atI (x :: l) s = if blt x.f0 s = true then atI l s + 1 else 0 := by
  unfold atI
  rw [List.takeWhile_cons]
  split
  · rw [List.length_cons]
  · rfl
theorem insL_cons (x : Nm) (l : List Nm) (m : Nm) : insL (x :: l) m = if blt x.f0 m.f0 = true then x :: insL l m else m :: x :: l := by
  unfold insL
  rw [atI_cons]
  split <;> rfl
theorem insL_perm (l : List Nm) (m : Nm) : (insL l m).Perm (m :: l) := by
  unfold insL
  have := List.perm_middle (a := m) (l₁ := l.take (atI l m.f0)) (l₂ := l.drop (atI l m.f0))
  rwa [List.take_append_drop] at this
theorem insL_ord : ∀ (l : List Nm) (m : Nm) (b : ByteArray), ordFrom b l = true → okN m = true → blt b m.f0 = true → hasN l m.f0 = false → ordFrom b (insL l m) = true
  | [], m, b, _, hm, hb, _ => by
    show ordFrom b [m] = true
    rw [ord_cons]; exact ⟨hm, hb, rfl⟩
  | x :: l, m, b, hl, hm, hb, hn => by
    rw [ord_cons] at hl
    have hn' : (x.f0.toList == m.f0.toList) = false ∧ hasN l m.f0 = false := by
      unfold hasN at hn
      rw [List.any_cons, Bool.or_eq_false_iff] at hn
      exact hn
    rw [insL_cons]
    split
    · rename_i h
      rw [ord_cons]
      exact ⟨hl.1, hl.2.1, insL_ord l m _ hl.2.2 hm h hn'.2⟩
    · rename_i h
      have h1 : blt m.f0 x.f0 = true := by
        cases h2 : blt m.f0 x.f0 with
        | true => rfl
        | false =>
          have := blt_tri (by simpa using h) h2
          rw [this] at hn'
          simp at hn'
      rw [ord_cons, ord_cons]
      exact ⟨hm, hb, hl.1, h1, hl.2.2⟩
theorem sizeN_perm {l m : List Nm} (h : l.Perm m) : sizeN l = sizeN m := by
  unfold sizeN
  exact (h.map _).sum_nat
theorem sizeN_ins (l : List Nm) (m : Nm) : sizeN (insL l m) = sizeN l + (10 + m.f0.size) := by
  rw [sizeN_perm (insL_perm l m), sizeN_cons]; omega
theorem right_nil : rightL [] = true := rfl
theorem insL_right {l : List Nm} {m : Nm} (hr : rightL l = true) (hm : okN m = true) (hn : hasN l m.f0 = false) (hz : sizeN l + (10 + m.f0.size) ≤ 4096) : rightL (insL l m) = true := by
  unfold rightL ordL
  rw [insL_ord l m _ (right_ord hr).1 hm (blt_empty (okN_size hm).1) hn, sizeN_ins, decide_eq_true hz]; rfl
theorem putL_ok {l : List Nm} {m : Nm} (hr : rightL l = true) (hm : okN m = true) (hn : hasN l m.f0 = false) (hz : sizeN l + (10 + m.f0.size) ≤ 4096) : putL l m = (insL l m, 0) := by
  unfold putL
  rw [if_pos hr, if_pos hm, if_neg (by rw [hn]; simp), if_neg (by omega)]
theorem putL_zero {l : List Nm} {m : Nm} (h : (putL l m).2 = 0) : rightL l = true ∧ okN m = true ∧ hasN l m.f0 = false ∧ sizeN l + (10 + m.f0.size) ≤ 4096 ∧ putL l m = (insL l m, 0) := by
  unfold putL at h ⊢
  split at h
  · split at h
    · split at h
      · simp at h
      · split at h
        · simp at h
        · rename_i h1 h2 h3 h4
          rw [if_pos h1, if_pos h2, if_neg h3, if_neg h4]
          exact ⟨h1, h2, by simpa using h3, by omega, rfl⟩
    · simp at h
  · simp at h
theorem hasN_iff_mem (l : List Nm) (s : ByteArray) : hasN l s = true ↔ ∃ x ∈ l, x.f0 = s := by
  unfold hasN
  rw [List.any_eq_true]
  constructor
  · rintro ⟨x, hx, h⟩; exact ⟨x, hx, toList_inj (beq_iff_eq.1 h)⟩
  · rintro ⟨x, hx, rfl⟩; exact ⟨x, hx, by simp⟩
theorem hasN_perm {l m : List Nm} (h : l.Perm m) (s : ByteArray) : hasN l s = hasN m s := by
  cases h1 : hasN l s <;> cases h2 : hasN m s <;> try rfl
  · obtain ⟨x, hx, e⟩ := (hasN_iff_mem m s).1 h2
    rw [(hasN_iff_mem l s).2 ⟨x, h.mem_iff.2 hx, e⟩] at h1; cases h1
  · obtain ⟨x, hx, e⟩ := (hasN_iff_mem l s).1 h1
    rw [(hasN_iff_mem m s).2 ⟨x, h.mem_iff.1 hx, e⟩] at h2; cases h2
end Go.Proofs.YtijnlgmclaphhaaDoor
/-! Plain laws of directories: a directory comes back from its bytes; what was put in is found and cut out again. -/
namespace Go.Proofs.YtijnlgmclaphhaaDoor
open Go Go.RowKit Go.Proofs.YtijnlgmclaphhaaDoorZ Go.Proofs.YtijnlgmclaphhaaDoorW.PrintWords

/-- The byte at i, or 0. -/
def byN (s : ByteArray) (i : Nat) : Nat := (s.data.toList[i]?.getD 0).toNat
theorem byN_lt (s : ByteArray) (i : Nat) : byN s i < 256 := UInt8.toNat_lt _
theorem bt_byN (s : ByteArray) (i : Nat) : bt s (i : Int) = (byN s i : Int) := by
  unfold bt byN
  rw [Int.toNat_natCast]
  split
  · rename_i h
    have e : s.size = s.data.toList.length := (Array.length_toList (xs := s.data)).symm
    have h2 : i < s.data.toList.length := by omega
    rw [List.getElem?_eq_getElem h2]
    rfl
  · rename_i h
    have e : s.size = s.data.toList.length := (Array.length_toList (xs := s.data)).symm
    have h2 : ¬ i < s.data.toList.length := by omega
    rw [List.getElem?_eq_none (by omega)]
    rfl
/-- A number of i bytes, the least first. -/
def leN (s : ByteArray) (o : Nat) : Nat → Nat
  | 0 => 0
  | i + 1 => leN s o i + byN s (o + i) * 2 ^ (8 * i)
theorem leN_lt (s : ByteArray) (o : Nat) : ∀ i, leN s o i < 2 ^ (8 * i)
  | 0 => by simp [leN]
  | i + 1 => by
    have h := leN_lt s o i
    have hb := byN_lt s (o + i)
    have e : (2 : Nat) ^ (8 * (i + 1)) = 256 * 2 ^ (8 * i) := by rw [Nat.mul_add, Nat.pow_add]; omega
    unfold leN
    rw [e]
    have : (byN s (o + i) + 1) * 2 ^ (8 * i) ≤ 256 * 2 ^ (8 * i) := Nat.mul_le_mul_right _ (by omega)
    rw [Nat.add_mul] at this
    omega
theorem or_add (a b k : Nat) (ha : a < 2 ^ k) (hb : b * 2 ^ k < 18446744073709551616) (ha2 : a < 18446744073709551616) : bits .or .i64 (a : Int) (wrap64 ((b : Int) * 2 ^ k)) = wrap64 ((a + b * 2 ^ k : Nat) : Int) := by
  have e1 : (b : Int) * 2 ^ k = ((b * 2 ^ k : Nat) : Int) := by push_cast; rfl
  rw [e1]
  have e2 : (b <<< k) ||| a = b * 2 ^ k + a := by rw [← Nat.shiftLeft_add_eq_or_of_lt ha, Nat.shiftLeft_eq]
  rw [Nat.shiftLeft_eq] at e2
  generalize b * 2 ^ k = z at *
  show IntKind.i64.wrap (((BitVec.ofInt 64 (a : Int) ||| BitVec.ofInt 64 (wrap64 (z : Int))).toNat : Nat) : Int) = _
  have t1 : (BitVec.ofInt 64 (a : Int)).toNat = a := by rw [BitVec.toNat_ofInt]; omega
  have t2 : (BitVec.ofInt 64 (wrap64 (z : Int))).toNat = z := by rw [BitVec.toNat_ofInt]; unfold wrap64; omega
  rw [BitVec.toNat_or, t1, t2, Nat.or_comm, e2, Nat.add_comm]
  unfold IntKind.wrap wrap64
  simp [IntKind.signed, IntKind.bits]
  split <;> omega
theorem idE_le (s : ByteArray) (o : Nat) : ∀ i, i ≤ 8 → idE s (o : Int) i = wrap64 (leN s o i : Int)
  | 0, _ => by
    show (0 : Int) = wrap64 ((0 : Nat) : Int)
    unfold wrap64; omega
  | i + 1, hi => by
    have ih := idE_le s o i (by omega)
    have hl := leN_lt s o i
    have h56 : (2 : Nat) ^ (8 * i) ≤ 2 ^ 56 := Nat.pow_le_pow_right (by omega) (by omega)
    have hb := byN_lt s (o + i)
    have hm : byN s (o + i) * 2 ^ (8 * i) ≤ 255 * 2 ^ 56 := Nat.mul_le_mul (by omega) h56
    have e0 : wrap64 (leN s o i : Int) = (leN s o i : Int) := by unfold wrap64; omega
    have eo : (o : Int) + (i : Int) = ((o + i : Nat) : Int) := by omega
    unfold idE leN
    rw [ih, e0, eo, bt_byN]
    exact or_add _ _ _ hl (by omega) (by omega)
theorem le_mod (s : ByteArray) (o n : Nat) (h : ∀ i, i < 8 → byN s (o + i) = n / 256 ^ i % 256) : ∀ i, i ≤ 8 → leN s o i = n % 256 ^ i
  | 0, _ => by simp [leN, Nat.mod_one]
  | i + 1, hi => by
    unfold leN
    rw [le_mod s o n h i (by omega), h i (by omega), Nat.pow_mul, show (2 : Nat) ^ 8 = 256 from rfl, Nat.pow_succ, Nat.mod_mul]
    rw [Nat.mul_comm (256 ^ i)]
theorem byN_of {s : ByteArray} {A B : List UInt8} (h : s.data.toList = A ++ B) (i : Nat) (hi : i < A.length) : byN s i = (A[i]).toNat := by
  unfold byN
  rw [h, List.getElem?_append_left hi, List.getElem?_eq_getElem hi]; rfl
theorem ext_data (s : ByteArray) (a b : Nat) : (s.extract a b).data.toList = (s.data.toList.drop a).take (b - a) := by
  simp [ByteArray.data_extract, Array.toList_extract, List.extract]
theorem encN_at (x : Nm) (hx : okN x = true) (i : Nat) (hi : i < 8) : ∃ h : 2 + x.f0.size + i < (encN x).length, ((encN x)[2 + x.f0.size + i]).toNat = x.f2.toNat / 256 ^ i % 256 := by
  have hl := encN_length x
  refine ⟨by omega, ?_⟩
  have e : (encN x)[2 + x.f0.size + i]? = some (idByte x.f2 i) := by
    unfold encN
    rw [List.getElem?_append_right (by rw [headN_length]; omega), headN_length]
    unfold idTo
    rw [List.getElem?_map, List.getElem?_range (by omega)]
    show some (idByte x.f2 _) = _
    rw [show 2 + x.f0.size + i - (2 + x.f0.size) = i by omega]
  rw [List.getElem?_eq_getElem (by omega)] at e
  rw [Option.some.inj e]
  unfold idByte
  rw [UInt8.toNat_ofNat', Nat.mod_mod]
theorem one_back {x : Nm} (hx : okN x = true) {s : ByteArray} {B : List UInt8} (h : s.data.toList = encN x ++ B) : hdE s = (x.f0.size : Int) ∧ nmE s = x ∧ (tlE s).data.toList = B ∧ s.size = 10 + x.f0.size + B.length := by
  obtain ⟨hf, hk, hi1, hi2⟩ := okN_out hx
  obtain ⟨hz1, hz2⟩ := fits_out hf
  have hl := encN_length x
  have hhl := headN_length x
  have hsz : s.size = 10 + x.f0.size + B.length := by
    have : s.size = s.data.toList.length := (Array.length_toList (xs := s.data)).symm
    rw [this, h, List.length_append, hl]
  have hd : hdE s = (x.f0.size : Int) := by
    have h0 := bt_byN s 0
    rw [byN_of h 0 (by omega)] at h0
    have e : ((encN x)[0]'(by omega)) = UInt8.ofNat x.f0.size := rfl
    rw [e, UInt8.toNat_ofNat', Nat.mod_eq_of_lt (by omega)] at h0
    exact h0
  have htake : (s.data.toList.drop 1).take x.f0.size = x.f0.data.toList := by
    rw [h]
    unfold encN headN
    simp only [List.cons_append, List.append_assoc, List.drop_succ_cons, List.drop_zero]
    have e : x.f0.size = x.f0.data.toList.length := (Array.length_toList (xs := x.f0.data)).symm
    rw [e, List.take_left']
    rfl
  have hname : s.extract 1 (1 + hdE s).toNat = x.f0 := by
    apply toList_inj
    rw [Lib.toList_data, Lib.toList_data, ext_data, hd, show (1 + (x.f0.size : Int)).toNat - 1 = x.f0.size by omega, htake]
  have hkind : bt s (1 + hdE s) = x.f1 := by
    rw [hd, show (1 : Int) + (x.f0.size : Int) = ((1 + x.f0.size : Nat) : Int) by omega, bt_byN]
    have hat : s.data.toList[1 + x.f0.size]? = some (UInt8.ofNat x.f1.toNat) := by
      rw [h]
      unfold encN headN
      simp only [List.cons_append, List.append_assoc]
      rw [show 1 + x.f0.size = x.f0.size + 1 by omega, List.getElem?_cons_succ]
      have e : x.f0.size = x.f0.data.toList.length := (Array.length_toList (xs := x.f0.data)).symm
      rw [e, List.getElem?_append_right (Nat.le_refl _), Nat.sub_self]
      rfl
    unfold byN
    rw [hat]
    show ((UInt8.ofNat x.f1.toNat).toNat : Int) = _
    rw [UInt8.toNat_ofNat']
    rcases hk with e | e <;> rw [e] <;> rfl
  have hid : idE s (2 + hdE s) 8 = x.f2 := by
    rw [hd, show (2 : Int) + (x.f0.size : Int) = ((2 + x.f0.size : Nat) : Int) by omega, idE_le _ _ 8 (Nat.le_refl _)]
    rw [le_mod s (2 + x.f0.size) x.f2.toNat (fun i hi => by
      obtain ⟨h1, h2⟩ := encN_at x hx i hi
      rw [byN_of h _ h1, h2]) 8 (Nat.le_refl _)]
    have : x.f2.toNat % 256 ^ 8 = x.f2.toNat := Nat.mod_eq_of_lt (by omega)
    rw [this]
    unfold wrap64; omega
  refine ⟨hd, ?_, ?_, hsz⟩
  · unfold nmE
    rw [hname, hkind, hid]
  · unfold tlE
    rw [ext_data, hd, h, show ((x.f0.size : Int) + 10).toNat = (encN x).length by omega, List.drop_left]
    exact List.take_of_length_le (by omega)
theorem lastR_cons (s : ByteArray) (x : Nm × ByteArray) (t : List (Nm × ByteArray)) : lastR s (x :: t) = lastR x.2 t := by
  unfold lastR
  cases t with
  | nil => rfl
  | cons y t =>
    obtain ⟨z, hz⟩ : ∃ z, (y :: t).getLast? = some z := ⟨_, List.getLast?_eq_some_getLast (by simp)⟩
    rw [List.getLast?_cons_cons, hz]
/-- A directory comes back from its bytes. -/
theorem ent_enc : ∀ (l : List Nm), (∀ x ∈ l, okN x = true) → ∀ s : ByteArray, s.data.toList = encL l → namesE (entL s) = l ∧ (lastR s (entL s)).toList = []
  | [], _, s, h => by
    have h0 : s.size = 0 := by
      have : s.size = s.data.toList.length := (Array.length_toList (xs := s.data)).symm
      rw [this, h]; rfl
    rw [entL_none (fun hh => by omega)]
    refine ⟨rfl, ?_⟩
    show s.toList = []
    rw [Lib.toList_data, h]; rfl
  | x :: l, hok, s, h => by
    have h' : s.data.toList = encN x ++ encL l := h
    obtain ⟨h1, h2, h3, h4⟩ := one_back (hok x (by simp)) h'
    obtain ⟨r1, r2⟩ := ent_enc l (fun y hy => hok y (List.mem_cons_of_mem _ hy)) _ h3
    rw [entL_some (by omega) (by omega), lastR_cons]
    refine ⟨?_, r2⟩
    show nmE s :: namesE (entL (tlE s)) = _
    rw [h2, r1]
theorem right_ok {l : List Nm} (h : rightL l = true) : ∀ x ∈ l, okN x = true := by
  have : ∀ (l : List Nm) (b : ByteArray), ordFrom b l = true → ∀ x ∈ l, okN x = true := by
    intro l
    induction l with
    | nil => intro b _ x hx; cases hx
    | cons y l ih =>
      intro b h x hx
      rw [ord_cons] at h
      rcases List.mem_cons.1 hx with rfl | hx
      · exact h.1
      · exact ih _ h.2.2 x hx
  exact this l _ (right_ord h).1
theorem decode_enc {l : List Nm} (h : rightL l = true) : decodeL (⟨(encL l).toArray⟩ : ByteArray) = (l, 0) := by
  obtain ⟨h1, h2⟩ := ent_enc l (right_ok h) ⟨(encL l).toArray⟩ (by simp)
  rw [decode_yes h2 (by rw [h1]; exact h), h1]
theorem enc_inj {l m : List Nm} (h : rightL l = true) (k : rightL m = true) (e : encL l = encL m) : l = m := by
  have h1 := decode_enc h
  rw [e, decode_enc k] at h1
  exact (congrArg Prod.fst h1).symm
theorem takeWhile_skip {α : Type} (q : α → Bool) : ∀ (P : List α) (x : α) (R : List α), (∀ y ∈ P, q y = true) → q x = false → ((P ++ x :: R).takeWhile q).length = P.length
  | [], x, R, _, h => by simp [List.takeWhile_cons, h]
  | a :: P, x, R, h1, h2 => by
    rw [List.cons_append, List.takeWhile_cons, if_pos (h1 a (by simp)), List.length_cons, List.length_cons, takeWhile_skip q P x R (fun y hy => h1 y (List.mem_cons_of_mem _ hy)) h2]
theorem mem_takeWhile {α : Type} (q : α → Bool) : ∀ (l : List α) (y : α), y ∈ l.takeWhile q → q y = true
  | [], _, h => by cases h
  | a :: l, y, h => by
    rw [List.takeWhile_cons] at h
    split at h
    · rcases List.mem_cons.1 h with rfl | h
      · assumption
      · exact mem_takeWhile q l y h
    · cases h
theorem take_atI {l : List Nm} {s : ByteArray} : l.take (atI l s) = l.takeWhile fun x => blt x.f0 s := by
  unfold atI
  exact (List.prefix_iff_eq_take.1 (List.takeWhile_prefix _)).symm
theorem before_lt {l : List Nm} {s : ByteArray} : ∀ y ∈ l.take (atI l s), blt y.f0 s = true := by
  rw [take_atI]; exact mem_takeWhile _ l
theorem atI_ins (l : List Nm) (m : Nm) : atI (insL l m) m.f0 = atI l m.f0 := by
  have e : (l.take (atI l m.f0)).length = atI l m.f0 := by rw [List.length_take]; have := atI_le l m.f0; omega
  have := takeWhile_skip (fun x : Nm => blt x.f0 m.f0) (l.take (atI l m.f0)) m (l.drop (atI l m.f0)) before_lt (blt_irr _)
  rw [e] at this
  exact this
theorem findI_ins (l : List Nm) (m : Nm) : findI (insL l m) m.f0 = atI l m.f0 := by
  have e : (l.take (atI l m.f0)).length = atI l m.f0 := by rw [List.length_take]; have := atI_le l m.f0; omega
  have := takeWhile_skip (fun x : Nm => x.f0.toList != m.f0.toList) (l.take (atI l m.f0)) m (l.drop (atI l m.f0)) (fun y hy => by
    have hy := before_lt y hy
    rw [bne_iff_ne]
    intro he
    rw [toList_inj he, blt_irr] at hy
    cases hy) (by simp)
  rw [e] at this
  exact this
theorem ins_at (l : List Nm) (m : Nm) : (insL l m)[atI l m.f0]? = some m := by
  have e : (l.take (atI l m.f0)).length = atI l m.f0 := by rw [List.length_take]; have := atI_le l m.f0; omega
  unfold insL
  rw [List.getElem?_append_right (by omega), e, Nat.sub_self]; rfl
theorem find_ins (l : List Nm) (m : Nm) : findL (insL l m) m.f0 = (m, true) := by
  have h := ins_at l m
  have hlt := (List.getElem?_eq_some_iff.1 h).1
  unfold findL
  have e := findI_ins l m
  rw [dif_pos (by rw [e]; exact hlt)]
  congr 1
  have h2 : (insL l m)[findI (insL l m) m.f0]? = some m := by rw [e]; exact h
  exact (List.getElem?_eq_some_iff.1 h2).2
theorem has_ins (l : List Nm) (m : Nm) : hasN (insL l m) m.f0 = true := (hasN_iff_mem _ _).2 ⟨m, (insL_perm l m).mem_iff.2 (by simp), rfl⟩
theorem cut_ins {l : List Nm} {m : Nm} (hr : rightL (insL l m) = true) : cutL (insL l m) m.f0 = (l, 0) := by
  have e : (l.take (atI l m.f0)).length = atI l m.f0 := by rw [List.length_take]; have := atI_le l m.f0; omega
  rw [cutL_yes hr, if_pos (has_ins l m), atI_ins]
  have e1 : (insL l m).take (atI l m.f0) = l.take (atI l m.f0) := List.take_left' e
  have e2 : (insL l m).drop (atI l m.f0 + 1) = l.drop (atI l m.f0) := by
    unfold insL
    rw [show l.take (atI l m.f0) ++ m :: l.drop (atI l m.f0) = (l.take (atI l m.f0) ++ [m]) ++ l.drop (atI l m.f0) by simp]
    exact List.drop_left' (by rw [List.length_append, e]; rfl)
  rw [e1, e2, List.take_append_drop]
end Go.Proofs.YtijnlgmclaphhaaDoor
-- Written by a program of this session (gprint.py, over the kit's printer).
namespace Go.Proofs.YtijnlgmclaphhaaDoorZ
open Go.RowKit Go.Proofs.YtijnlgmclaphhaaDoorW.PrintWords Go.Proofs.YtijnlgmclaphhaaDoorW.PrintLast Go.Proofs.YtijnlgmclaphhaaDoorW.PrintMore
attribute [local go_sem] max2_int min2_int max_two min_two max_three min_three max_four min_four   -- for this text's walks alone
set_option linter.unusedVariables false
set_option linter.unusedSimpArgs false

/-! ### gatehouselaw13_DirOrder: function 3 -/
mutual
def gatehouselaw13_DirOrder.j1 : Nat → Int → List (S25) → List (S25) → List (S25) → Option (Bool)
  | 0, _, _, _, _ => none
  | k + 1, x1, x5, x6, x7 => if (x7.length : Int) > 0 then (if (IntKind.u64.wrap ((x7.length : Int))) = 0 then (none) else (gatehouselaw13_DirOrder.j2 k x5 x6 x7 (wrap64 (Int.tmod (IntKind.u64.wrap (x1)) (IntKind.u64.wrap ((x7.length : Int))))))) else (gatehouselaw13_DirOrder.j2 k x5 x6 x7 0)
def gatehouselaw13_DirOrder.j2 : Nat → List (S25) → List (S25) → List (S25) → Int → Option (Bool)
  | 0, _, _, _, _ => none
  | k + 1, x5, x6, x7, x12 => gatehouselaw13_DirOrder.l1 k x5 x6 x7 x12 (x7.length : Int) 0
def gatehouselaw13_DirOrder.l1 : Nat → List (S25) → List (S25) → List (S25) → Int → Int → Int → Option (Bool)
  | 0, _, _, _, _, _, _ => none
  | k + 1, x5, x6, x7, x12, x52, x53 => if x53 < x52 then (if (x7.length : Int) = 0 then (none) else (if 0 ≤ (wrap64 ((wrap64 ((x7.length : Int) - 1)) - (Int.tmod (wrap64 (x53 + x12)) (x7.length : Int)))) then (if (wrap64 ((wrap64 ((x7.length : Int) - 1)) - (Int.tmod (wrap64 (x53 + x12)) (x7.length : Int)))) < (x7.length : Int) then ((dir_Put.f x6 ((rd_T25 x7 (wrap64 ((wrap64 ((x7.length : Int) - 1)) - (Int.tmod (wrap64 (x53 + x12)) (x7.length : Int))))).f0) ((rd_T25 x7 (wrap64 ((wrap64 ((x7.length : Int) - 1)) - (Int.tmod (wrap64 (x53 + x12)) (x7.length : Int))))).f1) ((rd_T25 x7 (wrap64 ((wrap64 ((x7.length : Int) - 1)) - (Int.tmod (wrap64 (x53 + x12)) (x7.length : Int))))).f2)).bind fun bt157 => (if bt157.2 = 0 then (gatehouselaw13_DirOrder.l1 k x5 bt157.1 x7 x12 x52 (wrap64 (x53 + 1))) else (some false))) else (none)) else (none))) else ((gatehouseref13_Same.f k x5 x6).bind fun t161 => (if t161 = true then ((dir_Right.f k x5).bind fun t162 => (some t162)) else (some false)))
def gatehouselaw13_DirOrder.l0 : Nat → Int → List (S25) → List (S25) → List (S25) → Int → Int → Option (Bool)
  | 0, _, _, _, _, _, _ => none
  | k + 1, x1, x5, x7, x18, x19, x20 => if x20 < x19 then (if 0 ≤ x20 then (if x20 < (x18.length : Int) then (if x20 ≥ 40 then (gatehouselaw13_DirOrder.j1 k x1 x5 ([] : List (S25)) x7) else ((dir_Put.f x5 ((rd_T25 x18 x20).f0) ((rd_T25 x18 x20).f1) ((rd_T25 x18 x20).f2)).bind fun bt149 => (if bt149.2 = 0 then (if x7.length < 4398046511104 then (gatehouselaw13_DirOrder.l0 k x1 bt149.1 (x7 ++ [(⟨(rd_T25 x18 x20).f0, (rd_T25 x18 x20).f1, (rd_T25 x18 x20).f2⟩ : S25)]) x18 x19 (wrap64 (x20 + 1))) else (none)) else (gatehouselaw13_DirOrder.l0 k x1 x5 x7 x18 x19 (wrap64 (x20 + 1)))))) else (none)) else (none)) else (gatehouselaw13_DirOrder.j1 k x1 x5 ([] : List (S25)) x7)
end
def gatehouselaw13_DirOrder.f (k : Nat) (l0 : List (S25)) (a1 : Int) : Option (Bool) := (gatehouselaw13_lives.f k).bind fun t146 => (if t146 = true then (gatehouselaw13_DirOrder.l0 k a1 ([] : List (S25)) ([] : List (S25)) l0 (l0.length : Int) 0) else (some false))
theorem gatehouselaw13_DirOrder.mono_l : ∀ k, (∀ y0 y1 y2 y3, LeO (gatehouselaw13_DirOrder.j1 k y0 y1 y2 y3) (gatehouselaw13_DirOrder.j1 (k + 1) y0 y1 y2 y3)) ∧ (∀ y0 y1 y2 y3, LeO (gatehouselaw13_DirOrder.j2 k y0 y1 y2 y3) (gatehouselaw13_DirOrder.j2 (k + 1) y0 y1 y2 y3)) ∧ (∀ y0 y1 y2 y3 y4 y5, LeO (gatehouselaw13_DirOrder.l1 k y0 y1 y2 y3 y4 y5) (gatehouselaw13_DirOrder.l1 (k + 1) y0 y1 y2 y3 y4 y5)) ∧ (∀ y0 y1 y2 y3 y4 y5, LeO (gatehouselaw13_DirOrder.l0 k y0 y1 y2 y3 y4 y5) (gatehouselaw13_DirOrder.l0 (k + 1) y0 y1 y2 y3 y4 y5))
  | 0 => ⟨fun _ _ _ _ r h => by simp [gatehouselaw13_DirOrder.j1] at h, fun _ _ _ _ r h => by simp [gatehouselaw13_DirOrder.j2] at h, fun _ _ _ _ _ _ r h => by simp [gatehouselaw13_DirOrder.l1] at h, fun _ _ _ _ _ _ r h => by simp [gatehouselaw13_DirOrder.l0] at h⟩
  | k + 1 => by
    obtain ⟨ih0, ih1, ih2, ih3⟩ := gatehouselaw13_DirOrder.mono_l k
    refine ⟨?_, ?_, ?_, ?_⟩
    · intro y0 y1 y2 y3
      unfold gatehouselaw13_DirOrder.j1
      repeat' first
      | (with_reducible exact ih0 _ _ _ _)
      | (with_reducible exact ih1 _ _ _ _)
      | (with_reducible exact ih2 _ _ _ _ _ _)
      | (with_reducible exact ih3 _ _ _ _ _ _)
      | (with_reducible exact dir_Right.mono _ _)
      | (with_reducible exact gatehouselaw13_lives.mono _)
      | (with_reducible exact gatehouseref13_Same.mono _ _ _)
      | (with_reducible exact LeO.refl _)
      | (with_reducible exact LeO.none _)
      | (with_reducible refine LeO.ite ?_ ?_)
      | (with_reducible refine LeO.bind ?_ (fun _ => ?_))
      | exact ih0 _ _ _ _
      | exact ih1 _ _ _ _
      | exact ih2 _ _ _ _ _ _
      | exact ih3 _ _ _ _ _ _
      | exact dir_Right.mono _ _
      | exact gatehouselaw13_lives.mono _
      | exact gatehouseref13_Same.mono _ _ _
      | exact LeO.none _
      | refine LeO.ite ?_ ?_
      | refine LeO.bind ?_ (fun _ => ?_)
    · intro y0 y1 y2 y3
      unfold gatehouselaw13_DirOrder.j2
      repeat' first
      | (with_reducible exact ih0 _ _ _ _)
      | (with_reducible exact ih1 _ _ _ _)
      | (with_reducible exact ih2 _ _ _ _ _ _)
      | (with_reducible exact ih3 _ _ _ _ _ _)
      | (with_reducible exact dir_Right.mono _ _)
      | (with_reducible exact gatehouselaw13_lives.mono _)
      | (with_reducible exact gatehouseref13_Same.mono _ _ _)
      | (with_reducible exact LeO.refl _)
      | (with_reducible exact LeO.none _)
      | (with_reducible refine LeO.ite ?_ ?_)
      | (with_reducible refine LeO.bind ?_ (fun _ => ?_))
      | exact ih0 _ _ _ _
      | exact ih1 _ _ _ _
      | exact ih2 _ _ _ _ _ _
      | exact ih3 _ _ _ _ _ _
      | exact dir_Right.mono _ _
      | exact gatehouselaw13_lives.mono _
      | exact gatehouseref13_Same.mono _ _ _
      | exact LeO.none _
      | refine LeO.ite ?_ ?_
      | refine LeO.bind ?_ (fun _ => ?_)
    · intro y0 y1 y2 y3 y4 y5
      unfold gatehouselaw13_DirOrder.l1
      repeat' first
      | (with_reducible exact ih0 _ _ _ _)
      | (with_reducible exact ih1 _ _ _ _)
      | (with_reducible exact ih2 _ _ _ _ _ _)
      | (with_reducible exact ih3 _ _ _ _ _ _)
      | (with_reducible exact dir_Right.mono _ _)
      | (with_reducible exact gatehouselaw13_lives.mono _)
      | (with_reducible exact gatehouseref13_Same.mono _ _ _)
      | (with_reducible exact LeO.refl _)
      | (with_reducible exact LeO.none _)
      | (with_reducible refine LeO.ite ?_ ?_)
      | (with_reducible refine LeO.bind ?_ (fun _ => ?_))
      | exact ih0 _ _ _ _
      | exact ih1 _ _ _ _
      | exact ih2 _ _ _ _ _ _
      | exact ih3 _ _ _ _ _ _
      | exact dir_Right.mono _ _
      | exact gatehouselaw13_lives.mono _
      | exact gatehouseref13_Same.mono _ _ _
      | exact LeO.none _
      | refine LeO.ite ?_ ?_
      | refine LeO.bind ?_ (fun _ => ?_)
    · intro y0 y1 y2 y3 y4 y5
      unfold gatehouselaw13_DirOrder.l0
      repeat' first
      | (with_reducible exact ih0 _ _ _ _)
      | (with_reducible exact ih1 _ _ _ _)
      | (with_reducible exact ih2 _ _ _ _ _ _)
      | (with_reducible exact ih3 _ _ _ _ _ _)
      | (with_reducible exact dir_Right.mono _ _)
      | (with_reducible exact gatehouselaw13_lives.mono _)
      | (with_reducible exact gatehouseref13_Same.mono _ _ _)
      | (with_reducible exact LeO.refl _)
      | (with_reducible exact LeO.none _)
      | (with_reducible refine LeO.ite ?_ ?_)
      | (with_reducible refine LeO.bind ?_ (fun _ => ?_))
      | exact ih0 _ _ _ _
      | exact ih1 _ _ _ _
      | exact ih2 _ _ _ _ _ _
      | exact ih3 _ _ _ _ _ _
      | exact dir_Right.mono _ _
      | exact gatehouselaw13_lives.mono _
      | exact gatehouseref13_Same.mono _ _ _
      | exact LeO.none _
      | refine LeO.ite ?_ ?_
      | refine LeO.bind ?_ (fun _ => ?_)
theorem gatehouselaw13_DirOrder.mono : ∀ a0 a1 k, LeO (gatehouselaw13_DirOrder.f k a0 a1) (gatehouselaw13_DirOrder.f (k + 1) a0 a1) := by
  intro a0 a1 k
  obtain ⟨ih0, ih1, ih2, ih3⟩ := gatehouselaw13_DirOrder.mono_l k
  unfold gatehouselaw13_DirOrder.f
  repeat' first
      | (with_reducible exact ih0 _ _ _ _)
      | (with_reducible exact ih1 _ _ _ _)
      | (with_reducible exact ih2 _ _ _ _ _ _)
      | (with_reducible exact ih3 _ _ _ _ _ _)
      | (with_reducible exact dir_Right.mono _ _)
      | (with_reducible exact gatehouselaw13_lives.mono _)
      | (with_reducible exact gatehouseref13_Same.mono _ _ _)
      | (with_reducible exact LeO.refl _)
      | (with_reducible exact LeO.none _)
      | (with_reducible refine LeO.ite ?_ ?_)
      | (with_reducible refine LeO.bind ?_ (fun _ => ?_))
      | exact ih0 _ _ _ _
      | exact ih1 _ _ _ _
      | exact ih2 _ _ _ _ _ _
      | exact ih3 _ _ _ _ _ _
      | exact dir_Right.mono _ _
      | exact gatehouselaw13_lives.mono _
      | exact gatehouseref13_Same.mono _ _ _
      | exact LeO.none _
      | refine LeO.ite ?_ ?_
      | refine LeO.bind ?_ (fun _ => ?_)
set_option maxHeartbeats 8000000 in
set_option maxRecDepth 100000 in
theorem gatehouselaw13_DirOrder.calls (k : Nat) (A0 : Option Addr) (c0 : Nat) (l0 : List (S25)) (a1 : Int) (r : Bool) (w : World) (hr0 : Kd.C k25 w A0 l0.length l0) (hc0 : l0.length ≤ c0) (h : gatehouselaw13_DirOrder.f k l0 a1 = some r) :
    Calls Tryd.prog 3 #[.slice A0 l0.length c0, .int .i64 a1] w fun e w' => e = .returned (.bool r) ∧ Below w.heap.size w w' := by
  have hu25 := Tryd.underlying25
  have HR0 := Aside0.mk hr0
  have HC0 := Aside0.mk hc0
  clear hr0 hc0
  have HB := Aside0.mk (Below.refl w.heap.size w)
  have H : ((gatehouselaw13_lives.f k).bind fun t146 => (if t146 = true then (gatehouselaw13_DirOrder.l0 k a1 ([] : List (S25)) ([] : List (S25)) l0 (l0.length : Int) 0) else (some false))) = some r := h
  clear h
  replace H := Option.bind_eq_some_iff.mp H
  obtain ⟨t146, A30, H⟩ := H
  replace H : (if t146 = true then (gatehouselaw13_DirOrder.l0 k a1 ([] : List (S25)) ([] : List (S25)) l0 (l0.length : Int) 0) else (some false)) = some r := H
  have A3 := Aside0.mk A30
  clear A30
  by_cases c4 : t146 = true
  · subst c4
    have H1 : (gatehouselaw13_DirOrder.l0 k a1 ([] : List (S25)) ([] : List (S25)) l0 (l0.length : Int) 0) = some r := by rw [if_pos rfl] at H; exact H
    clear H
    have H := H1
    clear H1
    have HC5 := Aside0.mk H
    clear H
    go_enter Tryd.func3, Tryd.ntmps3
    go_upto_block 0 with (first | ((with_reducible refine gate_callee (f := 10) rfl ?_); refine goesL_ (some 16) rfl rfl Tryd.func10 (by kernel_rfl) rfl #[] rfl (by (try simp only [List.map_toArray, List.map_cons, List.map_nil]); first | done | rfl | (simp only [List.length_drop, List.length_take]; rfl)) ?_; (with_reducible refine (gatehouselaw13_lives.calls k  true _ A3.out).mono ?_); rintro e w6 ⟨rfl, hb⟩; refine ⟨_, rfl, ?_⟩; have n0_ := Aside0.mk (below_step (by repeat (first | (with_reducible first | exact HB.out | apply below_alloc | apply pw_below_drewN | apply below_drew1) | exact HB.out)) hb); clear HB; have HB := n0_; clear n0_; (try clear hb); (try clear hb2); (try clear hk); (try clear hi)))
    (try simp only [Act.put, List.setIfInBounds_toArray, List.set_cons_zero, List.set_cons_succ])
    go_cut [5, 7] (fun v5 v7 wc => ∃ (kq : Nat) (x5_4 : List (S25)) (x7_4 : List (S25)), Aside0 (gatehouselaw13_DirOrder.j1 kq a1 x5_4 ([] : List (S25)) x7_4 = some r) ∧ Aside0 (kq ≤ k) ∧ Aside0 (Kd.R k25 25 wc w.heap.size (fun k_ => some k_ ≠ ((.slice none 0 0) : Value).ownBlock ∧ some k_ ≠ (v7 : Value).ownBlock) v5 x5_4) ∧ Aside0 (Kd.R k25 25 wc w.heap.size (fun k_ => some k_ ≠ (v5 : Value).ownBlock ∧ some k_ ≠ (v7 : Value).ownBlock) (.slice none 0 0) ([] : List (S25))) ∧ Aside0 (Kd.R k25 25 wc w.heap.size (fun k_ => some k_ ≠ (v5 : Value).ownBlock ∧ some k_ ≠ ((.slice none 0 0) : Value).ownBlock) v7 x7_4) ∧ Aside0 (Below w.heap.size w wc))
    case first =>
      have H := HC5.out
      clear HC5
      have H' := Aside0.mk H
      clear H
      go_wp2
      go_loopg [5, 7, 20] k (fun kq v5 v7 v20 w' => ∃ (x5_1 : List (S25)) (x7_1 : List (S25)) (x20_1 : Int), v20 = .int .i64 x20_1 ∧ Aside0 (gatehouselaw13_DirOrder.l0 kq a1 x5_1 x7_1 l0 (l0.length : Int) x20_1 = some r) ∧ Aside0 (kq ≤ k) ∧ Aside0 (Kd.R k25 25 w' w.heap.size (fun k_ => some k_ ≠ (v7 : Value).ownBlock) v5 x5_1) ∧ Aside0 (Kd.R k25 25 w' w.heap.size (fun k_ => some k_ ≠ (v5 : Value).ownBlock) v7 x7_1) ∧ Aside0 (Below w.heap.size w w'))
      case atStart => exact ⟨(([] : List (S25))), (([] : List (S25))), (0), (by first | rfl | (simp; done) | (simp [*]; done)), H', ⟨Nat.le_refl _⟩, ⟨by first | exact Kd.R_nil _ _ _ _ _ | exact Kd.N_nil _ _ _ _ _ | exact Kd.V_nil _ _ _ _ _ | exact Kd.Q_nil _ _ _ _ _ | exact Kd.S_nil _ _ _ _ _⟩, ⟨by first | exact Kd.R_nil _ _ _ _ _ | exact Kd.N_nil _ _ _ _ _ | exact Kd.V_nil _ _ _ _ _ | exact Kd.Q_nil _ _ _ _ _ | exact Kd.S_nil _ _ _ _ _⟩, ⟨by repeat (first | (with_reducible first | exact HB.out | apply below_alloc | apply pw_below_drewN | apply below_drew1) | exact HB.out)⟩⟩
      case round =>
        clear H'
        try clear c1
        try clear p2
        try clear c3
        try clear c4
        obtain ⟨x5_1, x7_1, x20_1, rfl, HA, HK1, HO_5, HO_7, HB⟩ := hrel
        cases gk with
        | zero => exact absurd HA.out (by simp [gatehouselaw13_DirOrder.l0])
        | succ k1 =>
          have H := HA.out
          clear HA
          simp only [gatehouselaw13_DirOrder.l0] at H
          by_cases c7 : x20_1 < (l0.length : Int)
          · rw [if_pos c7] at H
            have c7b0 : decide (x20_1 < (l0.length : Int)) = true := decide_eq_true c7
            clear c7
            (first | rw [c7b0] | (simp only [i64_w, i32_w]; rw [c7b0]) | skip)
            by_cases c8 : 0 ≤ x20_1
            · rw [if_pos c8] at H
              have c8b0 : decide (0 ≤ x20_1) = true := decide_eq_true c8
              clear c8
              by_cases c9 : x20_1 < (l0.length : Int)
              · rw [if_pos c9] at H
                have c9b0 : decide (x20_1 < (l0.length : Int)) = true := decide_eq_true c9
                clear c9
                by_cases c10 : x20_1 ≥ 40
                · rw [if_pos c10] at H
                  have c10b0 : decide (40 ≤ x20_1) = true := decide_eq_true c10
                  clear c10
                  have H' := Aside0.mk H
                  clear H
                  have p147 : 0 ≤ (x20_1 : Int) := of_decide_eq_true (by first | (with_reducible assumption) | assumption)
                  have q147 : x20_1 < (l0.length : Int) := of_decide_eq_true (by first | (with_reducible assumption) | assumption)
                  obtain ⟨ad147, e147, hx147_0, hx147_1, hx147_2⟩ := at_T25 HR0.out x20_1 p147 q147
                  cases e147
                  replace hx147_0 := (HB.out.cell (World.block_lt_of_cell? w _ hx147_0)).trans hx147_0
                  replace hx147_1 := (HB.out.cell (World.block_lt_of_cell? w _ hx147_1)).trans hx147_1
                  replace hx147_2 := (HB.out.cell (World.block_lt_of_cell? w _ hx147_2)).trans hx147_2
                  replace p147 := eq_true p147
                  replace q147 := eq_true q147
                  go_wp2_with (first | ((with_reducible refine gate_dst (N := 9) rfl ?_); refine box_event ?hg (N := 9) ?hd (cs := #[.string (⟨#[]⟩ : ByteArray), .int .i64 0, .int .i64 0]) (t := 25) ?hr ?_; (case hd => rfl); (case hg => rfl); (case hr => first | (go_simp; done) | (go_simp; rfl)); intro gb148 hg w11 hbox hb; have n0_ := Aside0.mk (Kd.R_below (Kd.R_elderB (by (with_reducible repeat (first | apply Kd.R_alloc | apply Kd.R_drewN | apply Kd.R_drew)); exact HO_5.out) gb148 (Nat.le_of_eq hg.symm)) hb); have n1_ := Aside0.mk (Kd.R_below (Kd.R_elderB (by (with_reducible repeat (first | apply Kd.R_alloc | apply Kd.R_drewN | apply Kd.R_drew)); exact HO_7.out) gb148 (Nat.le_of_eq hg.symm)) hb); have n2_ := Aside0.mk (below_step (by repeat (first | (with_reducible first | exact HB.out | apply below_alloc | apply pw_below_drewN | apply below_drew1) | exact HB.out)) hb); have n3_ := Aside0.mk (hbox); have n4_ := Aside0.mk ((by rw [hg]; exact (below_size (by repeat (first | (with_reducible first | exact HB.out | apply below_alloc | apply pw_below_drewN | apply below_drew1) | exact HB.out))) : w.heap.size ≤ gb148)); have n5_ := Aside0.mk ((by rw [hg]; exact (below_size (by repeat (first | (with_reducible first | exact HB.out | apply below_alloc | apply pw_below_drewN | apply below_drew1) | exact HB.out))) : w.heap.size ≤ gb148)); clear HO_5; clear HO_7; clear HB; have HO_5 := n0_; have HO_7 := n1_; have HB := n2_; have BK148 := n3_; have GW148 := n4_; have GE148 := n5_; clear n0_ n1_ n2_ n3_ n4_ n5_; clear hb hbox hg; have hcz12_0 : w11.cell? ⟨gb148, 0, none⟩ = some (.string (⟨#[]⟩ : ByteArray)) := (blk_cell BK148.out 0).trans rfl; have hcz12_1 : w11.cell? ⟨gb148, 1, none⟩ = some (.int .i64 0) := (blk_cell BK148.out 1).trans rfl; have hcz12_2 : w11.cell? ⟨gb148, 2, none⟩ = some (.int .i64 0) := (blk_cell BK148.out 2).trans rfl; have hfz12_0 := blk_frozen BK148.out 0; have hfz12_1 := blk_frozen BK148.out 1; have hfz12_2 := blk_frozen BK148.out 2))
                  go_meet
                  case rel => exact ⟨_, (x5_1), (x7_1), H', ⟨by have := HK1.out; first | omega | exact Nat.le_refl _⟩, ⟨by (with_reducible repeat (first | apply Kd.R_alloc | apply Kd.R_drewN | apply Kd.R_drew)); exact Kd.R_mono (Kd.R_far (p := ⟨gb148, 2, none⟩) (Kd.R_far (p := ⟨gb148, 1, none⟩) (Kd.R_far (p := ⟨gb148, 0, none⟩) (Kd.R_mono HO_5.out (fun k_ hk => (⟨hk, hk.2⟩ : _ ∧ k_ ≠ gb148))) (fun _ hk => hk.2) (.string ((rd_T25 l0 x20_1).f0))) (fun _ hk => hk.2) (.int .i64 ((rd_T25 l0 x20_1).f1))) (fun _ hk => hk.2) (.int .i64 ((rd_T25 l0 x20_1).f2))) (fun _ hk => ⟨(by simp [Value.ownBlock]), hk.1.1⟩)⟩, ⟨by first | exact Kd.R_nil _ _ _ _ _ | exact Kd.N_nil _ _ _ _ _ | exact Kd.V_nil _ _ _ _ _ | exact Kd.Q_nil _ _ _ _ _ | exact Kd.S_nil _ _ _ _ _⟩, ⟨by (with_reducible repeat (first | apply Kd.R_alloc | apply Kd.R_drewN | apply Kd.R_drew)); exact Kd.R_mono (Kd.R_far (p := ⟨gb148, 2, none⟩) (Kd.R_far (p := ⟨gb148, 1, none⟩) (Kd.R_far (p := ⟨gb148, 0, none⟩) (Kd.R_mono HO_7.out (fun k_ hk => (⟨hk, hk.2⟩ : _ ∧ k_ ≠ gb148))) (fun _ hk => hk.2) (.string ((rd_T25 l0 x20_1).f0))) (fun _ hk => hk.2) (.int .i64 ((rd_T25 l0 x20_1).f1))) (fun _ hk => hk.2) (.int .i64 ((rd_T25 l0 x20_1).f2))) (fun _ hk => ⟨hk.1.1, (by simp [Value.ownBlock])⟩)⟩, ⟨by repeat (first | (with_reducible first | exact HB.out | apply below_alloc | apply pw_below_drewN | apply below_drew1 | refine below_set ?_ GE148.out) | exact HB.out)⟩⟩
                · rw [if_neg c10] at H
                  have c10b0 : decide (40 ≤ x20_1) = false := decide_eq_false c10
                  clear c10
                  replace H := Option.bind_eq_some_iff.mp H
                  obtain ⟨⟨t149, t152⟩, A130, H⟩ := H
                  replace H : (if t152 = 0 then (if x7_1.length < 4398046511104 then (gatehouselaw13_DirOrder.l0 k1 a1 t149 (x7_1 ++ [(⟨(rd_T25 l0 x20_1).f0, (rd_T25 l0 x20_1).f1, (rd_T25 l0 x20_1).f2⟩ : S25)]) l0 (l0.length : Int) (wrap64 (x20_1 + 1))) else (none)) else (gatehouselaw13_DirOrder.l0 k1 a1 x5_1 x7_1 l0 (l0.length : Int) (wrap64 (x20_1 + 1)))) = some r := H
                  have A13 := Aside0.mk A130
                  clear A130
                  by_cases c14 : t152 = 0
                  · rw [if_pos c14] at H
                    have c14b0 : (t152 == 0) = true := beq_iff_eq.mpr c14
                    have c14b1 : (t152 != 0) = false := bne_eq_false_iff_eq.mpr c14
                    clear c14
                    by_cases c15 : x7_1.length < 4398046511104
                    · rw [if_pos c15] at H
                      have LMc15 := Aside0.mk c15
                      clear c15
                      obtain ⟨y153, hy153⟩ : ∃ y_ : List (S25), y_ = (x7_1 ++ [(⟨(rd_T25 l0 x20_1).f0, (rd_T25 l0 x20_1).f1, (rd_T25 l0 x20_1).f2⟩ : S25)]) := ⟨_, rfl⟩
                      replace H : (gatehouselaw13_DirOrder.l0 k1 a1 t149 y153 l0 (l0.length : Int) (wrap64 (x20_1 + 1))) = some r := by first | (rw [hy153]; with_reducible exact H) | (have H2_ := (Option.bind_some _ _).symm.trans H; rw [hy153]; with_reducible exact H2_) | (have H2_ := (Option.bind_some _ _).symm.trans H; with_reducible exact H2_) | with_reducible exact H | (rw [hy153]; exact H) | exact H
                      have Ny153 := Aside0.mk hy153
                      clear hy153
                      have H' := Aside0.mk H
                      clear H
                      have p147 : 0 ≤ (x20_1 : Int) := of_decide_eq_true (by first | (with_reducible assumption) | assumption)
                      have q147 : x20_1 < (l0.length : Int) := of_decide_eq_true (by first | (with_reducible assumption) | assumption)
                      obtain ⟨ad147, e147, hx147_0, hx147_1, hx147_2⟩ := at_T25 HR0.out x20_1 p147 q147
                      cases e147
                      replace hx147_0 := (HB.out.cell (World.block_lt_of_cell? w _ hx147_0)).trans hx147_0
                      replace hx147_1 := (HB.out.cell (World.block_lt_of_cell? w _ hx147_1)).trans hx147_1
                      replace hx147_2 := (HB.out.cell (World.block_lt_of_cell? w _ hx147_2)).trans hx147_2
                      replace p147 := eq_true p147
                      replace q147 := eq_true q147
                      go_wp2_with (first | ((with_reducible refine gate_dst (N := 9) rfl ?_); refine box_event ?hg (N := 9) ?hd (cs := #[.string (⟨#[]⟩ : ByteArray), .int .i64 0, .int .i64 0]) (t := 25) ?hr ?_; (case hd => rfl); (case hg => rfl); (case hr => first | (go_simp; done) | (go_simp; rfl)); intro gb148 hg w16 hbox hb; have n0_ := Aside0.mk (Kd.R_below (Kd.R_elderB (by (with_reducible repeat (first | apply Kd.R_alloc | apply Kd.R_drewN | apply Kd.R_drew)); exact HO_5.out) gb148 (Nat.le_of_eq hg.symm)) hb); have n1_ := Aside0.mk (Kd.R_below (Kd.R_elderB (by (with_reducible repeat (first | apply Kd.R_alloc | apply Kd.R_drewN | apply Kd.R_drew)); exact HO_7.out) gb148 (Nat.le_of_eq hg.symm)) hb); have n2_ := Aside0.mk (below_step (by repeat (first | (with_reducible first | exact HB.out | apply below_alloc | apply pw_below_drewN | apply below_drew1) | exact HB.out)) hb); have n3_ := Aside0.mk (hbox); have n4_ := Aside0.mk ((by rw [hg]; exact (below_size (by repeat (first | (with_reducible first | exact HB.out | apply below_alloc | apply pw_below_drewN | apply below_drew1) | exact HB.out))) : w.heap.size ≤ gb148)); have n5_ := Aside0.mk ((by rw [hg]; exact (below_size (by repeat (first | (with_reducible first | exact HB.out | apply below_alloc | apply pw_below_drewN | apply below_drew1) | exact HB.out))) : w.heap.size ≤ gb148)); clear HO_5; clear HO_7; clear HB; have HO_5 := n0_; have HO_7 := n1_; have HB := n2_; have BK148 := n3_; have GW148 := n4_; have GE148 := n5_; clear n0_ n1_ n2_ n3_ n4_ n5_; clear hb hbox hg; have hcz17_0 : w16.cell? ⟨gb148, 0, none⟩ = some (.string (⟨#[]⟩ : ByteArray)) := (blk_cell BK148.out 0).trans rfl; have hcz17_1 : w16.cell? ⟨gb148, 1, none⟩ = some (.int .i64 0) := (blk_cell BK148.out 1).trans rfl; have hcz17_2 : w16.cell? ⟨gb148, 2, none⟩ = some (.int .i64 0) := (blk_cell BK148.out 2).trans rfl; have hfz17_0 := blk_frozen BK148.out 0; have hfz17_1 := blk_frozen BK148.out 1; have hfz17_2 := blk_frozen BK148.out 2; obtain ⟨Ao18, co18, eo18⟩ := Kd.R_slice HO_5.out; subst eo18) | ((with_reducible refine gate_callee (f := 11) rfl ?_); refine goesL_ (some 30) rfl rfl Tryd.func11 (by kernel_rfl) rfl #[.slice Ao18 x5_1.length co18, .agg #[.string ((rd_T25 l0 x20_1).f0), .int .i64 ((rd_T25 l0 x20_1).f1), .int .i64 ((rd_T25 l0 x20_1).f2)]] rfl (by (try simp only [List.map_toArray, List.map_cons, List.map_nil]); first | done | rfl | (simp only [List.length_drop, List.length_take]; rfl)) ?_; (with_reducible refine (dir_Put.calls _ _ x5_1 ((rd_T25 l0 x20_1).f0) ((rd_T25 l0 x20_1).f1) ((rd_T25 l0 x20_1).f2) t149 t152 _ ?side1 ?side2 A13.out).mono ?_); (case side1 => refine (Kd.R_reads' (e := 25) (base := w.heap.size) (ok := fun k_ => (some k_ ≠ (u7 : Value).ownBlock ∧ k_ ≠ gb148)) (n := x5_1.length) (c := co18) ?_).2.2; exact (by (with_reducible repeat (first | apply Kd.R_alloc | apply Kd.R_drewN | apply Kd.R_drew)); exact (Kd.R_mono (Kd.R_far (p := ⟨gb148, 2, none⟩) (Kd.R_far (p := ⟨gb148, 1, none⟩) (Kd.R_far (p := ⟨gb148, 0, none⟩) (Kd.R_mono HO_5.out (fun k_ hk => (⟨hk, hk.2⟩ : _ ∧ k_ ≠ gb148))) (fun _ hk => hk.2) (.string ((rd_T25 l0 x20_1).f0))) (fun _ hk => hk.2) (.int .i64 ((rd_T25 l0 x20_1).f1))) (fun _ hk => hk.2) (.int .i64 ((rd_T25 l0 x20_1).f2))) (fun _ h_ => h_.1)))); (case side2 => exact (Kd.R_reads' HO_5.out).2.1); rintro e w19 ⟨v150, rfl, ho0, hb⟩; refine ⟨_, rfl, ?_⟩; have n0_ := Aside0.mk (Kd.R_elder' (by (with_reducible repeat (first | apply Kd.R_alloc | apply Kd.R_drewN | apply Kd.R_drew)); exact (Kd.R_mono (Kd.R_far (p := ⟨gb148, 2, none⟩) (Kd.R_far (p := ⟨gb148, 1, none⟩) (Kd.R_far (p := ⟨gb148, 0, none⟩) (Kd.R_mono HO_5.out (fun k_ hk => (⟨hk, hk.2⟩ : _ ∧ k_ ≠ gb148))) (fun _ hk => hk.2) (.string ((rd_T25 l0 x20_1).f0))) (fun _ hk => hk.2) (.int .i64 ((rd_T25 l0 x20_1).f1))) (fun _ hk => hk.2) (.int .i64 ((rd_T25 l0 x20_1).f2))) (fun _ h_ => h_.1))) (Kd.R_base ho0) hb); have n1_ := Aside0.mk (Kd.R_elder' (by (with_reducible repeat (first | apply Kd.R_alloc | apply Kd.R_drewN | apply Kd.R_drew)); exact (Kd.R_mono (Kd.R_far (p := ⟨gb148, 2, none⟩) (Kd.R_far (p := ⟨gb148, 1, none⟩) (Kd.R_far (p := ⟨gb148, 0, none⟩) (Kd.R_mono HO_7.out (fun k_ hk => (⟨hk, hk.2⟩ : _ ∧ k_ ≠ gb148))) (fun _ hk => hk.2) (.string ((rd_T25 l0 x20_1).f0))) (fun _ hk => hk.2) (.int .i64 ((rd_T25 l0 x20_1).f1))) (fun _ hk => hk.2) (.int .i64 ((rd_T25 l0 x20_1).f2))) (fun _ h_ => h_.1))) (Kd.R_base ho0) hb); have n2_ := Aside0.mk (Kd.R_lower (Kd.R_newB (Kd.R_new' (Kd.R_new' ho0 (Kd.R_lt (by (with_reducible repeat (first | apply Kd.R_alloc | apply Kd.R_drewN | apply Kd.R_drew)); exact (Kd.R_mono (Kd.R_far (p := ⟨gb148, 2, none⟩) (Kd.R_far (p := ⟨gb148, 1, none⟩) (Kd.R_far (p := ⟨gb148, 0, none⟩) (Kd.R_mono HO_5.out (fun k_ hk => (⟨hk, hk.2⟩ : _ ∧ k_ ≠ gb148))) (fun _ hk => hk.2) (.string ((rd_T25 l0 x20_1).f0))) (fun _ hk => hk.2) (.int .i64 ((rd_T25 l0 x20_1).f1))) (fun _ hk => hk.2) (.int .i64 ((rd_T25 l0 x20_1).f2))) (fun _ h_ => h_.1))))) (Kd.R_lt (by (with_reducible repeat (first | apply Kd.R_alloc | apply Kd.R_drewN | apply Kd.R_drew)); exact (Kd.R_mono (Kd.R_far (p := ⟨gb148, 2, none⟩) (Kd.R_far (p := ⟨gb148, 1, none⟩) (Kd.R_far (p := ⟨gb148, 0, none⟩) (Kd.R_mono HO_7.out (fun k_ hk => (⟨hk, hk.2⟩ : _ ∧ k_ ≠ gb148))) (fun _ hk => hk.2) (.string ((rd_T25 l0 x20_1).f0))) (fun _ hk => hk.2) (.int .i64 ((rd_T25 l0 x20_1).f1))) (fun _ hk => hk.2) (.int .i64 ((rd_T25 l0 x20_1).f2))) (fun _ h_ => h_.1))))) (g := gb148) (o := .cells #[.string ((rd_T25 l0 x20_1).f0), .int .i64 ((rd_T25 l0 x20_1).f1), .int .i64 ((rd_T25 l0 x20_1).f2)] 25 (0, 0)) (by (with_reducible repeat (first | refine blk_drewN ?_ _ | refine blk_drew ?_ | refine blk_alloc ?_ _)); refine blk_put (cs := #[.string ((rd_T25 l0 x20_1).f0), .int .i64 ((rd_T25 l0 x20_1).f1), .int .i64 0]) ?_ 2 _ rfl; (with_reducible repeat (first | refine blk_drewN ?_ _ | refine blk_drew ?_ | refine blk_alloc ?_ _)); refine blk_put (cs := #[.string ((rd_T25 l0 x20_1).f0), .int .i64 0, .int .i64 0]) ?_ 1 _ rfl; (with_reducible repeat (first | refine blk_drewN ?_ _ | refine blk_drew ?_ | refine blk_alloc ?_ _)); refine blk_put (cs := #[.string (⟨#[]⟩ : ByteArray), .int .i64 0, .int .i64 0]) ?_ 0 _ rfl; (with_reducible repeat (first | refine blk_drewN ?_ _ | refine blk_drew ?_ | refine blk_alloc ?_ _)); exact BK148.out)) (below_size (by repeat (first | (with_reducible first | exact HB.out | apply below_alloc | apply pw_below_drewN | apply below_drew1 | refine below_set ?_ GE148.out) | exact HB.out)))); have n3_ := Aside0.mk (blk_below (g := gb148) (o := .cells #[.string ((rd_T25 l0 x20_1).f0), .int .i64 ((rd_T25 l0 x20_1).f1), .int .i64 ((rd_T25 l0 x20_1).f2)] 25 (0, 0)) (by (with_reducible repeat (first | refine blk_drewN ?_ _ | refine blk_drew ?_ | refine blk_alloc ?_ _)); refine blk_put (cs := #[.string ((rd_T25 l0 x20_1).f0), .int .i64 ((rd_T25 l0 x20_1).f1), .int .i64 0]) ?_ 2 _ rfl; (with_reducible repeat (first | refine blk_drewN ?_ _ | refine blk_drew ?_ | refine blk_alloc ?_ _)); refine blk_put (cs := #[.string ((rd_T25 l0 x20_1).f0), .int .i64 0, .int .i64 0]) ?_ 1 _ rfl; (with_reducible repeat (first | refine blk_drewN ?_ _ | refine blk_drew ?_ | refine blk_alloc ?_ _)); refine blk_put (cs := #[.string (⟨#[]⟩ : ByteArray), .int .i64 0, .int .i64 0]) ?_ 0 _ rfl; (with_reducible repeat (first | refine blk_drewN ?_ _ | refine blk_drew ?_ | refine blk_alloc ?_ _)); exact BK148.out) hb); have n4_ := Aside0.mk (below_step (by repeat (first | (with_reducible first | exact HB.out | apply below_alloc | apply pw_below_drewN | apply below_drew1 | refine below_set ?_ GE148.out) | exact HB.out)) hb); clear HO_5; clear HO_7; clear BK148; clear HB; have HO_5 := n0_; have HO_7 := n1_; have HO151 := n2_; have BK148 := n3_; have HB := n4_; clear n0_ n1_ n2_ n3_ n4_; (try clear hb); (try clear hb2); (try clear hk); (try clear hi); (try clear ho0); have hcz20_0 : w19.cell? ⟨gb148, 0, none⟩ = some (.string ((rd_T25 l0 x20_1).f0)) := (blk_cell BK148.out 0).trans rfl; have hcz20_1 : w19.cell? ⟨gb148, 1, none⟩ = some (.int .i64 ((rd_T25 l0 x20_1).f1)) := (blk_cell BK148.out 1).trans rfl; have hcz20_2 : w19.cell? ⟨gb148, 2, none⟩ = some (.int .i64 ((rd_T25 l0 x20_1).f2)) := (blk_cell BK148.out 2).trans rfl; have hfz20_0 := blk_frozen BK148.out 0; have hfz20_1 := blk_frozen BK148.out 1; have hfz20_2 := blk_frozen BK148.out 2) | ((with_reducible refine gate_builtin (b := .append) (xs := #[.tmp 36, .tmp 38]) rfl ?_); at_builtin; refine Kd.R_append k25 (w0 := w) w.heap.size rfl (.tmp 36) (.tmp 38) 22 25 (.agg #[(.string ⟨#[]⟩), (.int .i64 0), (.int .i64 0)]) 32 rfl Tryd.underlying22 info25 rfl (by decide) (by omega) u7 x7_1 (⟨(rd_T25 l0 x20_1).f0, (rd_T25 l0 x20_1).f1, (rd_T25 l0 x20_1).f2⟩ : S25) [.string ((rd_T25 l0 x20_1).f0), .int .i64 ((rd_T25 l0 x20_1).f1), .int .i64 ((rd_T25 l0 x20_1).f2)] (fun k_ => some k_ ≠ (.slice Ao18 x5_1.length co18 : Value).ownBlock ∧ some k_ ≠ (v150 : Value).ownBlock ∧ k_ ≠ gb148) (fun _ => False) rfl rfl ?aP (fun _ hk => hk.elim) ?aF ?aO ?aB ?aS ?aL ?_; (case aP => exact k25_mkM _ _ _ (⟨(rd_T25 l0 x20_1).f0, (rd_T25 l0 x20_1).f1, (rd_T25 l0 x20_1).f2⟩ : S25)); (case aB => exact (by repeat (first | (with_reducible first | exact HB.out | apply below_alloc | apply pw_below_drewN | apply below_drew1 | refine below_set ?_ GE148.out) | exact HB.out))); (case aF => exact (fun k_ hk => ⟨Kd.fresh' (Kd.R_lt (by (with_reducible repeat (first | apply Kd.R_alloc | apply Kd.R_drewN | apply Kd.R_drew)); exact HO_5.out)) k_ hk, Kd.fresh' (Kd.R_lt (by (with_reducible repeat (first | apply Kd.R_alloc | apply Kd.R_drewN | apply Kd.R_drew)); exact HO151.out)) k_ hk, Kd.freshB (g := gb148) (o := .cells #[.string ((rd_T25 l0 x20_1).f0), .int .i64 ((rd_T25 l0 x20_1).f1), .int .i64 ((rd_T25 l0 x20_1).f2)] 25 (0, 0)) (by (with_reducible repeat (first | refine blk_drewN ?_ _ | refine blk_drew ?_ | refine blk_alloc ?_ _)); exact BK148.out) k_ hk⟩)); (case aO => exact (by (with_reducible repeat (first | apply Kd.R_alloc | apply Kd.R_drewN | apply Kd.R_drew)); exact Kd.R_mono HO_7.out (fun _ hk => ⟨hk.1.1, ⟨hk.2, hk.1.2⟩⟩))); (case aS => exact (below_size (by repeat (first | (with_reducible first | exact HB.out | apply below_alloc | apply pw_below_drewN | apply below_drew1 | refine below_set ?_ GE148.out) | exact HB.out)))); (case aL => have := LMc15.out; omega); intro v154 w21 ho hb hg hat; rw [← Ny153.out] at ho; have n0_ := Aside0.mk (Kd.R_after (ok := (fun k_ => some k_ ≠ (v150 : Value).ownBlock ∧ k_ ≠ gb148)) (by (with_reducible repeat (first | apply Kd.R_alloc | apply Kd.R_drewN | apply Kd.R_drew)); exact Kd.R_mono HO_5.out (fun _ hk => ⟨⟨hk.2, hk.1.2⟩, hk.1.1⟩)) hg hat); have n1_ := Aside0.mk (blk_grown (g := gb148) (o := .cells #[.string ((rd_T25 l0 x20_1).f0), .int .i64 ((rd_T25 l0 x20_1).f1), .int .i64 ((rd_T25 l0 x20_1).f2)] 25 (0, 0)) (by (with_reducible repeat (first | refine blk_drewN ?_ _ | refine blk_drew ?_ | refine blk_alloc ?_ _)); exact BK148.out) hg (Kd.R_away HO_7.out (fun _ hk => hk.1.2))); have n2_ := Aside0.mk (Kd.R_after (ok := (fun k_ => some k_ ≠ (.slice Ao18 x5_1.length co18 : Value).ownBlock ∧ k_ ≠ gb148)) (by (with_reducible repeat (first | apply Kd.R_alloc | apply Kd.R_drewN | apply Kd.R_drew)); exact Kd.R_mono HO151.out (fun _ hk => ⟨⟨hk.1.1.2, hk.2⟩, hk.1.2⟩)) hg hat); have n3_ := Aside0.mk (hb); have n4_ := Aside0.mk (ho); clear HO_5; clear BK148; clear HO151; clear HB; clear HO_7; have HO_5 := n0_; have BK148 := n1_; have HO151 := n2_; have HB := n3_; have HO155 := n4_; clear n0_ n1_ n2_ n3_ n4_; clear ho hb hg hat))
                      go_roundg k1
                      case measure => have := HK1.out; omega
                      case rel => exact ⟨(t149), (y153), (wrap64 (x20_1 + 1)), (by first | rfl | (simp; done) | (simp [*]; done)), H', ⟨by have := HK1.out; omega⟩, ⟨by (with_reducible repeat (first | apply Kd.R_alloc | apply Kd.R_drewN | apply Kd.R_drew)); exact Kd.R_mono HO151.out (fun _ hk => hk.2)⟩, ⟨by (with_reducible repeat (first | apply Kd.R_alloc | apply Kd.R_drewN | apply Kd.R_drew)); exact Kd.R_mono HO155.out (fun _ hk => hk.2.1)⟩, ⟨by repeat (first | (with_reducible first | exact HB.out | apply below_alloc | apply pw_below_drewN | apply below_drew1 | refine below_set ?_ GE148.out) | exact HB.out)⟩⟩
                    · rw [if_neg c15] at H
                      exact absurd H (by simp)
                  · rw [if_neg c14] at H
                    have c14b0 : (t152 == 0) = false := beq_eq_false_iff_ne.mpr c14
                    have c14b1 : (t152 != 0) = true := bne_iff_ne.mpr c14
                    have H' := Aside0.mk H
                    clear H
                    have p147 : 0 ≤ (x20_1 : Int) := of_decide_eq_true (by first | (with_reducible assumption) | assumption)
                    have q147 : x20_1 < (l0.length : Int) := of_decide_eq_true (by first | (with_reducible assumption) | assumption)
                    obtain ⟨ad147, e147, hx147_0, hx147_1, hx147_2⟩ := at_T25 HR0.out x20_1 p147 q147
                    cases e147
                    replace hx147_0 := (HB.out.cell (World.block_lt_of_cell? w _ hx147_0)).trans hx147_0
                    replace hx147_1 := (HB.out.cell (World.block_lt_of_cell? w _ hx147_1)).trans hx147_1
                    replace hx147_2 := (HB.out.cell (World.block_lt_of_cell? w _ hx147_2)).trans hx147_2
                    replace p147 := eq_true p147
                    replace q147 := eq_true q147
                    go_wp2_with (first | ((with_reducible refine gate_dst (N := 9) rfl ?_); refine box_event ?hg (N := 9) ?hd (cs := #[.string (⟨#[]⟩ : ByteArray), .int .i64 0, .int .i64 0]) (t := 25) ?hr ?_; (case hd => rfl); (case hg => rfl); (case hr => first | (go_simp; done) | (go_simp; rfl)); intro gb148 hg w22 hbox hb; have n0_ := Aside0.mk (Kd.R_below (Kd.R_elderB (by (with_reducible repeat (first | apply Kd.R_alloc | apply Kd.R_drewN | apply Kd.R_drew)); exact HO_5.out) gb148 (Nat.le_of_eq hg.symm)) hb); have n1_ := Aside0.mk (Kd.R_below (Kd.R_elderB (by (with_reducible repeat (first | apply Kd.R_alloc | apply Kd.R_drewN | apply Kd.R_drew)); exact HO_7.out) gb148 (Nat.le_of_eq hg.symm)) hb); have n2_ := Aside0.mk (below_step (by repeat (first | (with_reducible first | exact HB.out | apply below_alloc | apply pw_below_drewN | apply below_drew1) | exact HB.out)) hb); have n3_ := Aside0.mk (hbox); have n4_ := Aside0.mk ((by rw [hg]; exact (below_size (by repeat (first | (with_reducible first | exact HB.out | apply below_alloc | apply pw_below_drewN | apply below_drew1) | exact HB.out))) : w.heap.size ≤ gb148)); have n5_ := Aside0.mk ((by rw [hg]; exact (below_size (by repeat (first | (with_reducible first | exact HB.out | apply below_alloc | apply pw_below_drewN | apply below_drew1) | exact HB.out))) : w.heap.size ≤ gb148)); clear HO_5; clear HO_7; clear HB; have HO_5 := n0_; have HO_7 := n1_; have HB := n2_; have BK148 := n3_; have GW148 := n4_; have GE148 := n5_; clear n0_ n1_ n2_ n3_ n4_ n5_; clear hb hbox hg; have hcz23_0 : w22.cell? ⟨gb148, 0, none⟩ = some (.string (⟨#[]⟩ : ByteArray)) := (blk_cell BK148.out 0).trans rfl; have hcz23_1 : w22.cell? ⟨gb148, 1, none⟩ = some (.int .i64 0) := (blk_cell BK148.out 1).trans rfl; have hcz23_2 : w22.cell? ⟨gb148, 2, none⟩ = some (.int .i64 0) := (blk_cell BK148.out 2).trans rfl; have hfz23_0 := blk_frozen BK148.out 0; have hfz23_1 := blk_frozen BK148.out 1; have hfz23_2 := blk_frozen BK148.out 2; obtain ⟨Ao24, co24, eo24⟩ := Kd.R_slice HO_5.out; subst eo24) | ((with_reducible refine gate_callee (f := 11) rfl ?_); refine goesL_ (some 30) rfl rfl Tryd.func11 (by kernel_rfl) rfl #[.slice Ao24 x5_1.length co24, .agg #[.string ((rd_T25 l0 x20_1).f0), .int .i64 ((rd_T25 l0 x20_1).f1), .int .i64 ((rd_T25 l0 x20_1).f2)]] rfl (by (try simp only [List.map_toArray, List.map_cons, List.map_nil]); first | done | rfl | (simp only [List.length_drop, List.length_take]; rfl)) ?_; (with_reducible refine (dir_Put.calls _ _ x5_1 ((rd_T25 l0 x20_1).f0) ((rd_T25 l0 x20_1).f1) ((rd_T25 l0 x20_1).f2) t149 t152 _ ?side1 ?side2 A13.out).mono ?_); (case side1 => refine (Kd.R_reads' (e := 25) (base := w.heap.size) (ok := fun k_ => (some k_ ≠ (u7 : Value).ownBlock ∧ k_ ≠ gb148)) (n := x5_1.length) (c := co24) ?_).2.2; exact (by (with_reducible repeat (first | apply Kd.R_alloc | apply Kd.R_drewN | apply Kd.R_drew)); exact (Kd.R_mono (Kd.R_far (p := ⟨gb148, 2, none⟩) (Kd.R_far (p := ⟨gb148, 1, none⟩) (Kd.R_far (p := ⟨gb148, 0, none⟩) (Kd.R_mono HO_5.out (fun k_ hk => (⟨hk, hk.2⟩ : _ ∧ k_ ≠ gb148))) (fun _ hk => hk.2) (.string ((rd_T25 l0 x20_1).f0))) (fun _ hk => hk.2) (.int .i64 ((rd_T25 l0 x20_1).f1))) (fun _ hk => hk.2) (.int .i64 ((rd_T25 l0 x20_1).f2))) (fun _ h_ => h_.1)))); (case side2 => exact (Kd.R_reads' HO_5.out).2.1); rintro e w25 ⟨v150, rfl, ho0, hb⟩; refine ⟨_, rfl, ?_⟩; have n0_ := Aside0.mk (Kd.R_elder' (by (with_reducible repeat (first | apply Kd.R_alloc | apply Kd.R_drewN | apply Kd.R_drew)); exact (Kd.R_mono (Kd.R_far (p := ⟨gb148, 2, none⟩) (Kd.R_far (p := ⟨gb148, 1, none⟩) (Kd.R_far (p := ⟨gb148, 0, none⟩) (Kd.R_mono HO_5.out (fun k_ hk => (⟨hk, hk.2⟩ : _ ∧ k_ ≠ gb148))) (fun _ hk => hk.2) (.string ((rd_T25 l0 x20_1).f0))) (fun _ hk => hk.2) (.int .i64 ((rd_T25 l0 x20_1).f1))) (fun _ hk => hk.2) (.int .i64 ((rd_T25 l0 x20_1).f2))) (fun _ h_ => h_.1))) (Kd.R_base ho0) hb); have n1_ := Aside0.mk (Kd.R_elder' (by (with_reducible repeat (first | apply Kd.R_alloc | apply Kd.R_drewN | apply Kd.R_drew)); exact (Kd.R_mono (Kd.R_far (p := ⟨gb148, 2, none⟩) (Kd.R_far (p := ⟨gb148, 1, none⟩) (Kd.R_far (p := ⟨gb148, 0, none⟩) (Kd.R_mono HO_7.out (fun k_ hk => (⟨hk, hk.2⟩ : _ ∧ k_ ≠ gb148))) (fun _ hk => hk.2) (.string ((rd_T25 l0 x20_1).f0))) (fun _ hk => hk.2) (.int .i64 ((rd_T25 l0 x20_1).f1))) (fun _ hk => hk.2) (.int .i64 ((rd_T25 l0 x20_1).f2))) (fun _ h_ => h_.1))) (Kd.R_base ho0) hb); have n2_ := Aside0.mk (Kd.R_lower (Kd.R_newB (Kd.R_new' (Kd.R_new' ho0 (Kd.R_lt (by (with_reducible repeat (first | apply Kd.R_alloc | apply Kd.R_drewN | apply Kd.R_drew)); exact (Kd.R_mono (Kd.R_far (p := ⟨gb148, 2, none⟩) (Kd.R_far (p := ⟨gb148, 1, none⟩) (Kd.R_far (p := ⟨gb148, 0, none⟩) (Kd.R_mono HO_5.out (fun k_ hk => (⟨hk, hk.2⟩ : _ ∧ k_ ≠ gb148))) (fun _ hk => hk.2) (.string ((rd_T25 l0 x20_1).f0))) (fun _ hk => hk.2) (.int .i64 ((rd_T25 l0 x20_1).f1))) (fun _ hk => hk.2) (.int .i64 ((rd_T25 l0 x20_1).f2))) (fun _ h_ => h_.1))))) (Kd.R_lt (by (with_reducible repeat (first | apply Kd.R_alloc | apply Kd.R_drewN | apply Kd.R_drew)); exact (Kd.R_mono (Kd.R_far (p := ⟨gb148, 2, none⟩) (Kd.R_far (p := ⟨gb148, 1, none⟩) (Kd.R_far (p := ⟨gb148, 0, none⟩) (Kd.R_mono HO_7.out (fun k_ hk => (⟨hk, hk.2⟩ : _ ∧ k_ ≠ gb148))) (fun _ hk => hk.2) (.string ((rd_T25 l0 x20_1).f0))) (fun _ hk => hk.2) (.int .i64 ((rd_T25 l0 x20_1).f1))) (fun _ hk => hk.2) (.int .i64 ((rd_T25 l0 x20_1).f2))) (fun _ h_ => h_.1))))) (g := gb148) (o := .cells #[.string ((rd_T25 l0 x20_1).f0), .int .i64 ((rd_T25 l0 x20_1).f1), .int .i64 ((rd_T25 l0 x20_1).f2)] 25 (0, 0)) (by (with_reducible repeat (first | refine blk_drewN ?_ _ | refine blk_drew ?_ | refine blk_alloc ?_ _)); refine blk_put (cs := #[.string ((rd_T25 l0 x20_1).f0), .int .i64 ((rd_T25 l0 x20_1).f1), .int .i64 0]) ?_ 2 _ rfl; (with_reducible repeat (first | refine blk_drewN ?_ _ | refine blk_drew ?_ | refine blk_alloc ?_ _)); refine blk_put (cs := #[.string ((rd_T25 l0 x20_1).f0), .int .i64 0, .int .i64 0]) ?_ 1 _ rfl; (with_reducible repeat (first | refine blk_drewN ?_ _ | refine blk_drew ?_ | refine blk_alloc ?_ _)); refine blk_put (cs := #[.string (⟨#[]⟩ : ByteArray), .int .i64 0, .int .i64 0]) ?_ 0 _ rfl; (with_reducible repeat (first | refine blk_drewN ?_ _ | refine blk_drew ?_ | refine blk_alloc ?_ _)); exact BK148.out)) (below_size (by repeat (first | (with_reducible first | exact HB.out | apply below_alloc | apply pw_below_drewN | apply below_drew1 | refine below_set ?_ GE148.out) | exact HB.out)))); have n3_ := Aside0.mk (blk_below (g := gb148) (o := .cells #[.string ((rd_T25 l0 x20_1).f0), .int .i64 ((rd_T25 l0 x20_1).f1), .int .i64 ((rd_T25 l0 x20_1).f2)] 25 (0, 0)) (by (with_reducible repeat (first | refine blk_drewN ?_ _ | refine blk_drew ?_ | refine blk_alloc ?_ _)); refine blk_put (cs := #[.string ((rd_T25 l0 x20_1).f0), .int .i64 ((rd_T25 l0 x20_1).f1), .int .i64 0]) ?_ 2 _ rfl; (with_reducible repeat (first | refine blk_drewN ?_ _ | refine blk_drew ?_ | refine blk_alloc ?_ _)); refine blk_put (cs := #[.string ((rd_T25 l0 x20_1).f0), .int .i64 0, .int .i64 0]) ?_ 1 _ rfl; (with_reducible repeat (first | refine blk_drewN ?_ _ | refine blk_drew ?_ | refine blk_alloc ?_ _)); refine blk_put (cs := #[.string (⟨#[]⟩ : ByteArray), .int .i64 0, .int .i64 0]) ?_ 0 _ rfl; (with_reducible repeat (first | refine blk_drewN ?_ _ | refine blk_drew ?_ | refine blk_alloc ?_ _)); exact BK148.out) hb); have n4_ := Aside0.mk (below_step (by repeat (first | (with_reducible first | exact HB.out | apply below_alloc | apply pw_below_drewN | apply below_drew1 | refine below_set ?_ GE148.out) | exact HB.out)) hb); clear HO_5; clear HO_7; clear BK148; clear HB; have HO_5 := n0_; have HO_7 := n1_; have HO151 := n2_; have BK148 := n3_; have HB := n4_; clear n0_ n1_ n2_ n3_ n4_; (try clear hb); (try clear hb2); (try clear hk); (try clear hi); (try clear ho0)))
                    go_roundg k1
                    case measure => have := HK1.out; omega
                    case rel => exact ⟨(x5_1), (x7_1), (wrap64 (x20_1 + 1)), (by first | rfl | (simp; done) | (simp [*]; done)), H', ⟨by have := HK1.out; omega⟩, ⟨by (with_reducible repeat (first | apply Kd.R_alloc | apply Kd.R_drewN | apply Kd.R_drew)); exact Kd.R_mono HO_5.out (fun _ hk => hk.1.1)⟩, ⟨by (with_reducible repeat (first | apply Kd.R_alloc | apply Kd.R_drewN | apply Kd.R_drew)); exact Kd.R_mono HO_7.out (fun _ hk => hk.1.1)⟩, ⟨by repeat (first | (with_reducible first | exact HB.out | apply below_alloc | apply pw_below_drewN | apply below_drew1 | refine below_set ?_ GE148.out) | exact HB.out)⟩⟩
              · rw [if_neg c9] at H
                exact absurd H (by simp)
            · rw [if_neg c8] at H
              exact absurd H (by simp)
          · rw [if_neg c7] at H
            have c7b0 : decide (x20_1 < (l0.length : Int)) = false := decide_eq_false c7
            clear c7
            (first | rw [c7b0] | (simp only [i64_w, i32_w]; rw [c7b0]) | skip)
            have H' := Aside0.mk H
            clear H
            go_wp2
            go_meet
            case rel => exact ⟨_, (x5_1), (x7_1), H', ⟨by have := HK1.out; first | omega | exact Nat.le_refl _⟩, ⟨by (with_reducible repeat (first | apply Kd.R_alloc | apply Kd.R_drewN | apply Kd.R_drew)); exact Kd.R_mono HO_5.out (fun _ hk => ⟨(by simp [Value.ownBlock]), hk⟩)⟩, ⟨by first | exact Kd.R_nil _ _ _ _ _ | exact Kd.N_nil _ _ _ _ _ | exact Kd.V_nil _ _ _ _ _ | exact Kd.Q_nil _ _ _ _ _ | exact Kd.S_nil _ _ _ _ _⟩, ⟨by (with_reducible repeat (first | apply Kd.R_alloc | apply Kd.R_drewN | apply Kd.R_drew)); exact Kd.R_mono HO_7.out (fun _ hk => ⟨hk, (by simp [Value.ownBlock])⟩)⟩, ⟨by repeat (first | (with_reducible first | exact HB.out | apply below_alloc | apply pw_below_drewN | apply below_drew1) | exact HB.out)⟩⟩
    case rest =>
      clear HC5
      try clear c1
      try clear p1
      try clear q1
      try clear hx1
      try clear p2
      try clear c3
      try clear c4
      try clear p6
      try clear c7
      try clear c7b0
      try clear c8
      try clear c8b0
      try clear c9
      try clear c9b0
      try clear c10
      try clear c10b0
      try clear c11
      try clear c14
      try clear c14b0
      try clear c14b1
      try clear p14
      try clear q14
      try clear hx14
      try clear c15
      try clear hcz12_0
      try clear hcz12_1
      try clear hcz12_2
      try clear hcz17_0
      try clear hcz17_1
      try clear hcz17_2
      try clear hcz20_0
      try clear hcz20_1
      try clear hcz20_2
      try clear hcz23_0
      try clear hcz23_1
      try clear hcz23_2
      try clear hfz12_0
      try clear hfz12_1
      try clear hfz12_2
      try clear hfz17_0
      try clear hfz17_1
      try clear hfz17_2
      try clear hfz20_0
      try clear hfz20_1
      try clear hfz20_2
      try clear hfz23_0
      try clear hfz23_1
      try clear hfz23_2
      try clear hx147_0
      try clear hx147_1
      try clear hx147_2
      try clear p147
      try clear p2
      try clear q147
      obtain ⟨kq, x5_4, x7_4, HA, HJ4, HO_5, HO_6, HO_7, HB⟩ := hcut
      cases kq with
      | zero => exact absurd HA.out (by simp [gatehouselaw13_DirOrder.j1])
      | succ kj4 =>
        have H := HA.out
        clear HA
        simp only [gatehouselaw13_DirOrder.j1] at H
        have HC26 := Aside0.mk H
        clear H
        obtain ⟨Ao27, co27, eo27⟩ := Kd.R_slice HO_7.out
        subst eo27
        go_upto_if 43 with (fail)
        go_cut [12] (fun v12 wc => ∃ (kq : Nat) (x12_25 : Int), v12 = .int .i64 x12_25 ∧ Aside0 (gatehouselaw13_DirOrder.j2 kq x5_4 ([] : List (S25)) x7_4 x12_25 = some r) ∧ Aside0 (kq ≤ kj4) ∧ Aside0 (Kd.R k25 25 wc w.heap.size (fun k_ => some k_ ≠ ((.slice none 0 0) : Value).ownBlock ∧ some k_ ≠ ((.slice Ao27 x7_4.length co27) : Value).ownBlock) u5 x5_4) ∧ Aside0 (Kd.R k25 25 wc w.heap.size (fun k_ => some k_ ≠ (u5 : Value).ownBlock ∧ some k_ ≠ ((.slice Ao27 x7_4.length co27) : Value).ownBlock) (.slice none 0 0) ([] : List (S25))) ∧ Aside0 (Kd.R k25 25 wc w.heap.size (fun k_ => some k_ ≠ (u5 : Value).ownBlock ∧ some k_ ≠ ((.slice none 0 0) : Value).ownBlock) (.slice Ao27 x7_4.length co27) x7_4) ∧ Aside0 (Below w.heap.size w wc))
        case first =>
          have H := HC26.out
          clear HC26
          by_cases c28 : (x7_4.length : Int) > 0
          · rw [if_pos c28] at H
            have c28b0 : decide (0 < (x7_4.length : Int)) = true := decide_eq_true c28
            have c28b1 : decide (0 < x7_4.length) = true := decide_eq_true (by omega)
            have c28p : 0 < x7_4.length := of_decide_eq_true c28b1
            clear c28
            (first | rw [c28b0] | (simp only [i64_w, i32_w]; rw [c28b0]) | skip)
            by_cases c29 : (IntKind.u64.wrap ((x7_4.length : Int))) = 0
            · rw [if_pos c29] at H
              exact absurd H (by simp)
            · rw [if_neg c29] at H
              have c29b0 : ((IntKind.u64.wrap ((x7_4.length : Int))) == 0) = false := beq_eq_false_iff_ne.mpr c29
              have c29b1 : ((IntKind.u64.wrap ((x7_4.length : Int))) != 0) = true := bne_iff_ne.mpr c29
              have c29p : ¬ (IntKind.u64.wrap ((x7_4.length : Int))) = 0 := c29
              have H' := Aside0.mk H
              clear H
              go_wp2
              go_meet
              case rel => exact ⟨_, (wrap64 (Int.tmod (IntKind.u64.wrap (a1)) (IntKind.u64.wrap ((x7_4.length : Int))))), (by first | rfl | (simp; done) | (simp [*]; done)), H', ⟨by have := HJ4.out; first | omega | exact Nat.le_refl _⟩, ⟨by (with_reducible repeat (first | apply Kd.R_alloc | apply Kd.R_drewN | apply Kd.R_drew)); exact HO_5.out⟩, ⟨by (with_reducible repeat (first | apply Kd.R_alloc | apply Kd.R_drewN | apply Kd.R_drew)); exact HO_6.out⟩, ⟨by (with_reducible repeat (first | apply Kd.R_alloc | apply Kd.R_drewN | apply Kd.R_drew)); exact HO_7.out⟩, ⟨by repeat (first | (with_reducible first | exact HB.out | apply below_alloc | apply pw_below_drewN | apply below_drew1) | exact HB.out)⟩⟩
          · rw [if_neg c28] at H
            have c28b0 : decide (0 < (x7_4.length : Int)) = false := decide_eq_false c28
            have c28b1 : decide (0 < x7_4.length) = false := decide_eq_false (by omega)
            have c28p : ¬ 0 < x7_4.length := of_decide_eq_false c28b1
            clear c28
            (first | rw [c28b0] | (simp only [i64_w, i32_w]; rw [c28b0]) | skip)
            have H' := Aside0.mk H
            clear H
            go_wp2
            go_meet
            case rel => exact ⟨_, (0), (by first | rfl | (simp; done) | (simp [*]; done)), H', ⟨by have := HJ4.out; first | omega | exact Nat.le_refl _⟩, ⟨by (with_reducible repeat (first | apply Kd.R_alloc | apply Kd.R_drewN | apply Kd.R_drew)); exact HO_5.out⟩, ⟨by (with_reducible repeat (first | apply Kd.R_alloc | apply Kd.R_drewN | apply Kd.R_drew)); exact HO_6.out⟩, ⟨by (with_reducible repeat (first | apply Kd.R_alloc | apply Kd.R_drewN | apply Kd.R_drew)); exact HO_7.out⟩, ⟨by repeat (first | (with_reducible first | exact HB.out | apply below_alloc | apply pw_below_drewN | apply below_drew1) | exact HB.out)⟩⟩
        case rest =>
          clear HC26
          try clear c1
          try clear p1
          try clear q1
          try clear hx1
          try clear c2
          try clear p2
          try clear c3
          try clear c4
          try clear p6
          try clear c7
          try clear c7b0
          try clear c8
          try clear c8b0
          try clear c9
          try clear c9b0
          try clear c10
          try clear c10b0
          try clear c11
          try clear c14
          try clear c14b0
          try clear c14b1
          try clear p14
          try clear q14
          try clear hx14
          try clear c15
          try clear c28
          try clear c28b0
          try clear c28b1
          try clear c29
          try clear c29b0
          try clear c29b1
          try clear hcz12_0
          try clear hcz12_1
          try clear hcz12_2
          try clear hcz17_0
          try clear hcz17_1
          try clear hcz17_2
          try clear hcz20_0
          try clear hcz20_1
          try clear hcz20_2
          try clear hcz23_0
          try clear hcz23_1
          try clear hcz23_2
          try clear hfz12_0
          try clear hfz12_1
          try clear hfz12_2
          try clear hfz17_0
          try clear hfz17_1
          try clear hfz17_2
          try clear hfz20_0
          try clear hfz20_1
          try clear hfz20_2
          try clear hfz23_0
          try clear hfz23_1
          try clear hfz23_2
          try clear hx147_0
          try clear hx147_1
          try clear hx147_2
          try clear p1
          try clear p14
          try clear p147
          try clear p2
          try clear p6
          try clear q1
          try clear q14
          try clear q147
          obtain ⟨kq, x12_25, rfl, HA, HJ25, HO_5, HO_6, HO_7, HB⟩ := hcut
          cases kq with
          | zero => exact absurd HA.out (by simp [gatehouselaw13_DirOrder.j2])
          | succ kj25 =>
            have H := HA.out
            clear HA
            simp only [gatehouselaw13_DirOrder.j2] at H
            have H' := Aside0.mk H
            clear H
            go_wp2
            go_loopg [6, 53] kj25 (fun kq v6 v53 w' => ∃ (x6_3 : List (S25)) (x53_3 : Int), v53 = .int .i64 x53_3 ∧ Aside0 (gatehouselaw13_DirOrder.l1 kq x5_4 x6_3 x7_4 x12_25 (x7_4.length : Int) x53_3 = some r) ∧ Aside0 (kq ≤ kj25) ∧ Aside0 (Kd.R k25 25 w' w.heap.size (fun k_ => some k_ ≠ (v6 : Value).ownBlock ∧ some k_ ≠ ((.slice Ao27 x7_4.length co27) : Value).ownBlock) u5 x5_4) ∧ Aside0 (Kd.R k25 25 w' w.heap.size (fun k_ => some k_ ≠ (u5 : Value).ownBlock ∧ some k_ ≠ ((.slice Ao27 x7_4.length co27) : Value).ownBlock) v6 x6_3) ∧ Aside0 (Kd.R k25 25 w' w.heap.size (fun k_ => some k_ ≠ (u5 : Value).ownBlock ∧ some k_ ≠ (v6 : Value).ownBlock) (.slice Ao27 x7_4.length co27) x7_4) ∧ Aside0 (Below w.heap.size w w'))
            case atStart => exact ⟨(([] : List (S25))), (0), (by first | rfl | (simp; done) | (simp [*]; done)), H', ⟨Nat.le_refl _⟩, ⟨by (with_reducible repeat (first | apply Kd.R_alloc | apply Kd.R_drewN | apply Kd.R_drew)); exact HO_5.out⟩, ⟨by (with_reducible repeat (first | apply Kd.R_alloc | apply Kd.R_drewN | apply Kd.R_drew)); exact HO_6.out⟩, ⟨by (with_reducible repeat (first | apply Kd.R_alloc | apply Kd.R_drewN | apply Kd.R_drew)); exact HO_7.out⟩, ⟨by repeat (first | (with_reducible first | exact HB.out | apply below_alloc | apply pw_below_drewN | apply below_drew1) | exact HB.out)⟩⟩
            case round =>
              clear H'
              try clear c1
              try clear p1
              try clear q1
              try clear hx1
              try clear c2
              try clear p2
              try clear c3
              try clear c4
              try clear p6
              try clear c7
              try clear c7b0
              try clear c8
              try clear c8b0
              try clear c9
              try clear c9b0
              try clear c10
              try clear c10b0
              try clear c11
              try clear c14
              try clear c14b0
              try clear c14b1
              try clear p14
              try clear q14
              try clear hx14
              try clear c15
              try clear c28
              try clear c28b0
              try clear c28b1
              try clear c29
              try clear c29b0
              try clear c29b1
              try clear hcz12_0
              try clear hcz12_1
              try clear hcz12_2
              try clear hcz17_0
              try clear hcz17_1
              try clear hcz17_2
              try clear hcz20_0
              try clear hcz20_1
              try clear hcz20_2
              try clear hcz23_0
              try clear hcz23_1
              try clear hcz23_2
              try clear hfz12_0
              try clear hfz12_1
              try clear hfz12_2
              try clear hfz17_0
              try clear hfz17_1
              try clear hfz17_2
              try clear hfz20_0
              try clear hfz20_1
              try clear hfz20_2
              try clear hfz23_0
              try clear hfz23_1
              try clear hfz23_2
              try clear hx147_0
              try clear hx147_1
              try clear hx147_2
              try clear p1
              try clear p14
              try clear p147
              try clear p2
              try clear p6
              try clear q1
              try clear q14
              try clear q147
              obtain ⟨x6_3, x53_3, rfl, HA, HK3, HO_5, HO_6, HO_7, HB⟩ := hrel
              cases gk with
              | zero => exact absurd HA.out (by simp [gatehouselaw13_DirOrder.l1])
              | succ k3 =>
                have H := HA.out
                clear HA
                simp only [gatehouselaw13_DirOrder.l1] at H
                by_cases c30 : x53_3 < (x7_4.length : Int)
                · rw [if_pos c30] at H
                  have c30b0 : decide (x53_3 < (x7_4.length : Int)) = true := decide_eq_true c30
                  clear c30
                  by_cases c31 : (x7_4.length : Int) = 0
                  · rw [if_pos c31] at H
                    exact absurd H (by simp)
                  · rw [if_neg c31] at H
                    have c31b0 : ((x7_4.length : Int) == 0) = false := beq_eq_false_iff_ne.mpr c31
                    have c31b1 : ((x7_4.length : Int) != 0) = true := bne_iff_ne.mpr c31
                    have c31b2 : ¬ (x7_4 = []) := fun h_ => c31 (by rw [h_]; rfl)
                    obtain ⟨ji32, hji32⟩ : ∃ j_ : Int, (wrap64 ((wrap64 ((x7_4.length : Int) - 1)) - (Int.tmod (wrap64 (x53_3 + x12_25)) (x7_4.length : Int)))) = j_ := ⟨_, rfl⟩
                    replace H : (if 0 ≤ (ji32) then (if (ji32) < (x7_4.length : Int) then ((dir_Put.f x6_3 ((rd_T25 x7_4 (ji32)).f0) ((rd_T25 x7_4 (ji32)).f1) ((rd_T25 x7_4 (ji32)).f2)).bind fun bt157 => (if bt157.2 = 0 then (gatehouselaw13_DirOrder.l1 k3 x5_4 bt157.1 x7_4 x12_25 (x7_4.length : Int) (wrap64 (x53_3 + 1))) else (some false))) else (none)) else (none)) = some r := by first | (rw [hji32] at H; exact H) | (simp only [hji32] at H ⊢; exact H)
                    have hji32w : (IntKind.i64.wrap ((wrap64 ((x7_4.length : Int) - 1)) - (Int.tmod (wrap64 (x53_3 + x12_25)) (x7_4.length : Int)))) = ji32 := (i64_w _).trans hji32
                    by_cases c33 : 0 ≤ (ji32)
                    · rw [if_pos c33] at H
                      have c33b0 : decide (0 ≤ (ji32)) = true := decide_eq_true c33
                      clear c33
                      by_cases c34 : (ji32) < (x7_4.length : Int)
                      · rw [if_pos c34] at H
                        have c34b0 : decide ((ji32) < (x7_4.length : Int)) = true := decide_eq_true c34
                        clear c34
                        replace H := Option.bind_eq_some_iff.mp H
                        obtain ⟨⟨t157, t160⟩, A350, H⟩ := H
                        replace H : (if t160 = 0 then (gatehouselaw13_DirOrder.l1 k3 x5_4 t157 x7_4 x12_25 (x7_4.length : Int) (wrap64 (x53_3 + 1))) else (some false)) = some r := H
                        have A35 := Aside0.mk A350
                        clear A350
                        by_cases c36 : t160 = 0
                        · rw [if_pos c36] at H
                          have c36b0 : (t160 == 0) = true := beq_iff_eq.mpr c36
                          have c36b1 : (t160 != 0) = false := bne_eq_false_iff_eq.mpr c36
                          clear c36
                          have H' := Aside0.mk H
                          clear H
                          have p156 : 0 ≤ ((ji32) : Int) := of_decide_eq_true (by first | (with_reducible assumption) | assumption)
                          have q156 : (ji32) < (x7_4.length : Int) := of_decide_eq_true (by first | (with_reducible assumption) | assumption)
                          obtain ⟨ad156, e156, hx156_0, hx156_1, hx156_2⟩ := at_T25 (Kd.R_reads' HO_7.out).2.2 (ji32) p156 q156
                          cases e156
                          replace p156 := eq_true p156
                          replace q156 := eq_true q156
                          obtain ⟨Ao37, co37, eo37⟩ := Kd.R_slice HO_6.out
                          subst eo37
                          go_wp2_with (first | ((with_reducible refine gate_callee (f := 11) rfl ?_); refine goesL_ (some 71) rfl rfl Tryd.func11 (by kernel_rfl) rfl #[.slice Ao37 x6_3.length co37, .agg #[.string ((rd_T25 x7_4 (ji32)).f0), .int .i64 ((rd_T25 x7_4 (ji32)).f1), .int .i64 ((rd_T25 x7_4 (ji32)).f2)]] rfl (by (try simp only [List.map_toArray, List.map_cons, List.map_nil]); first | done | (simp only [hji32]; rfl) | rfl | (simp only [List.length_drop, List.length_take]; rfl)) ?_; (with_reducible refine (dir_Put.calls _ _ x6_3 ((rd_T25 x7_4 (ji32)).f0) ((rd_T25 x7_4 (ji32)).f1) ((rd_T25 x7_4 (ji32)).f2) t157 t160 _ ?side1 ?side2 A35.out).mono ?_); (case side1 => repeat (first | exact (Kd.R_reads' HO_6.out).2.2 | (with_reducible refine Kd.C_alloc ?_ _) | (with_reducible refine Kd.C_drewN ?_ _) | (with_reducible refine Kd.C_drew ?_))); (case side2 => exact (Kd.R_reads' HO_6.out).2.1); rintro e w38 ⟨v158, rfl, ho0, hb⟩; refine ⟨_, rfl, ?_⟩; have n0_ := Aside0.mk (Kd.R_elder' (by (with_reducible repeat (first | apply Kd.R_alloc | apply Kd.R_drewN | apply Kd.R_drew)); exact HO_5.out) (Kd.R_base ho0) hb); have n1_ := Aside0.mk (Kd.R_elder' (by (with_reducible repeat (first | apply Kd.R_alloc | apply Kd.R_drewN | apply Kd.R_drew)); exact HO_6.out) (Kd.R_base ho0) hb); have n2_ := Aside0.mk (Kd.R_elder' (by (with_reducible repeat (first | apply Kd.R_alloc | apply Kd.R_drewN | apply Kd.R_drew)); exact HO_7.out) (Kd.R_base ho0) hb); have n3_ := Aside0.mk (Kd.R_lower (Kd.R_new' (Kd.R_new' (Kd.R_new' ho0 (Kd.R_lt (by (with_reducible repeat (first | apply Kd.R_alloc | apply Kd.R_drewN | apply Kd.R_drew)); exact HO_5.out))) (Kd.R_lt (by (with_reducible repeat (first | apply Kd.R_alloc | apply Kd.R_drewN | apply Kd.R_drew)); exact HO_6.out))) (Kd.R_lt (by (with_reducible repeat (first | apply Kd.R_alloc | apply Kd.R_drewN | apply Kd.R_drew)); exact HO_7.out))) (below_size (by repeat (first | (with_reducible first | exact HB.out | apply below_alloc | apply pw_below_drewN | apply below_drew1) | exact HB.out)))); have n4_ := Aside0.mk (below_step (by repeat (first | (with_reducible first | exact HB.out | apply below_alloc | apply pw_below_drewN | apply below_drew1) | exact HB.out)) hb); clear HO_5; clear HO_6; clear HO_7; clear HB; have HO_5 := n0_; have HO_6 := n1_; have HO_7 := n2_; have HO159 := n3_; have HB := n4_; clear n0_ n1_ n2_ n3_ n4_; (try clear hb); (try clear hb2); (try clear hk); (try clear hi); (try clear ho0)))
                          go_roundg k3
                          case measure => have := HJ4.out; have := HJ25.out; have := HK3.out; omega
                          case rel => exact ⟨(t157), (wrap64 (x53_3 + 1)), (by first | rfl | (simp; done) | (simp [*]; done)), H', ⟨by have := HJ4.out; have := HJ25.out; have := HK3.out; omega⟩, ⟨by (with_reducible repeat (first | apply Kd.R_alloc | apply Kd.R_drewN | apply Kd.R_drew)); exact Kd.R_mono HO_5.out (fun _ hk => ⟨hk.2, hk.1.2⟩)⟩, ⟨by (with_reducible repeat (first | apply Kd.R_alloc | apply Kd.R_drewN | apply Kd.R_drew)); exact Kd.R_mono HO159.out (fun _ hk => ⟨hk.1.1.2, hk.2⟩)⟩, ⟨by (with_reducible repeat (first | apply Kd.R_alloc | apply Kd.R_drewN | apply Kd.R_drew)); exact Kd.R_mono HO_7.out (fun _ hk => ⟨hk.1.1, hk.2⟩)⟩, ⟨by repeat (first | (with_reducible first | exact HB.out | apply below_alloc | apply pw_below_drewN | apply below_drew1) | exact HB.out)⟩⟩
                        · rw [if_neg c36] at H
                          have c36b0 : (t160 == 0) = false := beq_eq_false_iff_ne.mpr c36
                          have c36b1 : (t160 != 0) = true := bne_iff_ne.mpr c36
                          obtain rfl := Option.some.inj H
                          have p156 : 0 ≤ ((ji32) : Int) := of_decide_eq_true (by first | (with_reducible assumption) | assumption)
                          have q156 : (ji32) < (x7_4.length : Int) := of_decide_eq_true (by first | (with_reducible assumption) | assumption)
                          obtain ⟨ad156, e156, hx156_0, hx156_1, hx156_2⟩ := at_T25 (Kd.R_reads' HO_7.out).2.2 (ji32) p156 q156
                          cases e156
                          replace p156 := eq_true p156
                          replace q156 := eq_true q156
                          obtain ⟨Ao39, co39, eo39⟩ := Kd.R_slice HO_6.out
                          subst eo39
                          go_wp2_with (first | ((with_reducible refine gate_callee (f := 11) rfl ?_); refine goesL_ (some 71) rfl rfl Tryd.func11 (by kernel_rfl) rfl #[.slice Ao39 x6_3.length co39, .agg #[.string ((rd_T25 x7_4 (ji32)).f0), .int .i64 ((rd_T25 x7_4 (ji32)).f1), .int .i64 ((rd_T25 x7_4 (ji32)).f2)]] rfl (by (try simp only [List.map_toArray, List.map_cons, List.map_nil]); first | done | (simp only [hji32]; rfl) | rfl | (simp only [List.length_drop, List.length_take]; rfl)) ?_; (with_reducible refine (dir_Put.calls _ _ x6_3 ((rd_T25 x7_4 (ji32)).f0) ((rd_T25 x7_4 (ji32)).f1) ((rd_T25 x7_4 (ji32)).f2) t157 t160 _ ?side1 ?side2 A35.out).mono ?_); (case side1 => repeat (first | exact (Kd.R_reads' HO_6.out).2.2 | (with_reducible refine Kd.C_alloc ?_ _) | (with_reducible refine Kd.C_drewN ?_ _) | (with_reducible refine Kd.C_drew ?_))); (case side2 => exact (Kd.R_reads' HO_6.out).2.1); rintro e w40 ⟨v158, rfl, ho0, hb⟩; refine ⟨_, rfl, ?_⟩; have n0_ := Aside0.mk (Kd.R_elder' (by (with_reducible repeat (first | apply Kd.R_alloc | apply Kd.R_drewN | apply Kd.R_drew)); exact HO_5.out) (Kd.R_base ho0) hb); have n1_ := Aside0.mk (Kd.R_elder' (by (with_reducible repeat (first | apply Kd.R_alloc | apply Kd.R_drewN | apply Kd.R_drew)); exact HO_6.out) (Kd.R_base ho0) hb); have n2_ := Aside0.mk (Kd.R_elder' (by (with_reducible repeat (first | apply Kd.R_alloc | apply Kd.R_drewN | apply Kd.R_drew)); exact HO_7.out) (Kd.R_base ho0) hb); have n3_ := Aside0.mk (Kd.R_lower (Kd.R_new' (Kd.R_new' (Kd.R_new' ho0 (Kd.R_lt (by (with_reducible repeat (first | apply Kd.R_alloc | apply Kd.R_drewN | apply Kd.R_drew)); exact HO_5.out))) (Kd.R_lt (by (with_reducible repeat (first | apply Kd.R_alloc | apply Kd.R_drewN | apply Kd.R_drew)); exact HO_6.out))) (Kd.R_lt (by (with_reducible repeat (first | apply Kd.R_alloc | apply Kd.R_drewN | apply Kd.R_drew)); exact HO_7.out))) (below_size (by repeat (first | (with_reducible first | exact HB.out | apply below_alloc | apply pw_below_drewN | apply below_drew1) | exact HB.out)))); have n4_ := Aside0.mk (below_step (by repeat (first | (with_reducible first | exact HB.out | apply below_alloc | apply pw_below_drewN | apply below_drew1) | exact HB.out)) hb); clear HO_5; clear HO_6; clear HO_7; clear HB; have HO_5 := n0_; have HO_6 := n1_; have HO_7 := n2_; have HO159 := n3_; have HB := n4_; clear n0_ n1_ n2_ n3_ n4_; (try clear hb); (try clear hb2); (try clear hk); (try clear hi); (try clear ho0)))
                          go_ret
                          exact ⟨by first | rfl | (simp [errW_none, errW_some] <;> rfl) | (simp only [← hji32]; first | rfl | (simp [errW_none, errW_some] <;> rfl)) | (simp [*, errW_none, errW_some] <;> rfl), by repeat (first | (with_reducible first | exact HB.out | apply below_alloc | apply pw_below_drewN | apply below_drew1) | exact HB.out)⟩
                      · rw [if_neg c34] at H
                        exact absurd H (by simp)
                    · rw [if_neg c33] at H
                      exact absurd H (by simp)
                · rw [if_neg c30] at H
                  have c30b0 : decide (x53_3 < (x7_4.length : Int)) = false := decide_eq_false c30
                  clear c30
                  replace H := Option.bind_eq_some_iff.mp H
                  obtain ⟨t161, A410, H⟩ := H
                  replace H : (if t161 = true then ((dir_Right.f k3 x5_4).bind fun t162 => (some t162)) else (some false)) = some r := H
                  have A41 := Aside0.mk A410
                  clear A410
                  by_cases c42 : t161 = true
                  · subst c42
                    have H1 : ((dir_Right.f k3 x5_4).bind fun t162 => (some t162)) = some r := by rw [if_pos rfl] at H; exact H
                    clear H
                    have H := H1
                    clear H1
                    replace H := Option.bind_eq_some_iff.mp H
                    obtain ⟨t162, A430, H⟩ := H
                    replace H : (some t162) = some r := H
                    have A43 := Aside0.mk A430
                    clear A430
                    obtain rfl := Option.some.inj H
                    obtain ⟨Ao44, co44, eo44⟩ := Kd.R_slice HO_5.out
                    subst eo44
                    obtain ⟨Ao45, co45, eo45⟩ := Kd.R_slice HO_6.out
                    subst eo45
                    go_wp2_with (first | ((with_reducible refine gate_callee (f := 12) rfl ?_); refine goesL_ (some 80) rfl rfl Tryd.func12 (by kernel_rfl) rfl #[.slice Ao44 x5_4.length co44, .slice Ao45 x6_3.length co45] rfl (by (try simp only [List.map_toArray, List.map_cons, List.map_nil]); first | done | rfl | (simp only [List.length_drop, List.length_take]; rfl)) ?_; (with_reducible refine (gatehouseref13_Same.calls k3 _ _ x5_4 _ _ x6_3 true _ ?side1 ?side2 ?side3 ?side4 A41.out).mono ?_); (case side1 => repeat (first | exact (Kd.R_reads' HO_5.out).2.2 | (with_reducible refine Kd.C_alloc ?_ _) | (with_reducible refine Kd.C_drewN ?_ _) | (with_reducible refine Kd.C_drew ?_))); (case side2 => exact (Kd.R_reads' HO_5.out).2.1); (case side3 => repeat (first | exact (Kd.R_reads' HO_6.out).2.2 | (with_reducible refine Kd.C_alloc ?_ _) | (with_reducible refine Kd.C_drewN ?_ _) | (with_reducible refine Kd.C_drew ?_))); (case side4 => exact (Kd.R_reads' HO_6.out).2.1); rintro e w' ⟨rfl, ⟨nd, rfl⟩⟩; refine ⟨_, rfl, ?_⟩) | (go_at_call 13; (with_reducible refine (dir_Right.calls k3 _ _ x5_4 t162 _ ?side1 ?side2 A43.out).mono ?_); (case side1 => repeat (first | exact (Kd.R_reads' HO_5.out).2.2 | (with_reducible refine Kd.C_alloc ?_ _) | (with_reducible refine Kd.C_drewN ?_ _) | (with_reducible refine Kd.C_drew ?_))); (case side2 => exact (Kd.R_reads' HO_5.out).2.1); rintro e w46 ⟨rfl, hb⟩; have n0_ := Aside0.mk (Kd.R_below (by (with_reducible repeat (first | apply Kd.R_alloc | apply Kd.R_drewN | apply Kd.R_drew)); exact HO_5.out) hb); have n1_ := Aside0.mk (Kd.R_below (by (with_reducible repeat (first | apply Kd.R_alloc | apply Kd.R_drewN | apply Kd.R_drew)); exact HO_6.out) hb); have n2_ := Aside0.mk (Kd.R_below (by (with_reducible repeat (first | apply Kd.R_alloc | apply Kd.R_drewN | apply Kd.R_drew)); exact HO_7.out) hb); have n3_ := Aside0.mk (below_step (by repeat (first | (with_reducible first | exact HB.out | apply below_alloc | apply pw_below_drewN | apply below_drew1) | exact HB.out)) hb); clear HO_5; clear HO_6; clear HO_7; clear HB; have HO_5 := n0_; have HO_6 := n1_; have HO_7 := n2_; have HB := n3_; clear n0_ n1_ n2_ n3_; (try clear hb); (try clear hb2); (try clear hk); (try clear hi)))
                    go_ret
                    exact ⟨by first | rfl | (simp [errW_none, errW_some] <;> rfl) | (simp [*, errW_none, errW_some] <;> rfl), by repeat (first | (with_reducible first | exact HB.out | apply below_alloc | apply pw_below_drewN | apply below_drew1) | exact HB.out)⟩
                  · replace c42 := Bool.eq_false_iff.mpr c42
                    subst c42
                    have H1 : (some false) = some r := by rw [if_neg (show ¬ (false = true) by decide)] at H; exact H
                    clear H
                    have H := H1
                    clear H1
                    obtain rfl := Option.some.inj H
                    obtain ⟨Ao47, co47, eo47⟩ := Kd.R_slice HO_5.out
                    subst eo47
                    obtain ⟨Ao48, co48, eo48⟩ := Kd.R_slice HO_6.out
                    subst eo48
                    go_wp2_with (first | ((with_reducible refine gate_callee (f := 12) rfl ?_); refine goesL_ (some 80) rfl rfl Tryd.func12 (by kernel_rfl) rfl #[.slice Ao47 x5_4.length co47, .slice Ao48 x6_3.length co48] rfl (by (try simp only [List.map_toArray, List.map_cons, List.map_nil]); first | done | rfl | (simp only [List.length_drop, List.length_take]; rfl)) ?_; (with_reducible refine (gatehouseref13_Same.calls k3 _ _ x5_4 _ _ x6_3 false _ ?side1 ?side2 ?side3 ?side4 A41.out).mono ?_); (case side1 => repeat (first | exact (Kd.R_reads' HO_5.out).2.2 | (with_reducible refine Kd.C_alloc ?_ _) | (with_reducible refine Kd.C_drewN ?_ _) | (with_reducible refine Kd.C_drew ?_))); (case side2 => exact (Kd.R_reads' HO_5.out).2.1); (case side3 => repeat (first | exact (Kd.R_reads' HO_6.out).2.2 | (with_reducible refine Kd.C_alloc ?_ _) | (with_reducible refine Kd.C_drewN ?_ _) | (with_reducible refine Kd.C_drew ?_))); (case side4 => exact (Kd.R_reads' HO_6.out).2.1); rintro e w' ⟨rfl, ⟨nd, rfl⟩⟩; refine ⟨_, rfl, ?_⟩))
                    go_ret
                    exact ⟨by first | rfl | (simp [errW_none, errW_some] <;> rfl) | (simp [*, errW_none, errW_some] <;> rfl), by repeat (first | (with_reducible first | exact HB.out | apply below_alloc | apply pw_below_drewN | apply below_drew1) | exact HB.out)⟩
  · replace c4 := Bool.eq_false_iff.mpr c4
    subst c4
    have H1 : (some false) = some r := by rw [if_neg (show ¬ (false = true) by decide)] at H; exact H
    clear H
    have H := H1
    clear H1
    obtain rfl := Option.some.inj H
    go_enter Tryd.func3, Tryd.ntmps3
    go_wp2_with (first | ((with_reducible refine gate_callee (f := 10) rfl ?_); refine goesL_ (some 16) rfl rfl Tryd.func10 (by kernel_rfl) rfl #[] rfl (by (try simp only [List.map_toArray, List.map_cons, List.map_nil]); first | done | rfl | (simp only [List.length_drop, List.length_take]; rfl)) ?_; (with_reducible refine (gatehouselaw13_lives.calls k  false _ A3.out).mono ?_); rintro e w49 ⟨rfl, hb⟩; refine ⟨_, rfl, ?_⟩; have n0_ := Aside0.mk (below_step (by repeat (first | (with_reducible first | exact HB.out | apply below_alloc | apply pw_below_drewN | apply below_drew1) | exact HB.out)) hb); clear HB; have HB := n0_; clear n0_; (try clear hb); (try clear hb2); (try clear hk); (try clear hi)))
    go_ret
    exact ⟨by first | rfl | (simp [errW_none, errW_some] <;> rfl) | (simp [*, errW_none, errW_some] <;> rfl), by repeat (first | (with_reducible first | exact HB.out | apply below_alloc | apply pw_below_drewN | apply below_drew1) | exact HB.out)⟩

end Go.Proofs.YtijnlgmclaphhaaDoorZ
set_option linter.unusedVariables false
set_option linter.unusedSimpArgs false
namespace Go.Proofs.YtijnlgmclaphhaaDoor
open Go Go.RowKit Go.Proofs.YtijnlgmclaphhaaDoorZ Go.Proofs.YtijnlgmclaphhaaDoorW.PrintWords

theorem names_nodup {l : List Nm} {b : ByteArray} (h : ordFrom b l = true) : (l.map (·.f0)).Nodup := by
  induction l generalizing b with
  | nil => simp
  | cons x l ih =>
    rw [ord_cons] at h
    rw [List.map_cons, List.nodup_cons]
    refine ⟨fun hx => ?_, ih h.2.2⟩
    obtain ⟨y, hy, e⟩ := List.mem_map.1 hx
    have := ord_gt h.2.2 y hy
    rw [e, blt_irr] at this; cases this
def turned (S : List Nm) (c : Nat) : List Nm := S.reverse.drop c ++ S.reverse.take c
theorem turned_perm (S : List Nm) (c : Nat) : (turned S c).Perm S := by
  unfold turned
  refine List.perm_append_comm.trans ?_
  rw [List.take_append_drop]
  exact List.reverse_perm S
theorem turned_len (S : List Nm) (c : Nat) : (turned S c).length = S.length := (turned_perm S c).length_eq
theorem turned_at (S : List Nm) (c i : Nat) (hc : c < S.length) (hi : i < S.length) : (turned S c)[i]'(by rw [turned_len]; exact hi) = S[S.length - 1 - (i + c) % S.length]'(by omega) := by
  unfold turned
  by_cases h : i + c < S.length
  · rw [List.getElem_append_left (by simp; omega), List.getElem_drop, List.getElem_reverse]
    congr 1
    rw [Nat.mod_eq_of_lt h]; omega
  · rw [List.getElem_append_right (by simp; omega), List.getElem_take, List.getElem_reverse]
    congr 1
    have : (i + c) % S.length = i + c - S.length := by
      rw [Nat.mod_eq_sub_mod (by omega), Nat.mod_eq_of_lt (by omega)]
    simp only [List.length_drop, List.length_reverse]
    omega
theorem put_f (l : List Nm) (m : Nm) (h : l.length ≤ 4398046511104) : dir_Put.f l m.f0 m.f1 m.f2 = some (putL l m) := by unfold dir_Put.f; rw [if_pos h]
theorem perm_take_snoc (P : List Nm) (i : Nat) (h : i < P.length) : (P[i] :: P.take i).Perm (P.take (i + 1)) := by
  rw [List.take_succ_eq_append_getElem h]
  exact (List.perm_append_comm (l₁ := [P[i]]) (l₂ := P.take i))

theorem order_l1 (a S : List Nm) (ha : rightL a = true) (hp : a.Perm S) (c : Nat) (hc : c < S.length) (hS : S.length ≤ 40) (n : Nat) : ∀ (k i : Nat) (b : List Nm), S.length - i = n → i ≤ S.length → n + 1000 < k → rightL b = true → b.Perm ((turned S c).take i) →
    gatehouselaw13_DirOrder.l1 k a b S (c : Int) (S.length : Int) (i : Int) = some true := by
  have hlen := right_len ha
  have hnd : ((turned S c).map (·.f0)).Nodup := (((turned_perm S c).trans hp.symm).map _).nodup_iff.2 (names_nodup (right_ord ha).1)
  induction n with
  | zero =>
    intro k i b h hi hk hb hbp
    obtain ⟨k, rfl⟩ : ∃ q, k = q + 1 := ⟨k - 1, by omega⟩
    obtain rfl : i = S.length := by omega
    rw [← turned_len S c, List.take_length] at hbp
    have e : a = b := ord_unique a b _ _ (right_ord ha).1 (right_ord hb).1 fun x => (hp.trans ((turned_perm S c).symm.trans hbp.symm)).mem_iff
    subst e
    simp only [gatehouselaw13_DirOrder.l1]
    rw [if_neg (by omega), same_f a a (by omega) k (by omega), Option.bind_some, sameL_self, if_pos rfl, Right_f a (by omega) k (by omega), Option.bind_some, ha]
  | succ n ih =>
    intro k i b h hi hk hb hbp
    obtain ⟨k, rfl⟩ : ∃ q, k = q + 1 := ⟨k - 1, by omega⟩
    have hlt : i < S.length := by omega
    have hltT : i < (turned S c).length := by rw [turned_len]; exact hlt
    have hmod := Nat.mod_lt (i + c) (show 0 < S.length by omega)
    have hidx : wrap64 ((wrap64 ((S.length : Int) - 1)) - (Int.tmod (wrap64 ((i : Int) + (c : Int))) (S.length : Int))) = ((S.length - 1 - (i + c) % S.length : Nat) : Int) := by
      rw [w64 (x := (S.length : Int) - 1) (by omega) (by omega), w64 (x := (i : Int) + (c : Int)) (by omega) (by omega)]
      have e : Int.tmod ((i : Int) + (c : Int)) (S.length : Int) = (((i + c) % S.length : Nat) : Int) := by
        rw [Int.tmod_eq_emod_of_nonneg (by omega)]
        push_cast
        rfl
      rw [e, w64 (by omega) (by omega)]
      omega
    have hat := turned_at S c i hc hlt
    generalize hm : (turned S c)[i]'hltT = m at *
    have hrd : rd_T25 S ((S.length - 1 - (i + c) % S.length : Nat) : Int) = m := by rw [rd_at S _ (by omega)]; exact hat.symm
    have hmT : m ∈ turned S c := by rw [← hm]; exact List.getElem_mem _
    have hma : m ∈ a := hp.mem_iff.2 ((turned_perm S c).mem_iff.1 hmT)
    have hok := ord_ok (right_ord ha).1 m hma
    have hno : hasN b m.f0 = false := by
      cases hq : hasN b m.f0 with
      | false => rfl
      | true =>
        obtain ⟨x, hx, e⟩ := (hasN_iff_mem b m.f0).1 hq
        obtain ⟨j, hj, e2⟩ := List.getElem_of_mem (hbp.mem_iff.1 hx)
        rw [List.length_take] at hj
        rw [List.getElem_take] at e2
        have := (List.pairwise_iff_getElem.1 hnd) j i (by simp; omega) (by simp; omega) (by omega)
        rw [List.getElem_map, List.getElem_map, e2, hm, e] at this
        exact absurd rfl this
    have hz : sizeN b + (10 + m.f0.size) ≤ 4096 := by
      have h1 := sizeN_perm hbp
      have h2 := sizeN_take_le (turned S c) (i + 1)
      rw [List.take_succ_eq_append_getElem hltT, sizeN_append, hm] at h2
      have h3 := sizeN_perm ((turned_perm S c).trans hp.symm)
      have h4 := (right_ord ha).2
      have h5 : sizeN [m] = 10 + m.f0.size := by simp [sizeN]
      omega
    have hput := putL_ok hb hok hno hz
    simp only [gatehouselaw13_DirOrder.l1]
    rw [if_pos (by omega), if_neg (by omega), hidx, if_pos (by omega), if_pos (by omega), hrd, put_f b m (by have := right_len hb; omega), hput, Option.bind_some, if_pos rfl, w64 (x := (i : Int) + 1) (by omega) (by omega)]
    refine ih k (i + 1) (insL b m) (by omega) (by omega) (by omega) (insL_right hb hok hno hz) ?_
    refine (insL_perm b m).trans ((hbp.cons m).trans ?_)
    have := perm_take_snoc (turned S c) i hltT
    rwa [hm] at this
theorem order_j1 (turn : Int) (a S : List Nm) (ha : rightL a = true) (hp : a.Perm S) (hS : S.length ≤ 40) (k : Nat) (hk : 1100 < k) : gatehouselaw13_DirOrder.j1 k turn a [] S = some true := by
  obtain ⟨k, rfl⟩ : ∃ q, k = q + 1 + 1 := ⟨k - 2, by omega⟩
  simp only [gatehouselaw13_DirOrder.j1]
  by_cases h0 : (S.length : Int) > 0
  · have hw : IntKind.u64.wrap (S.length : Int) = (S.length : Int) := IntWalk.u64_in _ (by omega)
    rw [if_pos h0, hw, if_neg (by omega)]
    obtain ⟨c, hc, e⟩ : ∃ c : Nat, c < S.length ∧ wrap64 (Int.tmod (IntKind.u64.wrap turn) (S.length : Int)) = (c : Int) := by
      have hu : 0 ≤ IntKind.u64.wrap turn := wrap_u64_nonneg turn
      have h1 := Int.emod_nonneg (IntKind.u64.wrap turn) (show (S.length : Int) ≠ 0 by omega)
      have h2 := Int.emod_lt_of_pos (IntKind.u64.wrap turn) (show (0 : Int) < (S.length : Int) by omega)
      rw [Int.tmod_eq_emod_of_nonneg hu]
      refine ⟨(IntKind.u64.wrap turn % (S.length : Int)).toNat, by omega, ?_⟩
      rw [w64 (by omega) (by omega)]; omega
    rw [e]
    simp only [gatehouselaw13_DirOrder.j2]
    exact order_l1 a S ha hp c hc hS S.length k 0 [] (by omega) (by omega) (by omega) rfl (by simp)
  · have hz : S = [] := List.eq_nil_of_length_eq_zero (by omega)
    subst hz
    have : a = [] := hp.eq_nil
    subst this
    rw [if_neg (by simp)]
    simp only [gatehouselaw13_DirOrder.j2]
    obtain ⟨k, rfl⟩ : ∃ q, k = q + 1 := ⟨k - 1, by omega⟩
    simp only [gatehouselaw13_DirOrder.l1]
    rw [if_neg (by simp), same_f [] [] (by simp) k (by simp; omega), Option.bind_some]
    rw [show sameL [] [] = true from rfl, if_pos rfl, Right_f [] (by simp) k (by simp; omega), Option.bind_some]; rfl
theorem order_l0 (turn : Int) (l : List Nm) (hl : l.length ≤ 4398046511104) (n : Nat) : ∀ (k i : Nat) (a S : List Nm), l.length - i = n → i ≤ l.length → i ≤ 40 → n + 2000 < k → rightL a = true → a.Perm S → S.length ≤ i →
    gatehouselaw13_DirOrder.l0 k turn a S l (l.length : Int) (i : Int) = some true := by
  induction n with
  | zero =>
    intro k i a S h hi h40 hk ha hp hS
    obtain ⟨k, rfl⟩ : ∃ q, k = q + 1 := ⟨k - 1, by omega⟩
    simp only [gatehouselaw13_DirOrder.l0]
    rw [if_neg (by omega)]
    exact order_j1 turn a S ha hp (by omega) k (by omega)
  | succ n ih =>
    intro k i a S h hi h40 hk ha hp hS
    obtain ⟨k, rfl⟩ : ∃ q, k = q + 1 := ⟨k - 1, by omega⟩
    have hlt : i < l.length := by omega
    simp only [gatehouselaw13_DirOrder.l0]
    rw [if_pos (by omega), if_pos (by omega), if_pos (by omega)]
    by_cases h41 : (i : Int) ≥ 40
    · rw [if_pos h41]
      exact order_j1 turn a S ha hp (by omega) k (by omega)
    · rw [if_neg h41, rd_at l i hlt, put_f a l[i] (by have := right_len ha; omega), Option.bind_some, w64 (x := (i : Int) + 1) (by omega) (by omega)]
      by_cases hz : (putL a l[i]).2 = 0
      · obtain ⟨_, hok, hno, hsz, he⟩ := putL_zero hz
        rw [if_pos hz, if_pos (by omega), he]
        refine ih k (i + 1) _ _ (by omega) (by omega) (by omega) (by omega) (insL_right ha hok hno hsz) ?_ (by simp; omega)
        exact (insL_perm a l[i]).trans ((hp.cons _).trans (List.perm_append_comm (l₁ := [l[i]]) (l₂ := S)))
      · rw [if_neg hz]
        exact ih k (i + 1) a S (by omega) (by omega) (by omega) (by omega) ha hp (by omega)
theorem dirOrder_pure (l : List Nm) (turn : Int) (hl : l.length ≤ 4398046511104) : ∃ k, gatehouselaw13_DirOrder.f k l turn = some true := by
  refine ⟨l.length + 3000, ?_⟩
  unfold gatehouselaw13_DirOrder.f
  rw [lives_f _ (by omega), Option.bind_some, if_pos rfl]
  exact order_l0 turn l hl l.length _ 0 [] [] (by omega) (by omega) (by omega) (by omega) rfl (List.Perm.refl _) (by simp)
end Go.Proofs.YtijnlgmclaphhaaDoor
