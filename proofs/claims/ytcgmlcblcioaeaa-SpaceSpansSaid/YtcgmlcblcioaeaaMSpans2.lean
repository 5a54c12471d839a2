import Derived.Test.YtcgmlcblcioaeaaZ0
import Derived.Test.YtcgmlcblcioaeaaMSpans0
import Derived.Test.YtcgmlcblcioaeaaMSpans1
-- Written by a program of this session (gprint.py, over the kit's printer).
namespace Go.Proofs.YtcgmlcblcioaeaaZ
open Go.RowKit Go.Proofs.YtcgmlcblcioaeaaW.PrintWords Go.Proofs.YtcgmlcblcioaeaaW.PrintLast Go.Proofs.YtcgmlcblcioaeaaW.PrintMore
attribute [local go_sem] max2_int min2_int max_two min_two max_three min_three max_four min_four   -- for this text's walks alone
set_option linter.unusedVariables false
set_option linter.unusedSimpArgs false

/-! ### gatehouselaw05_SpaceSpans: function 5 -/
def gatehouselaw05_SpaceSpans.f (k : Nat) (l0 : List (S31)) (a1 : Int) (a2 : Int) (a3 : Int) : Option (Bool) := (gatehouselaw05_lives.f k).bind fun t202 => (if t202 = true then ((space_Span.f k l0 a1 a2 a3).bind fun bt203 => ((gatehouseref05_Span.f k l0 a1 a2 a3).bind fun bt207 => ((space_Find.f k l0 a1 a3).bind fun bt211 => ((gatehouseref05_Span.f k l0 a1 1 a3).bind fun bt215 => (if bt203.2 = bt207.2 then (if bt211.2 = bt215.2 then ((gatehouseref05_SamePieces.f k bt203.1 bt207.1).bind fun t219 => (if t219 = true then ((gatehouseref05_SamePieces.f k bt211.1 bt215.1).bind fun t220 => (some t220)) else (some false))) else (some false)) else (some false)))))) else (some false))
theorem gatehouselaw05_SpaceSpans.mono : ∀ a0 a1 a2 a3 k, LeO (gatehouselaw05_SpaceSpans.f k a0 a1 a2 a3) (gatehouselaw05_SpaceSpans.f (k + 1) a0 a1 a2 a3) := by
  intro a0 a1 a2 a3 k
  unfold gatehouselaw05_SpaceSpans.f
  repeat' first
      | (with_reducible exact gatehouselaw05_lives.mono _)
      | (with_reducible exact gatehouseref05_SamePieces.mono _ _ _)
      | (with_reducible exact gatehouseref05_Span.mono _ _ _ _ _)
      | (with_reducible exact space_Find.mono _ _ _ _)
      | (with_reducible exact space_Span.mono _ _ _ _ _)
      | (with_reducible exact LeO.refl _)
      | (with_reducible exact LeO.none _)
      | (with_reducible refine LeO.ite ?_ ?_)
      | (with_reducible refine LeO.bind ?_ (fun _ => ?_))
      | exact gatehouselaw05_lives.mono _
      | exact gatehouseref05_SamePieces.mono _ _ _
      | exact gatehouseref05_Span.mono _ _ _ _ _
      | exact space_Find.mono _ _ _ _
      | exact space_Span.mono _ _ _ _ _
      | exact LeO.none _
      | refine LeO.ite ?_ ?_
      | refine LeO.bind ?_ (fun _ => ?_)
set_option maxHeartbeats 8000000 in
set_option maxRecDepth 100000 in
theorem gatehouselaw05_SpaceSpans.calls (k : Nat) (A0 : Option Addr) (c0 : Nat) (l0 : List (S31)) (a1 : Int) (a2 : Int) (a3 : Int) (r : Bool) (w : World) (hr0 : Kd.C k31 w A0 l0.length l0) (hc0 : l0.length ≤ c0) (h : gatehouselaw05_SpaceSpans.f k l0 a1 a2 a3 = some r) :
    Calls Try.prog 5 #[.slice A0 l0.length c0, .int .u64 a1, .int .i64 a2, .int .i64 a3] w fun e w' => e = .returned (.bool r) ∧ Below w.heap.size w w' := by
  have HR0 := Aside0.mk hr0
  have HC0 := Aside0.mk hc0
  clear hr0 hc0
  have HB := Aside0.mk (Below.refl w.heap.size w)
  have H : ((gatehouselaw05_lives.f k).bind fun t202 => (if t202 = true then ((space_Span.f k l0 a1 a2 a3).bind fun bt203 => ((gatehouseref05_Span.f k l0 a1 a2 a3).bind fun bt207 => ((space_Find.f k l0 a1 a3).bind fun bt211 => ((gatehouseref05_Span.f k l0 a1 1 a3).bind fun bt215 => (if bt203.2 = bt207.2 then (if bt211.2 = bt215.2 then ((gatehouseref05_SamePieces.f k bt203.1 bt207.1).bind fun t219 => (if t219 = true then ((gatehouseref05_SamePieces.f k bt211.1 bt215.1).bind fun t220 => (some t220)) else (some false))) else (some false)) else (some false)))))) else (some false))) = some r := h
  clear h
  replace H := Option.bind_eq_some_iff.mp H
  obtain ⟨t202, A50, H⟩ := H
  replace H : (if t202 = true then ((space_Span.f k l0 a1 a2 a3).bind fun bt203 => ((gatehouseref05_Span.f k l0 a1 a2 a3).bind fun bt207 => ((space_Find.f k l0 a1 a3).bind fun bt211 => ((gatehouseref05_Span.f k l0 a1 1 a3).bind fun bt215 => (if bt203.2 = bt207.2 then (if bt211.2 = bt215.2 then ((gatehouseref05_SamePieces.f k bt203.1 bt207.1).bind fun t219 => (if t219 = true then ((gatehouseref05_SamePieces.f k bt211.1 bt215.1).bind fun t220 => (some t220)) else (some false))) else (some false)) else (some false)))))) else (some false)) = some r := H
  have A5 := Aside0.mk A50
  clear A50
  by_cases c6 : t202 = true
  · subst c6
    have H1 : ((space_Span.f k l0 a1 a2 a3).bind fun bt203 => ((gatehouseref05_Span.f k l0 a1 a2 a3).bind fun bt207 => ((space_Find.f k l0 a1 a3).bind fun bt211 => ((gatehouseref05_Span.f k l0 a1 1 a3).bind fun bt215 => (if bt203.2 = bt207.2 then (if bt211.2 = bt215.2 then ((gatehouseref05_SamePieces.f k bt203.1 bt207.1).bind fun t219 => (if t219 = true then ((gatehouseref05_SamePieces.f k bt211.1 bt215.1).bind fun t220 => (some t220)) else (some false))) else (some false)) else (some false)))))) = some r := by rw [if_pos rfl] at H; exact H
    clear H
    have H := H1
    clear H1
    replace H := Option.bind_eq_some_iff.mp H
    obtain ⟨⟨t203, t204⟩, A70, H⟩ := H
    replace H : ((gatehouseref05_Span.f k l0 a1 a2 a3).bind fun bt207 => ((space_Find.f k l0 a1 a3).bind fun bt211 => ((gatehouseref05_Span.f k l0 a1 1 a3).bind fun bt215 => (if t204 = bt207.2 then (if bt211.2 = bt215.2 then ((gatehouseref05_SamePieces.f k t203 bt207.1).bind fun t219 => (if t219 = true then ((gatehouseref05_SamePieces.f k bt211.1 bt215.1).bind fun t220 => (some t220)) else (some false))) else (some false)) else (some false))))) = some r := H
    have A7 := Aside0.mk A70
    clear A70
    replace H := Option.bind_eq_some_iff.mp H
    obtain ⟨⟨t207, t208⟩, A80, H⟩ := H
    replace H : ((space_Find.f k l0 a1 a3).bind fun bt211 => ((gatehouseref05_Span.f k l0 a1 1 a3).bind fun bt215 => (if t204 = t208 then (if bt211.2 = bt215.2 then ((gatehouseref05_SamePieces.f k t203 t207).bind fun t219 => (if t219 = true then ((gatehouseref05_SamePieces.f k bt211.1 bt215.1).bind fun t220 => (some t220)) else (some false))) else (some false)) else (some false)))) = some r := H
    have A8 := Aside0.mk A80
    clear A80
    replace H := Option.bind_eq_some_iff.mp H
    obtain ⟨⟨t211, t212⟩, A90, H⟩ := H
    replace H : ((gatehouseref05_Span.f k l0 a1 1 a3).bind fun bt215 => (if t204 = t208 then (if t212 = bt215.2 then ((gatehouseref05_SamePieces.f k t203 t207).bind fun t219 => (if t219 = true then ((gatehouseref05_SamePieces.f k t211 bt215.1).bind fun t220 => (some t220)) else (some false))) else (some false)) else (some false))) = some r := H
    have A9 := Aside0.mk A90
    clear A90
    replace H := Option.bind_eq_some_iff.mp H
    obtain ⟨⟨t215, t216⟩, A100, H⟩ := H
    replace H : (if t204 = t208 then (if t212 = t216 then ((gatehouseref05_SamePieces.f k t203 t207).bind fun t219 => (if t219 = true then ((gatehouseref05_SamePieces.f k t211 t215).bind fun t220 => (some t220)) else (some false))) else (some false)) else (some false)) = some r := H
    have A10 := Aside0.mk A100
    clear A100
    by_cases c11 : t204 = t208
    · rw [if_pos c11] at H
      have c11b0 : (t204 == t208) = true := beq_iff_eq.mpr c11
      have c11b1 : (t204 != t208) = false := bne_eq_false_iff_eq.mpr c11
      clear c11
      by_cases c12 : t212 = t216
      · rw [if_pos c12] at H
        have c12b0 : (t212 == t216) = true := beq_iff_eq.mpr c12
        have c12b1 : (t212 != t216) = false := bne_eq_false_iff_eq.mpr c12
        clear c12
        replace H := Option.bind_eq_some_iff.mp H
        obtain ⟨t219, A130, H⟩ := H
        replace H : (if t219 = true then ((gatehouseref05_SamePieces.f k t211 t215).bind fun t220 => (some t220)) else (some false)) = some r := H
        have A13 := Aside0.mk A130
        clear A130
        by_cases c14 : t219 = true
        · subst c14
          have H1 : ((gatehouseref05_SamePieces.f k t211 t215).bind fun t220 => (some t220)) = some r := by rw [if_pos rfl] at H; exact H
          clear H
          have H := H1
          clear H1
          replace H := Option.bind_eq_some_iff.mp H
          obtain ⟨t220, A150, H⟩ := H
          replace H : (some t220) = some r := H
          have A15 := Aside0.mk A150
          clear A150
          obtain rfl := Option.some.inj H
          go_enter Try.func5, Try.ntmps5
          go_wp2_with (first | ((with_reducible refine gate_callee (f := 9) rfl ?_); refine goesL_ (some 17) rfl rfl Try.func9 (by kernel_rfl) rfl #[] rfl (by (try simp only [List.map_toArray, List.map_cons, List.map_nil]); first | done | rfl | (simp only [List.length_drop, List.length_take]; rfl)) ?_; (with_reducible refine (gatehouselaw05_lives.calls k  true _ A5.out).mono ?_); rintro e w16 ⟨rfl, hb⟩; refine ⟨_, rfl, ?_⟩; have n0_ := Aside0.mk (below_step (by repeat (first | (with_reducible first | exact HB.out | apply below_alloc | apply pw_below_drewN | apply below_drew1) | exact HB.out)) hb); clear HB; have HB := n0_; clear n0_; (try clear hb); (try clear hb2); (try clear hk); (try clear hi)) | ((with_reducible refine gate_callee (f := 10) rfl ?_); refine goesL_ (some 24) rfl rfl Try.func10 (by kernel_rfl) rfl #[.slice A0 l0.length c0, .int .u64 a1, .int .i64 a2, .int .i64 a3] rfl (by (try simp only [List.map_toArray, List.map_cons, List.map_nil]); first | done | rfl | (simp only [List.length_drop, List.length_take]; rfl)) ?_; (with_reducible refine (space_Span.calls k _ _ l0 a1 a2 a3 t203 t204 _ ?side1 ?side2 A7.out).mono ?_); (case side1 => repeat (first | exact (Kd.C_below HR0.out HB.out) | (with_reducible refine Kd.C_alloc ?_ _) | (with_reducible refine Kd.C_drewN ?_ _) | (with_reducible refine Kd.C_drew ?_))); (case side2 => exact HC0.out); rintro e w17 ⟨v205, rfl, ho0, hb⟩; refine ⟨_, rfl, ?_⟩; have n0_ := Aside0.mk (Kd.R_lower ho0 (below_size (by repeat (first | (with_reducible first | exact HB.out | apply below_alloc | apply pw_below_drewN | apply below_drew1) | exact HB.out)))); have n1_ := Aside0.mk (below_step (by repeat (first | (with_reducible first | exact HB.out | apply below_alloc | apply pw_below_drewN | apply below_drew1) | exact HB.out)) hb); clear HB; have HO206 := n0_; have HB := n1_; clear n0_ n1_; (try clear hb); (try clear hb2); (try clear hk); (try clear hi); (try clear ho0)) | ((with_reducible refine gate_callee (f := 13) rfl ?_); refine goesL_ (some 32) rfl rfl Try.func13 (by kernel_rfl) rfl #[.slice A0 l0.length c0, .int .u64 a1, .int .i64 a2, .int .i64 a3] rfl (by (try simp only [List.map_toArray, List.map_cons, List.map_nil]); first | done | rfl | (simp only [List.length_drop, List.length_take]; rfl)) ?_; (with_reducible refine (gatehouseref05_Span.calls k _ _ l0 a1 a2 a3 t207 t208 _ ?side1 ?side2 A8.out).mono ?_); (case side1 => repeat (first | exact (Kd.C_below HR0.out HB.out) | (with_reducible refine Kd.C_alloc ?_ _) | (with_reducible refine Kd.C_drewN ?_ _) | (with_reducible refine Kd.C_drew ?_))); (case side2 => exact HC0.out); rintro e w18 ⟨v209, rfl, ho0, hb⟩; refine ⟨_, rfl, ?_⟩; have n0_ := Aside0.mk (Kd.R_elder' (by (with_reducible repeat (first | apply Kd.R_alloc | apply Kd.R_drewN | apply Kd.R_drew)); exact HO206.out) (Kd.R_base ho0) hb); have n1_ := Aside0.mk (Kd.R_lower (Kd.R_new' ho0 (Kd.R_lt (by (with_reducible repeat (first | apply Kd.R_alloc | apply Kd.R_drewN | apply Kd.R_drew)); exact HO206.out))) (below_size (by repeat (first | (with_reducible first | exact HB.out | apply below_alloc | apply pw_below_drewN | apply below_drew1) | exact HB.out)))); have n2_ := Aside0.mk (below_step (by repeat (first | (with_reducible first | exact HB.out | apply below_alloc | apply pw_below_drewN | apply below_drew1) | exact HB.out)) hb); clear HO206; clear HB; have HO206 := n0_; have HO210 := n1_; have HB := n2_; clear n0_ n1_ n2_; (try clear hb); (try clear hb2); (try clear hk); (try clear hi); (try clear ho0)) | ((with_reducible refine gate_callee (f := 14) rfl ?_); refine goesL_ (some 39) rfl rfl Try.func14 (by kernel_rfl) rfl #[.slice A0 l0.length c0, .int .u64 a1, .int .i64 a3] rfl (by (try simp only [List.map_toArray, List.map_cons, List.map_nil]); first | done | rfl | (simp only [List.length_drop, List.length_take]; rfl)) ?_; (with_reducible refine (space_Find.calls k _ _ l0 a1 a3 t211 t212 _ ?side1 ?side2 A9.out).mono ?_); (case side1 => repeat (first | exact (Kd.C_below HR0.out HB.out) | (with_reducible refine Kd.C_alloc ?_ _) | (with_reducible refine Kd.C_drewN ?_ _) | (with_reducible refine Kd.C_drew ?_))); (case side2 => exact HC0.out); rintro e w19 ⟨v213, rfl, ho0, hb⟩; refine ⟨_, rfl, ?_⟩; have n0_ := Aside0.mk (Kd.R_elder' (by (with_reducible repeat (first | apply Kd.R_alloc | apply Kd.R_drewN | apply Kd.R_drew)); exact HO206.out) (Kd.R_base ho0) hb); have n1_ := Aside0.mk (Kd.R_elder' (by (with_reducible repeat (first | apply Kd.R_alloc | apply Kd.R_drewN | apply Kd.R_drew)); exact HO210.out) (Kd.R_base ho0) hb); have n2_ := Aside0.mk (Kd.R_lower (Kd.R_new' (Kd.R_new' ho0 (Kd.R_lt (by (with_reducible repeat (first | apply Kd.R_alloc | apply Kd.R_drewN | apply Kd.R_drew)); exact HO206.out))) (Kd.R_lt (by (with_reducible repeat (first | apply Kd.R_alloc | apply Kd.R_drewN | apply Kd.R_drew)); exact HO210.out))) (below_size (by repeat (first | (with_reducible first | exact HB.out | apply below_alloc | apply pw_below_drewN | apply below_drew1) | exact HB.out)))); have n3_ := Aside0.mk (below_step (by repeat (first | (with_reducible first | exact HB.out | apply below_alloc | apply pw_below_drewN | apply below_drew1) | exact HB.out)) hb); clear HO206; clear HO210; clear HB; have HO206 := n0_; have HO210 := n1_; have HO214 := n2_; have HB := n3_; clear n0_ n1_ n2_ n3_; (try clear hb); (try clear hb2); (try clear hk); (try clear hi); (try clear ho0)) | ((with_reducible refine gate_callee (f := 13) rfl ?_); refine goesL_ (some 46) rfl rfl Try.func13 (by kernel_rfl) rfl #[.slice A0 l0.length c0, .int .u64 a1, .int .i64 1, .int .i64 a3] rfl (by (try simp only [List.map_toArray, List.map_cons, List.map_nil]); first | done | rfl | (simp only [List.length_drop, List.length_take]; rfl)) ?_; (with_reducible refine (gatehouseref05_Span.calls k _ _ l0 a1 1 a3 t215 t216 _ ?side1 ?side2 A10.out).mono ?_); (case side1 => repeat (first | exact (Kd.C_below HR0.out HB.out) | (with_reducible refine Kd.C_alloc ?_ _) | (with_reducible refine Kd.C_drewN ?_ _) | (with_reducible refine Kd.C_drew ?_))); (case side2 => exact HC0.out); rintro e w20 ⟨v217, rfl, ho0, hb⟩; refine ⟨_, rfl, ?_⟩; have n0_ := Aside0.mk (Kd.R_elder' (by (with_reducible repeat (first | apply Kd.R_alloc | apply Kd.R_drewN | apply Kd.R_drew)); exact HO206.out) (Kd.R_base ho0) hb); have n1_ := Aside0.mk (Kd.R_elder' (by (with_reducible repeat (first | apply Kd.R_alloc | apply Kd.R_drewN | apply Kd.R_drew)); exact HO210.out) (Kd.R_base ho0) hb); have n2_ := Aside0.mk (Kd.R_elder' (by (with_reducible repeat (first | apply Kd.R_alloc | apply Kd.R_drewN | apply Kd.R_drew)); exact HO214.out) (Kd.R_base ho0) hb); have n3_ := Aside0.mk (Kd.R_lower (Kd.R_new' (Kd.R_new' (Kd.R_new' ho0 (Kd.R_lt (by (with_reducible repeat (first | apply Kd.R_alloc | apply Kd.R_drewN | apply Kd.R_drew)); exact HO206.out))) (Kd.R_lt (by (with_reducible repeat (first | apply Kd.R_alloc | apply Kd.R_drewN | apply Kd.R_drew)); exact HO210.out))) (Kd.R_lt (by (with_reducible repeat (first | apply Kd.R_alloc | apply Kd.R_drewN | apply Kd.R_drew)); exact HO214.out))) (below_size (by repeat (first | (with_reducible first | exact HB.out | apply below_alloc | apply pw_below_drewN | apply below_drew1) | exact HB.out)))); have n4_ := Aside0.mk (below_step (by repeat (first | (with_reducible first | exact HB.out | apply below_alloc | apply pw_below_drewN | apply below_drew1) | exact HB.out)) hb); clear HO206; clear HO210; clear HO214; clear HB; have HO206 := n0_; have HO210 := n1_; have HO214 := n2_; have HO218 := n3_; have HB := n4_; clear n0_ n1_ n2_ n3_ n4_; (try clear hb); (try clear hb2); (try clear hk); (try clear hi); (try clear ho0); obtain ⟨Ao21, co21, eo21⟩ := Kd.R_slice HO206.out; subst eo21; obtain ⟨Ao22, co22, eo22⟩ := Kd.R_slice HO210.out; subst eo22) | (go_at_call 11; (with_reducible refine (gatehouseref05_SamePieces.calls k _ _ t203 _ _ t207 true _ ?side1 ?side2 ?side3 ?side4 A13.out).mono ?_); (case side1 => repeat (first | exact (Kd.R_reads' HO206.out).2.2 | (with_reducible refine Kd.C_alloc ?_ _) | (with_reducible refine Kd.C_drewN ?_ _) | (with_reducible refine Kd.C_drew ?_))); (case side2 => exact (Kd.R_reads' HO206.out).2.1); (case side3 => repeat (first | exact (Kd.R_reads' HO210.out).2.2 | (with_reducible refine Kd.C_alloc ?_ _) | (with_reducible refine Kd.C_drewN ?_ _) | (with_reducible refine Kd.C_drew ?_))); (case side4 => exact (Kd.R_reads' HO210.out).2.1); rintro e w' ⟨rfl, ⟨nd, rfl⟩⟩; obtain ⟨Ao23, co23, eo23⟩ := Kd.R_slice HO214.out; subst eo23; obtain ⟨Ao24, co24, eo24⟩ := Kd.R_slice HO218.out; subst eo24) | (go_at_call 11; (with_reducible refine (gatehouseref05_SamePieces.calls k _ _ t211 _ _ t215 t220 _ ?side1 ?side2 ?side3 ?side4 A15.out).mono ?_); (case side1 => repeat (first | exact (Kd.R_reads' HO214.out).2.2 | (with_reducible refine Kd.C_alloc ?_ _) | (with_reducible refine Kd.C_drewN ?_ _) | (with_reducible refine Kd.C_drew ?_))); (case side2 => exact (Kd.R_reads' HO214.out).2.1); (case side3 => repeat (first | exact (Kd.R_reads' HO218.out).2.2 | (with_reducible refine Kd.C_alloc ?_ _) | (with_reducible refine Kd.C_drewN ?_ _) | (with_reducible refine Kd.C_drew ?_))); (case side4 => exact (Kd.R_reads' HO218.out).2.1); rintro e w' ⟨rfl, ⟨nd, rfl⟩⟩))
          go_ret
          exact ⟨by first | rfl | (simp [errW_none, errW_some] <;> rfl) | (simp [*, errW_none, errW_some] <;> rfl), by repeat (first | (with_reducible first | exact HB.out | apply below_alloc | apply pw_below_drewN | apply below_drew1) | exact HB.out)⟩
        · replace c14 := Bool.eq_false_iff.mpr c14
          subst c14
          have H1 : (some false) = some r := by rw [if_neg (show ¬ (false = true) by decide)] at H; exact H
          clear H
          have H := H1
          clear H1
          obtain rfl := Option.some.inj H
          go_enter Try.func5, Try.ntmps5
          go_wp2_with (first | ((with_reducible refine gate_callee (f := 9) rfl ?_); refine goesL_ (some 17) rfl rfl Try.func9 (by kernel_rfl) rfl #[] rfl (by (try simp only [List.map_toArray, List.map_cons, List.map_nil]); first | done | rfl | (simp only [List.length_drop, List.length_take]; rfl)) ?_; (with_reducible refine (gatehouselaw05_lives.calls k  true _ A5.out).mono ?_); rintro e w25 ⟨rfl, hb⟩; refine ⟨_, rfl, ?_⟩; have n0_ := Aside0.mk (below_step (by repeat (first | (with_reducible first | exact HB.out | apply below_alloc | apply pw_below_drewN | apply below_drew1) | exact HB.out)) hb); clear HB; have HB := n0_; clear n0_; (try clear hb); (try clear hb2); (try clear hk); (try clear hi)) | ((with_reducible refine gate_callee (f := 10) rfl ?_); refine goesL_ (some 24) rfl rfl Try.func10 (by kernel_rfl) rfl #[.slice A0 l0.length c0, .int .u64 a1, .int .i64 a2, .int .i64 a3] rfl (by (try simp only [List.map_toArray, List.map_cons, List.map_nil]); first | done | rfl | (simp only [List.length_drop, List.length_take]; rfl)) ?_; (with_reducible refine (space_Span.calls k _ _ l0 a1 a2 a3 t203 t204 _ ?side1 ?side2 A7.out).mono ?_); (case side1 => repeat (first | exact (Kd.C_below HR0.out HB.out) | (with_reducible refine Kd.C_alloc ?_ _) | (with_reducible refine Kd.C_drewN ?_ _) | (with_reducible refine Kd.C_drew ?_))); (case side2 => exact HC0.out); rintro e w26 ⟨v205, rfl, ho0, hb⟩; refine ⟨_, rfl, ?_⟩; have n0_ := Aside0.mk (Kd.R_lower ho0 (below_size (by repeat (first | (with_reducible first | exact HB.out | apply below_alloc | apply pw_below_drewN | apply below_drew1) | exact HB.out)))); have n1_ := Aside0.mk (below_step (by repeat (first | (with_reducible first | exact HB.out | apply below_alloc | apply pw_below_drewN | apply below_drew1) | exact HB.out)) hb); clear HB; have HO206 := n0_; have HB := n1_; clear n0_ n1_; (try clear hb); (try clear hb2); (try clear hk); (try clear hi); (try clear ho0)) | ((with_reducible refine gate_callee (f := 13) rfl ?_); refine goesL_ (some 32) rfl rfl Try.func13 (by kernel_rfl) rfl #[.slice A0 l0.length c0, .int .u64 a1, .int .i64 a2, .int .i64 a3] rfl (by (try simp only [List.map_toArray, List.map_cons, List.map_nil]); first | done | rfl | (simp only [List.length_drop, List.length_take]; rfl)) ?_; (with_reducible refine (gatehouseref05_Span.calls k _ _ l0 a1 a2 a3 t207 t208 _ ?side1 ?side2 A8.out).mono ?_); (case side1 => repeat (first | exact (Kd.C_below HR0.out HB.out) | (with_reducible refine Kd.C_alloc ?_ _) | (with_reducible refine Kd.C_drewN ?_ _) | (with_reducible refine Kd.C_drew ?_))); (case side2 => exact HC0.out); rintro e w27 ⟨v209, rfl, ho0, hb⟩; refine ⟨_, rfl, ?_⟩; have n0_ := Aside0.mk (Kd.R_elder' (by (with_reducible repeat (first | apply Kd.R_alloc | apply Kd.R_drewN | apply Kd.R_drew)); exact HO206.out) (Kd.R_base ho0) hb); have n1_ := Aside0.mk (Kd.R_lower (Kd.R_new' ho0 (Kd.R_lt (by (with_reducible repeat (first | apply Kd.R_alloc | apply Kd.R_drewN | apply Kd.R_drew)); exact HO206.out))) (below_size (by repeat (first | (with_reducible first | exact HB.out | apply below_alloc | apply pw_below_drewN | apply below_drew1) | exact HB.out)))); have n2_ := Aside0.mk (below_step (by repeat (first | (with_reducible first | exact HB.out | apply below_alloc | apply pw_below_drewN | apply below_drew1) | exact HB.out)) hb); clear HO206; clear HB; have HO206 := n0_; have HO210 := n1_; have HB := n2_; clear n0_ n1_ n2_; (try clear hb); (try clear hb2); (try clear hk); (try clear hi); (try clear ho0)) | ((with_reducible refine gate_callee (f := 14) rfl ?_); refine goesL_ (some 39) rfl rfl Try.func14 (by kernel_rfl) rfl #[.slice A0 l0.length c0, .int .u64 a1, .int .i64 a3] rfl (by (try simp only [List.map_toArray, List.map_cons, List.map_nil]); first | done | rfl | (simp only [List.length_drop, List.length_take]; rfl)) ?_; (with_reducible refine (space_Find.calls k _ _ l0 a1 a3 t211 t212 _ ?side1 ?side2 A9.out).mono ?_); (case side1 => repeat (first | exact (Kd.C_below HR0.out HB.out) | (with_reducible refine Kd.C_alloc ?_ _) | (with_reducible refine Kd.C_drewN ?_ _) | (with_reducible refine Kd.C_drew ?_))); (case side2 => exact HC0.out); rintro e w28 ⟨v213, rfl, ho0, hb⟩; refine ⟨_, rfl, ?_⟩; have n0_ := Aside0.mk (Kd.R_elder' (by (with_reducible repeat (first | apply Kd.R_alloc | apply Kd.R_drewN | apply Kd.R_drew)); exact HO206.out) (Kd.R_base ho0) hb); have n1_ := Aside0.mk (Kd.R_elder' (by (with_reducible repeat (first | apply Kd.R_alloc | apply Kd.R_drewN | apply Kd.R_drew)); exact HO210.out) (Kd.R_base ho0) hb); have n2_ := Aside0.mk (Kd.R_lower (Kd.R_new' (Kd.R_new' ho0 (Kd.R_lt (by (with_reducible repeat (first | apply Kd.R_alloc | apply Kd.R_drewN | apply Kd.R_drew)); exact HO206.out))) (Kd.R_lt (by (with_reducible repeat (first | apply Kd.R_alloc | apply Kd.R_drewN | apply Kd.R_drew)); exact HO210.out))) (below_size (by repeat (first | (with_reducible first | exact HB.out | apply below_alloc | apply pw_below_drewN | apply below_drew1) | exact HB.out)))); have n3_ := Aside0.mk (below_step (by repeat (first | (with_reducible first | exact HB.out | apply below_alloc | apply pw_below_drewN | apply below_drew1) | exact HB.out)) hb); clear HO206; clear HO210; clear HB; have HO206 := n0_; have HO210 := n1_; have HO214 := n2_; have HB := n3_; clear n0_ n1_ n2_ n3_; (try clear hb); (try clear hb2); (try clear hk); (try clear hi); (try clear ho0)) | ((with_reducible refine gate_callee (f := 13) rfl ?_); refine goesL_ (some 46) rfl rfl Try.func13 (by kernel_rfl) rfl #[.slice A0 l0.length c0, .int .u64 a1, .int .i64 1, .int .i64 a3] rfl (by (try simp only [List.map_toArray, List.map_cons, List.map_nil]); first | done | rfl | (simp only [List.length_drop, List.length_take]; rfl)) ?_; (with_reducible refine (gatehouseref05_Span.calls k _ _ l0 a1 1 a3 t215 t216 _ ?side1 ?side2 A10.out).mono ?_); (case side1 => repeat (first | exact (Kd.C_below HR0.out HB.out) | (with_reducible refine Kd.C_alloc ?_ _) | (with_reducible refine Kd.C_drewN ?_ _) | (with_reducible refine Kd.C_drew ?_))); (case side2 => exact HC0.out); rintro e w29 ⟨v217, rfl, ho0, hb⟩; refine ⟨_, rfl, ?_⟩; have n0_ := Aside0.mk (Kd.R_elder' (by (with_reducible repeat (first | apply Kd.R_alloc | apply Kd.R_drewN | apply Kd.R_drew)); exact HO206.out) (Kd.R_base ho0) hb); have n1_ := Aside0.mk (Kd.R_elder' (by (with_reducible repeat (first | apply Kd.R_alloc | apply Kd.R_drewN | apply Kd.R_drew)); exact HO210.out) (Kd.R_base ho0) hb); have n2_ := Aside0.mk (Kd.R_elder' (by (with_reducible repeat (first | apply Kd.R_alloc | apply Kd.R_drewN | apply Kd.R_drew)); exact HO214.out) (Kd.R_base ho0) hb); have n3_ := Aside0.mk (Kd.R_lower (Kd.R_new' (Kd.R_new' (Kd.R_new' ho0 (Kd.R_lt (by (with_reducible repeat (first | apply Kd.R_alloc | apply Kd.R_drewN | apply Kd.R_drew)); exact HO206.out))) (Kd.R_lt (by (with_reducible repeat (first | apply Kd.R_alloc | apply Kd.R_drewN | apply Kd.R_drew)); exact HO210.out))) (Kd.R_lt (by (with_reducible repeat (first | apply Kd.R_alloc | apply Kd.R_drewN | apply Kd.R_drew)); exact HO214.out))) (below_size (by repeat (first | (with_reducible first | exact HB.out | apply below_alloc | apply pw_below_drewN | apply below_drew1) | exact HB.out)))); have n4_ := Aside0.mk (below_step (by repeat (first | (with_reducible first | exact HB.out | apply below_alloc | apply pw_below_drewN | apply below_drew1) | exact HB.out)) hb); clear HO206; clear HO210; clear HO214; clear HB; have HO206 := n0_; have HO210 := n1_; have HO214 := n2_; have HO218 := n3_; have HB := n4_; clear n0_ n1_ n2_ n3_ n4_; (try clear hb); (try clear hb2); (try clear hk); (try clear hi); (try clear ho0); obtain ⟨Ao30, co30, eo30⟩ := Kd.R_slice HO206.out; subst eo30; obtain ⟨Ao31, co31, eo31⟩ := Kd.R_slice HO210.out; subst eo31) | (go_at_call 11; (with_reducible refine (gatehouseref05_SamePieces.calls k _ _ t203 _ _ t207 false _ ?side1 ?side2 ?side3 ?side4 A13.out).mono ?_); (case side1 => repeat (first | exact (Kd.R_reads' HO206.out).2.2 | (with_reducible refine Kd.C_alloc ?_ _) | (with_reducible refine Kd.C_drewN ?_ _) | (with_reducible refine Kd.C_drew ?_))); (case side2 => exact (Kd.R_reads' HO206.out).2.1); (case side3 => repeat (first | exact (Kd.R_reads' HO210.out).2.2 | (with_reducible refine Kd.C_alloc ?_ _) | (with_reducible refine Kd.C_drewN ?_ _) | (with_reducible refine Kd.C_drew ?_))); (case side4 => exact (Kd.R_reads' HO210.out).2.1); rintro e w' ⟨rfl, ⟨nd, rfl⟩⟩))
          go_ret
          exact ⟨by first | rfl | (simp [errW_none, errW_some] <;> rfl) | (simp [*, errW_none, errW_some] <;> rfl), by repeat (first | (with_reducible first | exact HB.out | apply below_alloc | apply pw_below_drewN | apply below_drew1) | exact HB.out)⟩
      · rw [if_neg c12] at H
        have c12b0 : (t212 == t216) = false := beq_eq_false_iff_ne.mpr c12
        have c12b1 : (t212 != t216) = true := bne_iff_ne.mpr c12
        obtain rfl := Option.some.inj H
        go_enter Try.func5, Try.ntmps5
        go_wp2_with (first | ((with_reducible refine gate_callee (f := 9) rfl ?_); refine goesL_ (some 17) rfl rfl Try.func9 (by kernel_rfl) rfl #[] rfl (by (try simp only [List.map_toArray, List.map_cons, List.map_nil]); first | done | rfl | (simp only [List.length_drop, List.length_take]; rfl)) ?_; (with_reducible refine (gatehouselaw05_lives.calls k  true _ A5.out).mono ?_); rintro e w32 ⟨rfl, hb⟩; refine ⟨_, rfl, ?_⟩; have n0_ := Aside0.mk (below_step (by repeat (first | (with_reducible first | exact HB.out | apply below_alloc | apply pw_below_drewN | apply below_drew1) | exact HB.out)) hb); clear HB; have HB := n0_; clear n0_; (try clear hb); (try clear hb2); (try clear hk); (try clear hi)) | ((with_reducible refine gate_callee (f := 10) rfl ?_); refine goesL_ (some 24) rfl rfl Try.func10 (by kernel_rfl) rfl #[.slice A0 l0.length c0, .int .u64 a1, .int .i64 a2, .int .i64 a3] rfl (by (try simp only [List.map_toArray, List.map_cons, List.map_nil]); first | done | rfl | (simp only [List.length_drop, List.length_take]; rfl)) ?_; (with_reducible refine (space_Span.calls k _ _ l0 a1 a2 a3 t203 t204 _ ?side1 ?side2 A7.out).mono ?_); (case side1 => repeat (first | exact (Kd.C_below HR0.out HB.out) | (with_reducible refine Kd.C_alloc ?_ _) | (with_reducible refine Kd.C_drewN ?_ _) | (with_reducible refine Kd.C_drew ?_))); (case side2 => exact HC0.out); rintro e w33 ⟨v205, rfl, ho0, hb⟩; refine ⟨_, rfl, ?_⟩; have n0_ := Aside0.mk (Kd.R_lower ho0 (below_size (by repeat (first | (with_reducible first | exact HB.out | apply below_alloc | apply pw_below_drewN | apply below_drew1) | exact HB.out)))); have n1_ := Aside0.mk (below_step (by repeat (first | (with_reducible first | exact HB.out | apply below_alloc | apply pw_below_drewN | apply below_drew1) | exact HB.out)) hb); clear HB; have HO206 := n0_; have HB := n1_; clear n0_ n1_; (try clear hb); (try clear hb2); (try clear hk); (try clear hi); (try clear ho0)) | ((with_reducible refine gate_callee (f := 13) rfl ?_); refine goesL_ (some 32) rfl rfl Try.func13 (by kernel_rfl) rfl #[.slice A0 l0.length c0, .int .u64 a1, .int .i64 a2, .int .i64 a3] rfl (by (try simp only [List.map_toArray, List.map_cons, List.map_nil]); first | done | rfl | (simp only [List.length_drop, List.length_take]; rfl)) ?_; (with_reducible refine (gatehouseref05_Span.calls k _ _ l0 a1 a2 a3 t207 t208 _ ?side1 ?side2 A8.out).mono ?_); (case side1 => repeat (first | exact (Kd.C_below HR0.out HB.out) | (with_reducible refine Kd.C_alloc ?_ _) | (with_reducible refine Kd.C_drewN ?_ _) | (with_reducible refine Kd.C_drew ?_))); (case side2 => exact HC0.out); rintro e w34 ⟨v209, rfl, ho0, hb⟩; refine ⟨_, rfl, ?_⟩; have n0_ := Aside0.mk (Kd.R_elder' (by (with_reducible repeat (first | apply Kd.R_alloc | apply Kd.R_drewN | apply Kd.R_drew)); exact HO206.out) (Kd.R_base ho0) hb); have n1_ := Aside0.mk (Kd.R_lower (Kd.R_new' ho0 (Kd.R_lt (by (with_reducible repeat (first | apply Kd.R_alloc | apply Kd.R_drewN | apply Kd.R_drew)); exact HO206.out))) (below_size (by repeat (first | (with_reducible first | exact HB.out | apply below_alloc | apply pw_below_drewN | apply below_drew1) | exact HB.out)))); have n2_ := Aside0.mk (below_step (by repeat (first | (with_reducible first | exact HB.out | apply below_alloc | apply pw_below_drewN | apply below_drew1) | exact HB.out)) hb); clear HO206; clear HB; have HO206 := n0_; have HO210 := n1_; have HB := n2_; clear n0_ n1_ n2_; (try clear hb); (try clear hb2); (try clear hk); (try clear hi); (try clear ho0)) | ((with_reducible refine gate_callee (f := 14) rfl ?_); refine goesL_ (some 39) rfl rfl Try.func14 (by kernel_rfl) rfl #[.slice A0 l0.length c0, .int .u64 a1, .int .i64 a3] rfl (by (try simp only [List.map_toArray, List.map_cons, List.map_nil]); first | done | rfl | (simp only [List.length_drop, List.length_take]; rfl)) ?_; (with_reducible refine (space_Find.calls k _ _ l0 a1 a3 t211 t212 _ ?side1 ?side2 A9.out).mono ?_); (case side1 => repeat (first | exact (Kd.C_below HR0.out HB.out) | (with_reducible refine Kd.C_alloc ?_ _) | (with_reducible refine Kd.C_drewN ?_ _) | (with_reducible refine Kd.C_drew ?_))); (case side2 => exact HC0.out); rintro e w35 ⟨v213, rfl, ho0, hb⟩; refine ⟨_, rfl, ?_⟩; have n0_ := Aside0.mk (Kd.R_elder' (by (with_reducible repeat (first | apply Kd.R_alloc | apply Kd.R_drewN | apply Kd.R_drew)); exact HO206.out) (Kd.R_base ho0) hb); have n1_ := Aside0.mk (Kd.R_elder' (by (with_reducible repeat (first | apply Kd.R_alloc | apply Kd.R_drewN | apply Kd.R_drew)); exact HO210.out) (Kd.R_base ho0) hb); have n2_ := Aside0.mk (Kd.R_lower (Kd.R_new' (Kd.R_new' ho0 (Kd.R_lt (by (with_reducible repeat (first | apply Kd.R_alloc | apply Kd.R_drewN | apply Kd.R_drew)); exact HO206.out))) (Kd.R_lt (by (with_reducible repeat (first | apply Kd.R_alloc | apply Kd.R_drewN | apply Kd.R_drew)); exact HO210.out))) (below_size (by repeat (first | (with_reducible first | exact HB.out | apply below_alloc | apply pw_below_drewN | apply below_drew1) | exact HB.out)))); have n3_ := Aside0.mk (below_step (by repeat (first | (with_reducible first | exact HB.out | apply below_alloc | apply pw_below_drewN | apply below_drew1) | exact HB.out)) hb); clear HO206; clear HO210; clear HB; have HO206 := n0_; have HO210 := n1_; have HO214 := n2_; have HB := n3_; clear n0_ n1_ n2_ n3_; (try clear hb); (try clear hb2); (try clear hk); (try clear hi); (try clear ho0)) | ((with_reducible refine gate_callee (f := 13) rfl ?_); refine goesL_ (some 46) rfl rfl Try.func13 (by kernel_rfl) rfl #[.slice A0 l0.length c0, .int .u64 a1, .int .i64 1, .int .i64 a3] rfl (by (try simp only [List.map_toArray, List.map_cons, List.map_nil]); first | done | rfl | (simp only [List.length_drop, List.length_take]; rfl)) ?_; (with_reducible refine (gatehouseref05_Span.calls k _ _ l0 a1 1 a3 t215 t216 _ ?side1 ?side2 A10.out).mono ?_); (case side1 => repeat (first | exact (Kd.C_below HR0.out HB.out) | (with_reducible refine Kd.C_alloc ?_ _) | (with_reducible refine Kd.C_drewN ?_ _) | (with_reducible refine Kd.C_drew ?_))); (case side2 => exact HC0.out); rintro e w36 ⟨v217, rfl, ho0, hb⟩; refine ⟨_, rfl, ?_⟩; have n0_ := Aside0.mk (Kd.R_elder' (by (with_reducible repeat (first | apply Kd.R_alloc | apply Kd.R_drewN | apply Kd.R_drew)); exact HO206.out) (Kd.R_base ho0) hb); have n1_ := Aside0.mk (Kd.R_elder' (by (with_reducible repeat (first | apply Kd.R_alloc | apply Kd.R_drewN | apply Kd.R_drew)); exact HO210.out) (Kd.R_base ho0) hb); have n2_ := Aside0.mk (Kd.R_elder' (by (with_reducible repeat (first | apply Kd.R_alloc | apply Kd.R_drewN | apply Kd.R_drew)); exact HO214.out) (Kd.R_base ho0) hb); have n3_ := Aside0.mk (Kd.R_lower (Kd.R_new' (Kd.R_new' (Kd.R_new' ho0 (Kd.R_lt (by (with_reducible repeat (first | apply Kd.R_alloc | apply Kd.R_drewN | apply Kd.R_drew)); exact HO206.out))) (Kd.R_lt (by (with_reducible repeat (first | apply Kd.R_alloc | apply Kd.R_drewN | apply Kd.R_drew)); exact HO210.out))) (Kd.R_lt (by (with_reducible repeat (first | apply Kd.R_alloc | apply Kd.R_drewN | apply Kd.R_drew)); exact HO214.out))) (below_size (by repeat (first | (with_reducible first | exact HB.out | apply below_alloc | apply pw_below_drewN | apply below_drew1) | exact HB.out)))); have n4_ := Aside0.mk (below_step (by repeat (first | (with_reducible first | exact HB.out | apply below_alloc | apply pw_below_drewN | apply below_drew1) | exact HB.out)) hb); clear HO206; clear HO210; clear HO214; clear HB; have HO206 := n0_; have HO210 := n1_; have HO214 := n2_; have HO218 := n3_; have HB := n4_; clear n0_ n1_ n2_ n3_ n4_; (try clear hb); (try clear hb2); (try clear hk); (try clear hi); (try clear ho0)))
        go_ret
        exact ⟨by first | rfl | (simp [errW_none, errW_some] <;> rfl) | (simp [*, errW_none, errW_some] <;> rfl), by repeat (first | (with_reducible first | exact HB.out | apply below_alloc | apply pw_below_drewN | apply below_drew1) | exact HB.out)⟩
    · rw [if_neg c11] at H
      have c11b0 : (t204 == t208) = false := beq_eq_false_iff_ne.mpr c11
      have c11b1 : (t204 != t208) = true := bne_iff_ne.mpr c11
      obtain rfl := Option.some.inj H
      go_enter Try.func5, Try.ntmps5
      go_wp2_with (first | ((with_reducible refine gate_callee (f := 9) rfl ?_); refine goesL_ (some 17) rfl rfl Try.func9 (by kernel_rfl) rfl #[] rfl (by (try simp only [List.map_toArray, List.map_cons, List.map_nil]); first | done | rfl | (simp only [List.length_drop, List.length_take]; rfl)) ?_; (with_reducible refine (gatehouselaw05_lives.calls k  true _ A5.out).mono ?_); rintro e w37 ⟨rfl, hb⟩; refine ⟨_, rfl, ?_⟩; have n0_ := Aside0.mk (below_step (by repeat (first | (with_reducible first | exact HB.out | apply below_alloc | apply pw_below_drewN | apply below_drew1) | exact HB.out)) hb); clear HB; have HB := n0_; clear n0_; (try clear hb); (try clear hb2); (try clear hk); (try clear hi)) | ((with_reducible refine gate_callee (f := 10) rfl ?_); refine goesL_ (some 24) rfl rfl Try.func10 (by kernel_rfl) rfl #[.slice A0 l0.length c0, .int .u64 a1, .int .i64 a2, .int .i64 a3] rfl (by (try simp only [List.map_toArray, List.map_cons, List.map_nil]); first | done | rfl | (simp only [List.length_drop, List.length_take]; rfl)) ?_; (with_reducible refine (space_Span.calls k _ _ l0 a1 a2 a3 t203 t204 _ ?side1 ?side2 A7.out).mono ?_); (case side1 => repeat (first | exact (Kd.C_below HR0.out HB.out) | (with_reducible refine Kd.C_alloc ?_ _) | (with_reducible refine Kd.C_drewN ?_ _) | (with_reducible refine Kd.C_drew ?_))); (case side2 => exact HC0.out); rintro e w38 ⟨v205, rfl, ho0, hb⟩; refine ⟨_, rfl, ?_⟩; have n0_ := Aside0.mk (Kd.R_lower ho0 (below_size (by repeat (first | (with_reducible first | exact HB.out | apply below_alloc | apply pw_below_drewN | apply below_drew1) | exact HB.out)))); have n1_ := Aside0.mk (below_step (by repeat (first | (with_reducible first | exact HB.out | apply below_alloc | apply pw_below_drewN | apply below_drew1) | exact HB.out)) hb); clear HB; have HO206 := n0_; have HB := n1_; clear n0_ n1_; (try clear hb); (try clear hb2); (try clear hk); (try clear hi); (try clear ho0)) | ((with_reducible refine gate_callee (f := 13) rfl ?_); refine goesL_ (some 32) rfl rfl Try.func13 (by kernel_rfl) rfl #[.slice A0 l0.length c0, .int .u64 a1, .int .i64 a2, .int .i64 a3] rfl (by (try simp only [List.map_toArray, List.map_cons, List.map_nil]); first | done | rfl | (simp only [List.length_drop, List.length_take]; rfl)) ?_; (with_reducible refine (gatehouseref05_Span.calls k _ _ l0 a1 a2 a3 t207 t208 _ ?side1 ?side2 A8.out).mono ?_); (case side1 => repeat (first | exact (Kd.C_below HR0.out HB.out) | (with_reducible refine Kd.C_alloc ?_ _) | (with_reducible refine Kd.C_drewN ?_ _) | (with_reducible refine Kd.C_drew ?_))); (case side2 => exact HC0.out); rintro e w39 ⟨v209, rfl, ho0, hb⟩; refine ⟨_, rfl, ?_⟩; have n0_ := Aside0.mk (Kd.R_elder' (by (with_reducible repeat (first | apply Kd.R_alloc | apply Kd.R_drewN | apply Kd.R_drew)); exact HO206.out) (Kd.R_base ho0) hb); have n1_ := Aside0.mk (Kd.R_lower (Kd.R_new' ho0 (Kd.R_lt (by (with_reducible repeat (first | apply Kd.R_alloc | apply Kd.R_drewN | apply Kd.R_drew)); exact HO206.out))) (below_size (by repeat (first | (with_reducible first | exact HB.out | apply below_alloc | apply pw_below_drewN | apply below_drew1) | exact HB.out)))); have n2_ := Aside0.mk (below_step (by repeat (first | (with_reducible first | exact HB.out | apply below_alloc | apply pw_below_drewN | apply below_drew1) | exact HB.out)) hb); clear HO206; clear HB; have HO206 := n0_; have HO210 := n1_; have HB := n2_; clear n0_ n1_ n2_; (try clear hb); (try clear hb2); (try clear hk); (try clear hi); (try clear ho0)) | ((with_reducible refine gate_callee (f := 14) rfl ?_); refine goesL_ (some 39) rfl rfl Try.func14 (by kernel_rfl) rfl #[.slice A0 l0.length c0, .int .u64 a1, .int .i64 a3] rfl (by (try simp only [List.map_toArray, List.map_cons, List.map_nil]); first | done | rfl | (simp only [List.length_drop, List.length_take]; rfl)) ?_; (with_reducible refine (space_Find.calls k _ _ l0 a1 a3 t211 t212 _ ?side1 ?side2 A9.out).mono ?_); (case side1 => repeat (first | exact (Kd.C_below HR0.out HB.out) | (with_reducible refine Kd.C_alloc ?_ _) | (with_reducible refine Kd.C_drewN ?_ _) | (with_reducible refine Kd.C_drew ?_))); (case side2 => exact HC0.out); rintro e w40 ⟨v213, rfl, ho0, hb⟩; refine ⟨_, rfl, ?_⟩; have n0_ := Aside0.mk (Kd.R_elder' (by (with_reducible repeat (first | apply Kd.R_alloc | apply Kd.R_drewN | apply Kd.R_drew)); exact HO206.out) (Kd.R_base ho0) hb); have n1_ := Aside0.mk (Kd.R_elder' (by (with_reducible repeat (first | apply Kd.R_alloc | apply Kd.R_drewN | apply Kd.R_drew)); exact HO210.out) (Kd.R_base ho0) hb); have n2_ := Aside0.mk (Kd.R_lower (Kd.R_new' (Kd.R_new' ho0 (Kd.R_lt (by (with_reducible repeat (first | apply Kd.R_alloc | apply Kd.R_drewN | apply Kd.R_drew)); exact HO206.out))) (Kd.R_lt (by (with_reducible repeat (first | apply Kd.R_alloc | apply Kd.R_drewN | apply Kd.R_drew)); exact HO210.out))) (below_size (by repeat (first | (with_reducible first | exact HB.out | apply below_alloc | apply pw_below_drewN | apply below_drew1) | exact HB.out)))); have n3_ := Aside0.mk (below_step (by repeat (first | (with_reducible first | exact HB.out | apply below_alloc | apply pw_below_drewN | apply below_drew1) | exact HB.out)) hb); clear HO206; clear HO210; clear HB; have HO206 := n0_; have HO210 := n1_; have HO214 := n2_; have HB := n3_; clear n0_ n1_ n2_ n3_; (try clear hb); (try clear hb2); (try clear hk); (try clear hi); (try clear ho0)) | ((with_reducible refine gate_callee (f := 13) rfl ?_); refine goesL_ (some 46) rfl rfl Try.func13 (by kernel_rfl) rfl #[.slice A0 l0.length c0, .int .u64 a1, .int .i64 1, .int .i64 a3] rfl (by (try simp only [List.map_toArray, List.map_cons, List.map_nil]); first | done | rfl | (simp only [List.length_drop, List.length_take]; rfl)) ?_; (with_reducible refine (gatehouseref05_Span.calls k _ _ l0 a1 1 a3 t215 t216 _ ?side1 ?side2 A10.out).mono ?_); (case side1 => repeat (first | exact (Kd.C_below HR0.out HB.out) | (with_reducible refine Kd.C_alloc ?_ _) | (with_reducible refine Kd.C_drewN ?_ _) | (with_reducible refine Kd.C_drew ?_))); (case side2 => exact HC0.out); rintro e w41 ⟨v217, rfl, ho0, hb⟩; refine ⟨_, rfl, ?_⟩; have n0_ := Aside0.mk (Kd.R_elder' (by (with_reducible repeat (first | apply Kd.R_alloc | apply Kd.R_drewN | apply Kd.R_drew)); exact HO206.out) (Kd.R_base ho0) hb); have n1_ := Aside0.mk (Kd.R_elder' (by (with_reducible repeat (first | apply Kd.R_alloc | apply Kd.R_drewN | apply Kd.R_drew)); exact HO210.out) (Kd.R_base ho0) hb); have n2_ := Aside0.mk (Kd.R_elder' (by (with_reducible repeat (first | apply Kd.R_alloc | apply Kd.R_drewN | apply Kd.R_drew)); exact HO214.out) (Kd.R_base ho0) hb); have n3_ := Aside0.mk (Kd.R_lower (Kd.R_new' (Kd.R_new' (Kd.R_new' ho0 (Kd.R_lt (by (with_reducible repeat (first | apply Kd.R_alloc | apply Kd.R_drewN | apply Kd.R_drew)); exact HO206.out))) (Kd.R_lt (by (with_reducible repeat (first | apply Kd.R_alloc | apply Kd.R_drewN | apply Kd.R_drew)); exact HO210.out))) (Kd.R_lt (by (with_reducible repeat (first | apply Kd.R_alloc | apply Kd.R_drewN | apply Kd.R_drew)); exact HO214.out))) (below_size (by repeat (first | (with_reducible first | exact HB.out | apply below_alloc | apply pw_below_drewN | apply below_drew1) | exact HB.out)))); have n4_ := Aside0.mk (below_step (by repeat (first | (with_reducible first | exact HB.out | apply below_alloc | apply pw_below_drewN | apply below_drew1) | exact HB.out)) hb); clear HO206; clear HO210; clear HO214; clear HB; have HO206 := n0_; have HO210 := n1_; have HO214 := n2_; have HO218 := n3_; have HB := n4_; clear n0_ n1_ n2_ n3_ n4_; (try clear hb); (try clear hb2); (try clear hk); (try clear hi); (try clear ho0)))
      go_ret
      exact ⟨by first | rfl | (simp [errW_none, errW_some] <;> rfl) | (simp [*, errW_none, errW_some] <;> rfl), by repeat (first | (with_reducible first | exact HB.out | apply below_alloc | apply pw_below_drewN | apply below_drew1) | exact HB.out)⟩
  · replace c6 := Bool.eq_false_iff.mpr c6
    subst c6
    have H1 : (some false) = some r := by rw [if_neg (show ¬ (false = true) by decide)] at H; exact H
    clear H
    have H := H1
    clear H1
    obtain rfl := Option.some.inj H
    go_enter Try.func5, Try.ntmps5
    go_wp2_with (first | ((with_reducible refine gate_callee (f := 9) rfl ?_); refine goesL_ (some 17) rfl rfl Try.func9 (by kernel_rfl) rfl #[] rfl (by (try simp only [List.map_toArray, List.map_cons, List.map_nil]); first | done | rfl | (simp only [List.length_drop, List.length_take]; rfl)) ?_; (with_reducible refine (gatehouselaw05_lives.calls k  false _ A5.out).mono ?_); rintro e w42 ⟨rfl, hb⟩; refine ⟨_, rfl, ?_⟩; have n0_ := Aside0.mk (below_step (by repeat (first | (with_reducible first | exact HB.out | apply below_alloc | apply pw_below_drewN | apply below_drew1) | exact HB.out)) hb); clear HB; have HB := n0_; clear n0_; (try clear hb); (try clear hb2); (try clear hk); (try clear hi)))
    go_ret
    exact ⟨by first | rfl | (simp [errW_none, errW_some] <;> rfl) | (simp [*, errW_none, errW_some] <;> rfl), by repeat (first | (with_reducible first | exact HB.out | apply below_alloc | apply pw_below_drewN | apply below_drew1) | exact HB.out)⟩

end Go.Proofs.YtcgmlcblcioaeaaZ
namespace Go.Proofs.YtcgmlcblcioaeaaP
open Go Go.RowKit Go.Proofs.YtcgmlcblcioaeaaZ Go.Proofs.YtcgmlcblcioaeaaW.PrintWords Go.Proofs.YtcgmlcblcioaeaaW.PrintLast Go.Proofs.YtcgmlcblcioaeaaW.PrintMore
open Go.Proofs.Ytcgmlcblcioaeaa (Mp Pc rightL rightFrom atI spanL spanFrom idOk putL cutL insL clash good_out right_good right_from right_order rightL_from atI_le takeWhile_at)

/-- One byte of the reference's span. -/
theorem rspan_byte (l : List S31) (hr : rightL (l.map S31.m) = true) (a n need : Int) (hneed : 0 ≤ need ∧ need ≤ 2) (ha : 0 ≤ a) (k : Nat) (i : Nat) (hi : (i : Int) < n) (hn : n ≤ 4096) (hin : a + i ≤ 18446744073709551615) (hk : 32 < k) (acc : List S41) (last : Int) (hacc : acc.length ≤ 100000) :
    gatehouseref05_Span.l0 (k + 1) l a n need acc last i =
      if (byteFrom need (a + i) 0 (l.map S31.m)).1 < 0 then some ([], 9) else
      if (byteFrom need (a + i) 0 (l.map S31.m)).1 = last then
        (if 0 ≤ (wrap64 ((acc.length : Int) - 1)) then (if (wrap64 ((acc.length : Int) - 1)) < (acc.length : Int) then (gatehouseref05_Span.l0 k l a n need (acc.set ((wrap64 ((acc.length : Int) - 1)) : Int).toNat (⟨(rd_T41 acc (wrap64 ((acc.length : Int) - 1))).f0, (rd_T41 acc (wrap64 ((acc.length : Int) - 1))).f1, (rd_T41 acc (wrap64 ((acc.length : Int) - 1))).f2, wrap64 (((rd_T41 acc (wrap64 ((acc.length : Int) - 1))).f3) + 1)⟩ : S41)) last ((i + 1 : Nat) : Int)) else (none)) else (none))
      else
        (if 0 ≤ (byteFrom need (a + i) 0 (l.map S31.m)).1 then (if (byteFrom need (a + i) 0 (l.map S31.m)).1 < (l.length : Int) then (gatehouseref05_Span.l0 k l a n need (acc ++ [(⟨(rd_T31 l (byteFrom need (a + i) 0 (l.map S31.m)).1).f2, (rd_T31 l (byteFrom need (a + i) 0 (l.map S31.m)).1).f3, (byteFrom need (a + i) 0 (l.map S31.m)).2, 1⟩ : S41)]) (byteFrom need (a + i) 0 (l.map S31.m)).1 ((i + 1 : Nat) : Int)) else (none)) else (none)) := by
  rw [gatehouseref05_Span.l0, if_pos hi, u64_in (x := (i : Int)) (by omega) (by omega), u64_in (x := a + (i : Int)) (by omega) (by omega), if_neg (by omega), rbyte_f l hr (a + i) need (by omega) (by omega) hneed k hk]
  simp only [Option.bind_some]
  generalize byteFrom need (a + i) 0 (l.map S31.m) = b
  rw [wrap_in (x := (i : Int) + 1) (by omega) (by omega), show ((i : Int) + 1) = ((i + 1 : Nat) : Int) by omega]
  by_cases h1 : b.1 < 0
  · rw [if_pos h1, if_pos h1]
  · rw [if_neg h1, if_neg h1]
    by_cases h2 : b.1 = last
    · rw [if_pos h2, if_pos h2, h2]
    · rw [if_neg h2, if_neg h2, if_pos (show acc.length < 4398046511104 by omega)]
/-- The bytes of one mapping, behind the first. -/
theorem rspan_inner (l : List S31) (hr : rightL (l.map S31.m) = true) (a n need : Int) (hneed : 0 ≤ need ∧ need ≤ 2) (ha : 0 ≤ a) (hn : n ≤ 4096) (j : Nat) (hj : j < l.length) (hm : (l[j]).m.may need = true) (acc : List S41) (hacc : acc.length ≤ 1000) (x : S41) :
    ∀ (d i k : Nat) (t : Int), (i : Int) + d ≤ n → 1 ≤ t → t ≤ 4096 → t + d ≤ 4096 → (l[j]).f0 * 64 ≤ a + i → a + i + d ≤ ((l[j]).f0 + (l[j]).f1) * 64 → 32 < k →
      gatehouseref05_Span.l0 (k + d) l a n need (acc ++ [⟨x.f0, x.f1, x.f2, t⟩]) j i = gatehouseref05_Span.l0 k l a n need (acc ++ [⟨x.f0, x.f1, x.f2, t + d⟩]) j ((i + d : Nat) : Int) := by
  obtain ⟨hf, h16⟩ := rightL_from hr
  have hjm : j < (l.map S31.m).length := by simpa using hj
  have g := good_out (right_good hf _ (List.getElem_mem hjm))
  simp only [List.getElem_map, S31.m] at g
  intro d
  induction d with
  | zero => intro i k t _ _ _ _ _ _ _; simp
  | succ d ih =>
    intro i k t hi ht ht2 htd h0 h1 hk
    have hb : byteFrom need (a + i) 0 (l.map S31.m) = ((j : Int), (l[j]).f4 * 64 + (a + i - (l[j]).f0 * 64)) := by
      rw [byteFrom_at need (a + i) _ 0 0 hf, atI_eq hr j hjm ((a + i) / 64) (by simp only [List.getElem_map, S31.m]; omega) (by simp only [List.getElem_map, S31.m]; omega), List.drop_eq_getElem_cons hjm]
      simp only [List.getElem_map]
      rw [if_neg (by simp only [S31.m]; omega), if_pos hm, Nat.zero_add]
      rfl
    rw [show k + (d + 1) = (k + d) + 1 by omega, rspan_byte l hr a n need hneed ha (k + d) i (by omega) hn (by omega) (by omega) _ _ (by simp; omega), hb]
    simp only
    rw [if_neg (by omega), if_pos trivial]
    have hl : ((acc ++ [(⟨x.f0, x.f1, x.f2, t⟩ : S41)]).length : Int) - 1 = (acc.length : Int) := by simp
    rw [hl, wrap_in (x := (acc.length : Int)) (by omega) (by omega), if_pos (by omega), if_pos (by simp; omega)]
    have hrd : rd_T41 (acc ++ [(⟨x.f0, x.f1, x.f2, t⟩ : S41)]) (acc.length : Int) = ⟨x.f0, x.f1, x.f2, t⟩ := by
      rw [rd41 _ acc.length (by simp)]
      simp
    rw [hrd, Int.toNat_natCast]
    simp only
    rw [wrap_in (x := t + 1) (by omega) (by omega)]
    have hset : (acc ++ [(⟨x.f0, x.f1, x.f2, t⟩ : S41)]).set acc.length ⟨x.f0, x.f1, x.f2, t + 1⟩ = acc ++ [⟨x.f0, x.f1, x.f2, t + 1⟩] := by
      rw [List.set_append_right _ _ (Nat.le_refl _)]
      simp
    rw [hset, ih (i + 1) k (t + 1) (by omega) (by omega) (by omega) (by omega) (by omega) (by omega) hk]
    rw [show t + 1 + (d : Int) = t + ((d + 1 : Nat) : Int) by omega, show i + 1 + d = i + (d + 1) by omega]
theorem rspan_loop (l : List S31) (hr : rightL (l.map S31.m) = true) (a n need : Int) (hneed : 0 ≤ need ∧ need ≤ 2) (ha : 0 ≤ a) (ha2 : a ≤ 18446744073709551615) (hn : 1 ≤ n ∧ n ≤ 4096) :
    ∀ (d k j i : Nat) (acc : List S41) (last : Int), j + d = l.length → (i : Int) ≤ n → last < (j : Int) → acc.length ≤ j → ((i : Int) < n → atI (l.map S31.m) ((a + i) / 64) = j ∧ a + i ≤ 18446744073709551615) → 4200 * d + 100 < k →
    gatehouseref05_Span.l0 k l a n need acc last i = some (if n - i ≤ 0 then (acc, 0) else spanT acc (spanFrom need ((l.map S31.m).drop j) (a + i) (n - i))) := by
  obtain ⟨hf, h16⟩ := rightL_from hr
  rw [List.length_map] at h16
  intro d
  induction d with
  | zero =>
    intro k j i acc last hj hi hlast hacc hat hk
    obtain ⟨k, rfl⟩ : ∃ m, k = m + 1 := ⟨k - 1, by omega⟩
    by_cases hlt : (i : Int) < n
    · obtain ⟨h1, h2⟩ := hat hlt
      rw [rspan_byte l hr a n need hneed ha k i hlt hn.2 h2 (by omega) acc last (by omega), byteFrom_at need (a + i) _ 0 0 hf, h1, List.drop_eq_nil_of_le (by simp; omega)]
      simp only
      rw [if_pos (by omega), if_neg (by omega), spanFrom, spanT]
    · rw [gatehouseref05_Span.l0, if_neg hlt, if_pos (by omega)]
  | succ d ih =>
    intro k j i acc last hj hi hlast hacc hat hk
    obtain ⟨k, rfl⟩ : ∃ m, k = m + 1 := ⟨k - 1, by omega⟩
    by_cases hlt : (i : Int) < n
    · obtain ⟨h1, h2⟩ := hat hlt
      have hjl : j < l.length := by omega
      have hjm : j < (l.map S31.m).length := by simpa using hjl
      have hend : (a + i) / 64 < (l[j]).f0 + (l[j]).f1 := by
        have := Ytcgmlcblcioaeaa.takeWhile_stop (List.getElem?_eq_getElem (l := l.map S31.m) (i := atI (l.map S31.m) ((a + i) / 64)) (by rw [h1]; exact hjm))
        simp only [h1, List.getElem_map, S31.m] at this
        omega
      have g := good_out (right_good hf _ (List.getElem_mem hjm))
      simp only [List.getElem_map, S31.m] at g
      rw [rspan_byte l hr a n need hneed ha k i hlt hn.2 h2 (by omega) acc last (by omega), byteFrom_at need (a + i) _ 0 0 hf, h1, drop31 l j hjl, if_neg (show ¬ n - i ≤ 0 by omega), spanFrom_cons]
      simp only [Nat.zero_add]
      by_cases hva : a + i < (l[j]).f0 * 64
      · rw [if_pos (show a + i < (l[j]).m.va * 64 from hva), if_pos hva, spanT, if_pos (by simp)]
      · rw [if_neg (show ¬ a + i < (l[j]).m.va * 64 from hva), if_neg hva]
        cases hm : (l[j]).m.may need
        · rw [if_neg (show ¬ false = true by simp), if_pos (show false = false from rfl), spanT]
          rw [if_pos (show ((-1 : Int), (0 : Int)).1 < 0 by simp)]
        · rw [if_pos (show true = true from rfl), if_neg (show ¬ true = false by simp)]
          simp only
          rw [if_neg (show ¬ (j : Int) < 0 by omega), if_neg (show ¬ (j : Int) = last by omega), if_pos (show 0 ≤ (j : Int) by omega), if_pos (show (j : Int) < (l.length : Int) by omega)]
          rw [rd31 l j hjl]
          have hoff : (l[j]).m.frm * 64 + (a + i - (l[j]).m.va * 64) = (l[j]).f4 * 64 + (a + i - (l[j]).f0 * 64) := rfl
          rw [hoff]
          have hin := fun (d i k : Nat) (t : Int) => rspan_inner l hr a n need hneed ha hn.2 j hjl hm acc (by omega) ⟨(l[j]).f2, (l[j]).f3, (l[j]).f4 * 64 + (a + i - (l[j]).f0 * 64), 0⟩ d i k t
          have hord : ∀ h : j + 1 < l.length, (l[j]).f0 + (l[j]).f1 ≤ (l[j + 1]).f0 ∧ 1 ≤ (l[j + 1]).f1 := fun h => by
            have h1 := right_order hf j (j + 1) hjm (by simpa using h) (by omega)
            have h2 := good_out (right_good hf (l[j + 1]).m (by rw [List.mem_map]; exact ⟨_, List.getElem_mem h, rfl⟩))
            simp only [List.getElem_map, S31.m] at h1 h2
            exact ⟨h1, h2.1⟩
          have hall : ∀ q (h : q < l.length), q ≤ j → (l[q]).f0 + (l[q]).f1 ≤ (l[j]).f0 + (l[j]).f1 := fun q h hq => by
            rcases Nat.lt_or_ge q j with h3 | h3
            · have h1 := right_order hf q j (by simpa using h) hjm h3
              simp only [List.getElem_map, S31.m] at h1
              omega
            · obtain rfl : q = j := by omega
              exact Int.le_refl _
          generalize hx : l[j] = x at *
          by_cases hle : n - i ≤ x.f1 * 64 - (a + i - x.f0 * 64)
          · rw [if_pos hle]
            obtain ⟨q, hq⟩ : ∃ q : Nat, (q : Int) = n - i - 1 := ⟨(n - i - 1).toNat, by omega⟩
            obtain ⟨K, rfl⟩ : ∃ K, k = K + q := ⟨k - q, by omega⟩
            have h3 := rspan_inner l hr a n need hneed ha hn.2 j hjl (by rw [hx]; exact hm) acc (by omega) ⟨x.f2, x.f3, x.f4 * 64 + (a + i - x.f0 * 64), 0⟩ q (i + 1) K 1 (by omega) (by omega) (by omega) (by omega) (by rw [hx]; omega) (by rw [hx]; omega) (by omega)
            simp only at h3
            rw [h3]
            obtain ⟨K, rfl⟩ : ∃ m, K = m + 1 := ⟨K - 1, by omega⟩
            rw [gatehouseref05_Span.l0, if_neg (by omega), show 1 + (q : Int) = n - i by omega, spanT]
            rfl
          · rw [if_neg hle]
            obtain ⟨q, hq⟩ : ∃ q : Nat, (q : Int) = x.f1 * 64 - (a + i - x.f0 * 64) - 1 := ⟨(x.f1 * 64 - (a + i - x.f0 * 64) - 1).toNat, by omega⟩
            obtain ⟨K, rfl⟩ : ∃ K, k = K + q := ⟨k - q, by omega⟩
            have h3 := rspan_inner l hr a n need hneed ha hn.2 j hjl (by rw [hx]; exact hm) acc (by omega) ⟨x.f2, x.f3, x.f4 * 64 + (a + i - x.f0 * 64), 0⟩ q (i + 1) K 1 (by omega) (by omega) (by omega) (by omega) (by rw [hx]; omega) (by rw [hx]; omega) (by omega)
            simp only at h3
            rw [h3]
            have hpage : (a + ((i + 1 + q : Nat) : Int)) / 64 = x.f0 + x.f1 := by omega
            have hat2 : atI (l.map S31.m) ((a + ((i + 1 + q : Nat) : Int)) / 64) = j + 1 := by
              rw [hpage]
              refine takeWhile_at _ _ (j + 1) (by simp; omega) (fun t h ht => ?_) (fun t h ht => ?_)
              · have := hall t (by simpa using h) (by omega)
                simp only [List.getElem_map, S31.m]
                exact decide_eq_true this
              · have h4 := hord (by simp at h; omega)
                have h5 : (l[j + 1]'(by simp at h; omega)).f0 ≤ (l[t]'(by simpa using h)).f0 := by
                  rcases Nat.lt_or_ge (j + 1) t with h6 | h6
                  · have h7 := right_order hf (j + 1) t (by simp at h ⊢; omega) h h6
                    have h8 := good_out (right_good hf _ (List.getElem_mem (show j + 1 < (l.map S31.m).length by simp at h ⊢; omega)))
                    simp only [List.getElem_map, S31.m] at h7 h8
                    omega
                  · obtain rfl : t = j + 1 := by omega
                    exact Int.le_refl _
                have h9 := good_out (right_good hf _ (List.getElem_mem h))
                simp only [List.getElem_map, S31.m] at h9 ⊢
                exact decide_eq_false (by omega)
            rw [ih K (j + 1) (i + 1 + q) _ j (by omega) (by omega) (by omega) (by simp; omega) (fun _ => ⟨hat2, by omega⟩) (by omega), if_neg (by omega)]
            rw [show a + ((i + 1 + q : Nat) : Int) = a + i + (x.f1 * 64 - (a + i - x.f0 * 64)) by omega, show n - ((i + 1 + q : Nat) : Int) = n - i - (x.f1 * 64 - (a + i - x.f0 * 64)) by omega, show 1 + (q : Int) = x.f1 * 64 - (a + i - x.f0 * 64) by omega]
            cases spanFrom need ((l.map S31.m).drop (j + 1)) (a + i + (x.f1 * 64 - (a + i - x.f0 * 64))) (n - i - (x.f1 * 64 - (a + i - x.f0 * 64))) with
            | none => rfl
            | some ps => simp [spanT, ofPc]
    · rw [gatehouseref05_Span.l0, if_neg hlt, if_pos (by omega)]
theorem rspan_f (l : List S31) (a n need : Int) (ha : 0 ≤ a) (ha2 : a ≤ 18446744073709551615) (k : Nat) (hk : 80000 < k) : gatehouseref05_Span.f k l a n need = some (spanR l a n need) := by
  unfold gatehouseref05_Span.f
  rw [rright_f l k (by omega)]
  simp only [Option.bind_some]
  obtain ⟨k, rfl⟩ : ∃ m, k = m + 1 := ⟨k - 1, by omega⟩
  have bad : ¬ (rightL (l.map S31.m) = true ∧ 1 ≤ n ∧ n ≤ 4096 ∧ 0 ≤ need ∧ need ≤ 2) → spanR l a n need = ([], 1) := fun h => by unfold spanR spanL; rw [if_neg h]; rfl
  cases hr : rightL (l.map S31.m)
  · rw [if_neg (by simp), gatehouseref05_Span.j0, if_pos rfl, bad (by rw [hr]; simp)]
  · rw [if_pos rfl]
    by_cases h1 : n < 1
    · rw [if_pos h1, gatehouseref05_Span.j0, if_pos rfl, bad (by omega)]
    · by_cases h2 : n > 4096
      · rw [if_neg h1, if_pos h2, gatehouseref05_Span.j0, if_pos rfl, bad (by omega)]
      · by_cases h3 : need < 0
        · rw [if_neg h1, if_neg h2, if_pos h3, gatehouseref05_Span.j0, if_pos rfl, bad (by omega)]
        · rw [if_neg h1, if_neg h2, if_neg h3, gatehouseref05_Span.j0]
          by_cases h4 : need > 2
          · rw [decide_eq_true h4, if_pos rfl, bad (by omega)]
          · rw [decide_eq_false h4, if_neg (by simp)]
            have good : spanL (l.map S31.m) a n need = if a < 4294967296 then (match spanFrom need ((l.map S31.m).drop (atI (l.map S31.m) (a / 64))) a n with | none => (none, (9 : Int)) | some ps => (some ps, 0)) else (none, 9) := by
              unfold spanL; rw [if_pos ⟨hr, by omega, by omega, by omega, by omega⟩]; rfl
            have h16 := (rightL_from hr).2
            rw [List.length_map] at h16
            have hal := atI_le (l.map S31.m) (a / 64)
            rw [List.length_map] at hal
            have hrun := rspan_loop l hr a n need ⟨by omega, by omega⟩ ha ha2 ⟨by omega, by omega⟩ (l.length - atI (l.map S31.m) (a / 64)) k (atI (l.map S31.m) (a / 64)) 0 [] (-1) (by omega) (by omega) (by omega) (by simp) (fun _ => ⟨by rw [show a + ((0 : Nat) : Int) = a by omega], by omega⟩) (by omega)
            rw [show ((0 : Nat) : Int) = 0 from rfl] at hrun
            rw [hrun, if_neg (by omega), show a + 0 = a by omega, show n - 0 = n by omega]
            unfold spanR
            by_cases h5 : a < 4294967296
            · rw [good, if_pos h5]
              cases spanFrom need ((l.map S31.m).drop (atI (l.map S31.m) (a / 64))) a n with
              | none => rfl
              | some ps => simp [spanT]
            · rw [good, if_neg h5]
              have : (l.map S31.m).drop (atI (l.map S31.m) (a / 64)) = [] := by
                apply List.drop_eq_nil_of_le
                rcases Nat.lt_or_ge (atI (l.map S31.m) (a / 64)) (l.map S31.m).length with h6 | h6
                · have h7 := Ytcgmlcblcioaeaa.takeWhile_stop (List.getElem?_eq_getElem h6)
                  have h8 := good_out (right_good (rightL_from hr).1 _ (List.getElem_mem h6))
                  omega
                · exact h6
              rw [this, spanFrom]
              rfl
theorem spanR_len (l : List S31) (a n need : Int) (hl : rightL (l.map S31.m) = true → l.length ≤ 16) : (spanR l a n need).1.length ≤ 16 := by
  by_cases h : (spanR l a n need).2 = 0
  · obtain ⟨hr, _, _, _, _, _, qs, hq, he⟩ := spanR_yes h
    have := spanFrom_len _ _ _ _ _ hq
    rw [List.length_drop, List.length_map] at this
    have := hl hr
    rw [he, List.length_map]
    omega
  · rw [spanR_no h]; simp
theorem spans_f (l : List S31) (hmax : l.length ≤ 9223372036854775000) (a n need : Int) (ha : 0 ≤ a) (ha2 : a ≤ 18446744073709551615) : ∃ k, gatehouselaw05_SpaceSpans.f k l a n need = some true := by
  refine ⟨l.length + 100000, ?_⟩
  generalize hK : l.length + 100000 = K
  have hl : rightL (l.map S31.m) = true → l.length ≤ 16 := fun h => by have := (rightL_from h).2; rwa [List.length_map] at this
  unfold gatehouselaw05_SpaceSpans.f
  rw [lives_f K (by omega)]
  simp only [Option.bind_some, if_true]
  rw [span_f l (by omega) a n need ha K (by omega), rspan_f l a n need ha ha2 K (by omega), find_f l (by omega) a need ha K (by omega), rspan_f l a 1 need ha ha2 K (by omega)]
  simp only [Option.bind_some]
  have h1 := spanR_len l a n need hl
  have h2 := spanR_len l a 1 need hl
  rw [if_pos trivial, if_pos trivial, samePieces_f _ _ (by omega) K (by omega), samePieces_f _ _ (by omega) K (by omega)]
  simp
end Go.Proofs.YtcgmlcblcioaeaaP
