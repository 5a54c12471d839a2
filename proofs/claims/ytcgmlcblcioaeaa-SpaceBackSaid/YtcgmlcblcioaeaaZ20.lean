-- Written by a program of this session (gprint.py, over the kit's printer).
import Derived.Test.YtcgmlcblcioaeaaZ0
import Derived.Test.YtcgmlcblcioaeaaZ2
import Derived.Test.YtcgmlcblcioaeaaZ9
import Derived.Test.YtcgmlcblcioaeaaZ18
import Derived.Test.YtcgmlcblcioaeaaZ19
namespace Go.Proofs.YtcgmlcblcioaeaaZ
open Go.RowKit Go.Proofs.YtcgmlcblcioaeaaW.PrintWords Go.Proofs.YtcgmlcblcioaeaaW.PrintLast Go.Proofs.YtcgmlcblcioaeaaW.PrintMore
attribute [local go_sem] max2_int min2_int max_two min_two max_three min_three max_four min_four   -- for this text's walks alone
set_option linter.unusedVariables false
set_option linter.unusedSimpArgs false

attribute [local go_sem high] eqA41
/-! ### gatehouselaw05_SpaceSums: function 6 -/
mutual
def gatehouselaw05_SpaceSums.l0 : Nat → List (S31) → Int → Int → Int → Int → List (S41) → Int → Int → Option (Bool)
  | 0, _, _, _, _, _, _, _, _ => none
  | k + 1, x0, x1, x2, x3, x11, x34, x35, x36 => if x36 < x35 then (if 0 ≤ x36 then (if x36 < (x34.length : Int) then (if ((rd_T41 x34 x36).f3) < 1 then (gatehouselaw05_SpaceSums.j1 k x0 x1 x2 x3 x11 x34 x35 x36 true ((rd_T41 x34 x36).f0) ((rd_T41 x34 x36).f1) ((rd_T41 x34 x36).f2) ((rd_T41 x34 x36).f3)) else (if ((rd_T41 x34 x36).f2) < 0 then (gatehouselaw05_SpaceSums.j1 k x0 x1 x2 x3 x11 x34 x35 x36 true ((rd_T41 x34 x36).f0) ((rd_T41 x34 x36).f1) ((rd_T41 x34 x36).f2) ((rd_T41 x34 x36).f3)) else (gatehouselaw05_SpaceSums.j1 k x0 x1 x2 x3 x11 x34 x35 x36 (decide (((rd_T41 x34 x36).f2) > (wrap64 (4096 - ((rd_T41 x34 x36).f3))))) ((rd_T41 x34 x36).f0) ((rd_T41 x34 x36).f1) ((rd_T41 x34 x36).f2) ((rd_T41 x34 x36).f3)))) else (none)) else (none)) else (some ((IntKind.u64.wrap (x11 - x1)) == (IntKind.u64.wrap (x2))))
def gatehouselaw05_SpaceSums.j1 : Nat → List (S31) → Int → Int → Int → Int → List (S41) → Int → Int → Bool → Int → Int → Int → Int → Option (Bool)
  | 0, _, _, _, _, _, _, _, _, _, _, _, _, _ => none
  | k + 1, x0, x1, x2, x3, x11, x34, x35, x36, x55, x166000, x166001, x166002, x166003 => if x55 = true then (some false) else ((some (([0, wrap64 (Int.tdiv x166003 2), wrap64 (x166003 - 1)] : List Int) : List Int)).bind fun y166 => (gatehouselaw05_SpaceSums.l1 k x0 x1 x2 x3 x11 x34 x35 x36 y166 (y166.length : Int) 0 x166000 x166001 x166002 x166003))
def gatehouselaw05_SpaceSums.l1 : Nat → List (S31) → Int → Int → Int → Int → List (S41) → Int → Int → List Int → Int → Int → Int → Int → Int → Int → Option (Bool)
  | 0, _, _, _, _, _, _, _, _, _, _, _, _, _, _, _ => none
  | k + 1, x0, x1, x2, x3, x11, x34, x35, x36, x62, x63, x64, x166000, x166001, x166002, x166003 => if x64 < x63 then (if 0 ≤ x64 then (if x64 < (x62.length : Int) then ((space_Find.f k x0 (IntKind.u64.wrap (x11 + (IntKind.u64.wrap (rd x62 x64)))) x3).bind fun bt170 => (if bt170.2 = 0 then (if (bt170.1.length : Int) = 1 then (if 0 < (bt170.1.length : Int) then (if (!(((rd_T41 bt170.1 0).f0) == x166000) || (!(((rd_T41 bt170.1 0).f1) == x166001) || (!(((rd_T41 bt170.1 0).f2) == (wrap64 (x166002 + (rd x62 x64)))) || (!(((rd_T41 bt170.1 0).f3) == 1))))) = true then (some false) else (gatehouselaw05_SpaceSums.l1 k x0 x1 x2 x3 x11 x34 x35 x36 x62 x63 (wrap64 (x64 + 1)) x166000 x166001 x166002 x166003)) else (none)) else (some false)) else (some false))) else (none)) else (none)) else (gatehouselaw05_SpaceSums.l0 k x0 x1 x2 x3 (IntKind.u64.wrap (x11 + (IntKind.u64.wrap (x166003)))) x34 x35 (wrap64 (x36 + 1)))
end
def gatehouselaw05_SpaceSums.f (k : Nat) (l0 : List (S31)) (a1 : Int) (a2 : Int) (a3 : Int) : Option (Bool) := (gatehouselaw05_lives.f k).bind fun t159 => (if t159 = true then ((space_Span.f k l0 a1 a2 a3).bind fun bt160 => (if bt160.2 = 0 then (gatehouselaw05_SpaceSums.l0 k l0 a1 a2 a3 a1 bt160.1 (bt160.1.length : Int) 0) else (some ((bt160.1.length : Int) == 0)))) else (some false))
theorem gatehouselaw05_SpaceSums.mono_l : ∀ k, (∀ y0 y1 y2 y3 y4 y5 y6 y7, LeO (gatehouselaw05_SpaceSums.l0 k y0 y1 y2 y3 y4 y5 y6 y7) (gatehouselaw05_SpaceSums.l0 (k + 1) y0 y1 y2 y3 y4 y5 y6 y7)) ∧ (∀ y0 y1 y2 y3 y4 y5 y6 y7 y8 y9 y10 y11 y12, LeO (gatehouselaw05_SpaceSums.j1 k y0 y1 y2 y3 y4 y5 y6 y7 y8 y9 y10 y11 y12) (gatehouselaw05_SpaceSums.j1 (k + 1) y0 y1 y2 y3 y4 y5 y6 y7 y8 y9 y10 y11 y12)) ∧ (∀ y0 y1 y2 y3 y4 y5 y6 y7 y8 y9 y10 y11 y12 y13 y14, LeO (gatehouselaw05_SpaceSums.l1 k y0 y1 y2 y3 y4 y5 y6 y7 y8 y9 y10 y11 y12 y13 y14) (gatehouselaw05_SpaceSums.l1 (k + 1) y0 y1 y2 y3 y4 y5 y6 y7 y8 y9 y10 y11 y12 y13 y14))
  | 0 => ⟨fun _ _ _ _ _ _ _ _ r h => by simp [gatehouselaw05_SpaceSums.l0] at h, fun _ _ _ _ _ _ _ _ _ _ _ _ _ r h => by simp [gatehouselaw05_SpaceSums.j1] at h, fun _ _ _ _ _ _ _ _ _ _ _ _ _ _ _ r h => by simp [gatehouselaw05_SpaceSums.l1] at h⟩
  | k + 1 => by
    obtain ⟨ih0, ih1, ih2⟩ := gatehouselaw05_SpaceSums.mono_l k
    refine ⟨?_, ?_, ?_⟩
    · intro y0 y1 y2 y3 y4 y5 y6 y7
      unfold gatehouselaw05_SpaceSums.l0
      repeat' first
      | (with_reducible exact ih0 _ _ _ _ _ _ _ _)
      | (with_reducible exact ih1 _ _ _ _ _ _ _ _ _ _ _ _ _)
      | (with_reducible exact ih2 _ _ _ _ _ _ _ _ _ _ _ _ _ _ _)
      | (with_reducible exact gatehouselaw05_lives.mono _)
      | (with_reducible exact space_Find.mono _ _ _ _)
      | (with_reducible exact space_Span.mono _ _ _ _ _)
      | (with_reducible exact LeO.refl _)
      | (with_reducible exact LeO.none _)
      | (with_reducible refine LeO.ite ?_ ?_)
      | (with_reducible refine LeO.bind ?_ (fun _ => ?_))
      | exact ih0 _ _ _ _ _ _ _ _
      | exact ih1 _ _ _ _ _ _ _ _ _ _ _ _ _
      | exact ih2 _ _ _ _ _ _ _ _ _ _ _ _ _ _ _
      | exact gatehouselaw05_lives.mono _
      | exact space_Find.mono _ _ _ _
      | exact space_Span.mono _ _ _ _ _
      | exact LeO.none _
      | refine LeO.ite ?_ ?_
      | refine LeO.bind ?_ (fun _ => ?_)
    · intro y0 y1 y2 y3 y4 y5 y6 y7 y8 y9 y10 y11 y12
      unfold gatehouselaw05_SpaceSums.j1
      repeat' first
      | (with_reducible exact ih0 _ _ _ _ _ _ _ _)
      | (with_reducible exact ih1 _ _ _ _ _ _ _ _ _ _ _ _ _)
      | (with_reducible exact ih2 _ _ _ _ _ _ _ _ _ _ _ _ _ _ _)
      | (with_reducible exact gatehouselaw05_lives.mono _)
      | (with_reducible exact space_Find.mono _ _ _ _)
      | (with_reducible exact space_Span.mono _ _ _ _ _)
      | (with_reducible exact LeO.refl _)
      | (with_reducible exact LeO.none _)
      | (with_reducible refine LeO.ite ?_ ?_)
      | (with_reducible refine LeO.bind ?_ (fun _ => ?_))
      | exact ih0 _ _ _ _ _ _ _ _
      | exact ih1 _ _ _ _ _ _ _ _ _ _ _ _ _
      | exact ih2 _ _ _ _ _ _ _ _ _ _ _ _ _ _ _
      | exact gatehouselaw05_lives.mono _
      | exact space_Find.mono _ _ _ _
      | exact space_Span.mono _ _ _ _ _
      | exact LeO.none _
      | refine LeO.ite ?_ ?_
      | refine LeO.bind ?_ (fun _ => ?_)
    · intro y0 y1 y2 y3 y4 y5 y6 y7 y8 y9 y10 y11 y12 y13 y14
      unfold gatehouselaw05_SpaceSums.l1
      repeat' first
      | (with_reducible exact ih0 _ _ _ _ _ _ _ _)
      | (with_reducible exact ih1 _ _ _ _ _ _ _ _ _ _ _ _ _)
      | (with_reducible exact ih2 _ _ _ _ _ _ _ _ _ _ _ _ _ _ _)
      | (with_reducible exact gatehouselaw05_lives.mono _)
      | (with_reducible exact space_Find.mono _ _ _ _)
      | (with_reducible exact space_Span.mono _ _ _ _ _)
      | (with_reducible exact LeO.refl _)
      | (with_reducible exact LeO.none _)
      | (with_reducible refine LeO.ite ?_ ?_)
      | (with_reducible refine LeO.bind ?_ (fun _ => ?_))
      | exact ih0 _ _ _ _ _ _ _ _
      | exact ih1 _ _ _ _ _ _ _ _ _ _ _ _ _
      | exact ih2 _ _ _ _ _ _ _ _ _ _ _ _ _ _ _
      | exact gatehouselaw05_lives.mono _
      | exact space_Find.mono _ _ _ _
      | exact space_Span.mono _ _ _ _ _
      | exact LeO.none _
      | refine LeO.ite ?_ ?_
      | refine LeO.bind ?_ (fun _ => ?_)
theorem gatehouselaw05_SpaceSums.mono : ∀ a0 a1 a2 a3 k, LeO (gatehouselaw05_SpaceSums.f k a0 a1 a2 a3) (gatehouselaw05_SpaceSums.f (k + 1) a0 a1 a2 a3) := by
  intro a0 a1 a2 a3 k
  obtain ⟨ih0, ih1, ih2⟩ := gatehouselaw05_SpaceSums.mono_l k
  unfold gatehouselaw05_SpaceSums.f
  repeat' first
      | (with_reducible exact ih0 _ _ _ _ _ _ _ _)
      | (with_reducible exact ih1 _ _ _ _ _ _ _ _ _ _ _ _ _)
      | (with_reducible exact ih2 _ _ _ _ _ _ _ _ _ _ _ _ _ _ _)
      | (with_reducible exact gatehouselaw05_lives.mono _)
      | (with_reducible exact space_Find.mono _ _ _ _)
      | (with_reducible exact space_Span.mono _ _ _ _ _)
      | (with_reducible exact LeO.refl _)
      | (with_reducible exact LeO.none _)
      | (with_reducible refine LeO.ite ?_ ?_)
      | (with_reducible refine LeO.bind ?_ (fun _ => ?_))
      | exact ih0 _ _ _ _ _ _ _ _
      | exact ih1 _ _ _ _ _ _ _ _ _ _ _ _ _
      | exact ih2 _ _ _ _ _ _ _ _ _ _ _ _ _ _ _
      | exact gatehouselaw05_lives.mono _
      | exact space_Find.mono _ _ _ _
      | exact space_Span.mono _ _ _ _ _
      | exact LeO.none _
      | refine LeO.ite ?_ ?_
      | refine LeO.bind ?_ (fun _ => ?_)
set_option maxHeartbeats 8000000 in
set_option maxRecDepth 100000 in
theorem gatehouselaw05_SpaceSums.calls (k : Nat) (A0 : Option Addr) (c0 : Nat) (l0 : List (S31)) (a1 : Int) (a2 : Int) (a3 : Int) (r : Bool) (w : World) (hr0 : Kd.C k31 w A0 l0.length l0) (hc0 : l0.length ≤ c0) (h : gatehouselaw05_SpaceSums.f k l0 a1 a2 a3 = some r) :
    Calls Try.prog 6 #[.slice A0 l0.length c0, .int .u64 a1, .int .i64 a2, .int .i64 a3] w fun e w' => e = .returned (.bool r) ∧ Below w.heap.size w w' := by
  have hu41 := Try.underlying41
  have HR0 := Aside0.mk hr0
  have HC0 := Aside0.mk hc0
  clear hr0 hc0
  have HB := Aside0.mk (Below.refl w.heap.size w)
  have H : ((gatehouselaw05_lives.f k).bind fun t159 => (if t159 = true then ((space_Span.f k l0 a1 a2 a3).bind fun bt160 => (if bt160.2 = 0 then (gatehouselaw05_SpaceSums.l0 k l0 a1 a2 a3 a1 bt160.1 (bt160.1.length : Int) 0) else (some ((bt160.1.length : Int) == 0)))) else (some false))) = some r := h
  clear h
  replace H := Option.bind_eq_some_iff.mp H
  obtain ⟨t159, A50, H⟩ := H
  replace H : (if t159 = true then ((space_Span.f k l0 a1 a2 a3).bind fun bt160 => (if bt160.2 = 0 then (gatehouselaw05_SpaceSums.l0 k l0 a1 a2 a3 a1 bt160.1 (bt160.1.length : Int) 0) else (some ((bt160.1.length : Int) == 0)))) else (some false)) = some r := H
  have A5 := Aside0.mk A50
  clear A50
  by_cases c6 : t159 = true
  · subst c6
    have H1 : ((space_Span.f k l0 a1 a2 a3).bind fun bt160 => (if bt160.2 = 0 then (gatehouselaw05_SpaceSums.l0 k l0 a1 a2 a3 a1 bt160.1 (bt160.1.length : Int) 0) else (some ((bt160.1.length : Int) == 0)))) = some r := by rw [if_pos rfl] at H; exact H
    clear H
    have H := H1
    clear H1
    replace H := Option.bind_eq_some_iff.mp H
    obtain ⟨⟨t160, t161⟩, A70, H⟩ := H
    replace H : (if t161 = 0 then (gatehouselaw05_SpaceSums.l0 k l0 a1 a2 a3 a1 t160 (t160.length : Int) 0) else (some ((t160.length : Int) == 0))) = some r := H
    have A7 := Aside0.mk A70
    clear A70
    by_cases c8 : t161 = 0
    · rw [if_pos c8] at H
      have c8b0 : (t161 == 0) = true := beq_iff_eq.mpr c8
      have c8b1 : (t161 != 0) = false := bne_eq_false_iff_eq.mpr c8
      clear c8
      have H' := Aside0.mk H
      clear H
      go_enter Try.func6, Try.ntmps6
      go_wp2_with (first | (go_at_call 9; (with_reducible refine (gatehouselaw05_lives.calls k  true _ A5.out).mono ?_); rintro e w9 ⟨rfl, hb⟩; have n0_ := Aside0.mk (below_step (by repeat (first | (with_reducible first | exact HB.out | apply below_alloc | apply pw_below_drewN | apply below_drew1) | exact HB.out)) hb); clear HB; have HB := n0_; clear n0_; (try clear hb); (try clear hb2); (try clear hk); (try clear hi)) | (go_at_call 10; (with_reducible refine (space_Span.calls k _ _ l0 a1 a2 a3 t160 t161 _ ?side1 ?side2 A7.out).mono ?_); (case side1 => repeat (first | exact (Kd.C_below HR0.out HB.out) | (with_reducible refine Kd.C_alloc ?_ _) | (with_reducible refine Kd.C_drewN ?_ _) | (with_reducible refine Kd.C_drew ?_))); (case side2 => exact HC0.out); rintro e w10 ⟨v162, rfl, ho0, hb⟩; have n0_ := Aside0.mk (Kd.R_lower ho0 (below_size (by repeat (first | (with_reducible first | exact HB.out | apply below_alloc | apply pw_below_drewN | apply below_drew1) | exact HB.out)))); have n1_ := Aside0.mk (below_step (by repeat (first | (with_reducible first | exact HB.out | apply below_alloc | apply pw_below_drewN | apply below_drew1) | exact HB.out)) hb); clear HB; have HO163 := n0_; have HB := n1_; clear n0_ n1_; (try clear hb); (try clear hb2); (try clear hk); (try clear hi); (try clear ho0); obtain ⟨Ao11, co11, eo11⟩ := Kd.R_slice HO163.out; subst eo11))
      repeat (go_quiet (first | (go_at_call 9; (with_reducible refine (gatehouselaw05_lives.calls k  true _ A5.out).mono ?_); rintro e w9 ⟨rfl, hb⟩; have n0_ := Aside0.mk (below_step (by repeat (first | (with_reducible first | exact HB.out | apply below_alloc | apply pw_below_drewN | apply below_drew1) | exact HB.out)) hb); clear HB; have HB := n0_; clear n0_; (try clear hb); (try clear hb2); (try clear hk); (try clear hi)) | (go_at_call 10; (with_reducible refine (space_Span.calls k _ _ l0 a1 a2 a3 t160 t161 _ ?side1 ?side2 A7.out).mono ?_); (case side1 => repeat (first | exact (Kd.C_below HR0.out HB.out) | (with_reducible refine Kd.C_alloc ?_ _) | (with_reducible refine Kd.C_drewN ?_ _) | (with_reducible refine Kd.C_drew ?_))); (case side2 => exact HC0.out); rintro e w10 ⟨v162, rfl, ho0, hb⟩; have n0_ := Aside0.mk (Kd.R_lower ho0 (below_size (by repeat (first | (with_reducible first | exact HB.out | apply below_alloc | apply pw_below_drewN | apply below_drew1) | exact HB.out)))); have n1_ := Aside0.mk (below_step (by repeat (first | (with_reducible first | exact HB.out | apply below_alloc | apply pw_below_drewN | apply below_drew1) | exact HB.out)) hb); clear HB; have HO163 := n0_; have HB := n1_; clear n0_ n1_; (try clear hb); (try clear hb2); (try clear hk); (try clear hi); (try clear ho0); obtain ⟨Ao11, co11, eo11⟩ := Kd.R_slice HO163.out; subst eo11)); try go_wp2_with (first | (go_at_call 9; (with_reducible refine (gatehouselaw05_lives.calls k  true _ A5.out).mono ?_); rintro e w9 ⟨rfl, hb⟩; have n0_ := Aside0.mk (below_step (by repeat (first | (with_reducible first | exact HB.out | apply below_alloc | apply pw_below_drewN | apply below_drew1) | exact HB.out)) hb); clear HB; have HB := n0_; clear n0_; (try clear hb); (try clear hb2); (try clear hk); (try clear hi)) | (go_at_call 10; (with_reducible refine (space_Span.calls k _ _ l0 a1 a2 a3 t160 t161 _ ?side1 ?side2 A7.out).mono ?_); (case side1 => repeat (first | exact (Kd.C_below HR0.out HB.out) | (with_reducible refine Kd.C_alloc ?_ _) | (with_reducible refine Kd.C_drewN ?_ _) | (with_reducible refine Kd.C_drew ?_))); (case side2 => exact HC0.out); rintro e w10 ⟨v162, rfl, ho0, hb⟩; have n0_ := Aside0.mk (Kd.R_lower ho0 (below_size (by repeat (first | (with_reducible first | exact HB.out | apply below_alloc | apply pw_below_drewN | apply below_drew1) | exact HB.out)))); have n1_ := Aside0.mk (below_step (by repeat (first | (with_reducible first | exact HB.out | apply below_alloc | apply pw_below_drewN | apply below_drew1) | exact HB.out)) hb); clear HB; have HO163 := n0_; have HB := n1_; clear n0_ n1_; (try clear hb); (try clear hb2); (try clear hk); (try clear hi); (try clear ho0); obtain ⟨Ao11, co11, eo11⟩ := Kd.R_slice HO163.out; subst eo11)))
      go_loopg [11, 36] k (fun kq v11 v36 w' => ∃ (x11_1 : Int) (x36_1 : Int), v11 = .int .u64 x11_1 ∧ v36 = .int .i64 x36_1 ∧ Aside0 (gatehouselaw05_SpaceSums.l0 kq l0 a1 a2 a3 x11_1 t160 (t160.length : Int) x36_1 = some r) ∧ Aside0 (kq ≤ k) ∧ Aside0 (Kd.R k41 41 w' w.heap.size (fun _ => True) (.slice Ao11 t160.length co11) t160) ∧ Aside0 (Below w.heap.size w w'))
      case atStart => exact ⟨(a1), (0), (by first | rfl | (simp; done) | (simp [*]; done)), (by first | rfl | (simp; done) | (simp [*]; done)), H', ⟨Nat.le_refl _⟩, ⟨by (with_reducible repeat (first | apply Kd.R_alloc | apply Kd.R_drewN | apply Kd.R_drew)); exact HO163.out⟩, ⟨by repeat (first | (with_reducible first | exact HB.out | apply below_alloc | apply pw_below_drewN | apply below_drew1) | exact HB.out)⟩⟩
      case round =>
        clear H'
        try clear p2
        try clear c6
        try clear c8
        try clear c8b0
        try clear c8b1
        obtain ⟨x11_1, x36_1, rfl, rfl, HA, HK1, HO_34, HB⟩ := hrel
        cases gk with
        | zero => exact absurd HA.out (by simp [gatehouselaw05_SpaceSums.l0])
        | succ k1 =>
          have H := HA.out
          clear HA
          simp only [gatehouselaw05_SpaceSums.l0] at H
          by_cases c12 : x36_1 < (t160.length : Int)
          · rw [if_pos c12] at H
            have c12b0 : decide (x36_1 < (t160.length : Int)) = true := decide_eq_true c12
            clear c12
            by_cases c13 : 0 ≤ x36_1
            · rw [if_pos c13] at H
              have c13b0 : decide (0 ≤ x36_1) = true := decide_eq_true c13
              clear c13
              by_cases c14 : x36_1 < (t160.length : Int)
              · rw [if_pos c14] at H
                have c14b0 : decide (x36_1 < (t160.length : Int)) = true := decide_eq_true c14
                clear c14
                have HC15 := Aside0.mk H
                clear H
                have p164 : 0 ≤ (x36_1 : Int) := of_decide_eq_true (by first | (with_reducible assumption) | assumption)
                have q164 : x36_1 < (t160.length : Int) := of_decide_eq_true (by first | (with_reducible assumption) | assumption)
                obtain ⟨ad164, e164, hx164_0, hx164_1, hx164_2, hx164_3⟩ := at_T41 (Kd.R_reads' HO_34.out).2.2 x36_1 p164 q164
                cases e164
                replace p164 := eq_true p164
                replace q164 := eq_true q164
                go_upto_region 10 with (first | ((with_reducible refine gate_dst (N := 13) rfl ?_); (try (refine gate_guard (by rfl) ?_; dsimp only)); refine box_event ?hg (N := 13) ?hd (cs := #[.int .i64 0, .int .i64 0, .int .i64 0, .int .i64 0]) (t := 41) ?hr ?_; (case hd => rfl); (case hg => rfl); (case hr => first | (go_simp; done) | (go_simp; rfl)); intro gb165 hg w16 hbox hb; have n0_ := Aside0.mk (Kd.R_below (Kd.R_elderB (by (with_reducible repeat (first | apply Kd.R_alloc | apply Kd.R_drewN | apply Kd.R_drew)); exact HO_34.out) gb165 (Nat.le_of_eq hg.symm)) hb); have n1_ := Aside0.mk (below_step (by repeat (first | (with_reducible first | exact HB.out | apply below_alloc | apply pw_below_drewN | apply below_drew1) | exact HB.out)) hb); have n2_ := Aside0.mk (hbox); have n3_ := Aside0.mk ((by rw [hg]; exact (below_size (by repeat (first | (with_reducible first | exact HB.out | apply below_alloc | apply pw_below_drewN | apply below_drew1) | exact HB.out))) : w.heap.size ≤ gb165)); have n4_ := Aside0.mk ((by rw [hg]; exact (below_size (by repeat (first | (with_reducible first | exact HB.out | apply below_alloc | apply pw_below_drewN | apply below_drew1) | exact HB.out))) : w.heap.size ≤ gb165)); clear HO_34; clear HB; have HO_34 := n0_; have HB := n1_; have BK165 := n2_; have GW165 := n3_; have GE165 := n4_; clear n0_ n1_ n2_ n3_ n4_; clear hb hbox hg; have hcz17_0 : w16.cell? ⟨gb165, 0, none⟩ = some (.int .i64 0) := (blk_cell BK165.out 0).trans rfl; have hcz17_1 : w16.cell? ⟨gb165, 1, none⟩ = some (.int .i64 0) := (blk_cell BK165.out 1).trans rfl; have hcz17_2 : w16.cell? ⟨gb165, 2, none⟩ = some (.int .i64 0) := (blk_cell BK165.out 2).trans rfl; have hcz17_3 : w16.cell? ⟨gb165, 3, none⟩ = some (.int .i64 0) := (blk_cell BK165.out 3).trans rfl; have hfz17_0 := blk_frozen BK165.out 0; have hfz17_1 := blk_frozen BK165.out 1; have hfz17_2 := blk_frozen BK165.out 2; have hfz17_3 := blk_frozen BK165.out 3))
                repeat (go_quiet (first | ((with_reducible refine gate_dst (N := 13) rfl ?_); (try (refine gate_guard (by rfl) ?_; dsimp only)); refine box_event ?hg (N := 13) ?hd (cs := #[.int .i64 0, .int .i64 0, .int .i64 0, .int .i64 0]) (t := 41) ?hr ?_; (case hd => rfl); (case hg => rfl); (case hr => first | (go_simp; done) | (go_simp; rfl)); intro gb165 hg w16 hbox hb; have n0_ := Aside0.mk (Kd.R_below (Kd.R_elderB (by (with_reducible repeat (first | apply Kd.R_alloc | apply Kd.R_drewN | apply Kd.R_drew)); exact HO_34.out) gb165 (Nat.le_of_eq hg.symm)) hb); have n1_ := Aside0.mk (below_step (by repeat (first | (with_reducible first | exact HB.out | apply below_alloc | apply pw_below_drewN | apply below_drew1) | exact HB.out)) hb); have n2_ := Aside0.mk (hbox); have n3_ := Aside0.mk ((by rw [hg]; exact (below_size (by repeat (first | (with_reducible first | exact HB.out | apply below_alloc | apply pw_below_drewN | apply below_drew1) | exact HB.out))) : w.heap.size ≤ gb165)); have n4_ := Aside0.mk ((by rw [hg]; exact (below_size (by repeat (first | (with_reducible first | exact HB.out | apply below_alloc | apply pw_below_drewN | apply below_drew1) | exact HB.out))) : w.heap.size ≤ gb165)); clear HO_34; clear HB; have HO_34 := n0_; have HB := n1_; have BK165 := n2_; have GW165 := n3_; have GE165 := n4_; clear n0_ n1_ n2_ n3_ n4_; clear hb hbox hg; have hcz17_0 : w16.cell? ⟨gb165, 0, none⟩ = some (.int .i64 0) := (blk_cell BK165.out 0).trans rfl; have hcz17_1 : w16.cell? ⟨gb165, 1, none⟩ = some (.int .i64 0) := (blk_cell BK165.out 1).trans rfl; have hcz17_2 : w16.cell? ⟨gb165, 2, none⟩ = some (.int .i64 0) := (blk_cell BK165.out 2).trans rfl; have hcz17_3 : w16.cell? ⟨gb165, 3, none⟩ = some (.int .i64 0) := (blk_cell BK165.out 3).trans rfl; have hfz17_0 := blk_frozen BK165.out 0; have hfz17_1 := blk_frozen BK165.out 1; have hfz17_2 := blk_frozen BK165.out 2; have hfz17_3 := blk_frozen BK165.out 3)); go_upto_region 10 with (first | ((with_reducible refine gate_dst (N := 13) rfl ?_); (try (refine gate_guard (by rfl) ?_; dsimp only)); refine box_event ?hg (N := 13) ?hd (cs := #[.int .i64 0, .int .i64 0, .int .i64 0, .int .i64 0]) (t := 41) ?hr ?_; (case hd => rfl); (case hg => rfl); (case hr => first | (go_simp; done) | (go_simp; rfl)); intro gb165 hg w16 hbox hb; have n0_ := Aside0.mk (Kd.R_below (Kd.R_elderB (by (with_reducible repeat (first | apply Kd.R_alloc | apply Kd.R_drewN | apply Kd.R_drew)); exact HO_34.out) gb165 (Nat.le_of_eq hg.symm)) hb); have n1_ := Aside0.mk (below_step (by repeat (first | (with_reducible first | exact HB.out | apply below_alloc | apply pw_below_drewN | apply below_drew1) | exact HB.out)) hb); have n2_ := Aside0.mk (hbox); have n3_ := Aside0.mk ((by rw [hg]; exact (below_size (by repeat (first | (with_reducible first | exact HB.out | apply below_alloc | apply pw_below_drewN | apply below_drew1) | exact HB.out))) : w.heap.size ≤ gb165)); have n4_ := Aside0.mk ((by rw [hg]; exact (below_size (by repeat (first | (with_reducible first | exact HB.out | apply below_alloc | apply pw_below_drewN | apply below_drew1) | exact HB.out))) : w.heap.size ≤ gb165)); clear HO_34; clear HB; have HO_34 := n0_; have HB := n1_; have BK165 := n2_; have GW165 := n3_; have GE165 := n4_; clear n0_ n1_ n2_ n3_ n4_; clear hb hbox hg; have hcz17_0 : w16.cell? ⟨gb165, 0, none⟩ = some (.int .i64 0) := (blk_cell BK165.out 0).trans rfl; have hcz17_1 : w16.cell? ⟨gb165, 1, none⟩ = some (.int .i64 0) := (blk_cell BK165.out 1).trans rfl; have hcz17_2 : w16.cell? ⟨gb165, 2, none⟩ = some (.int .i64 0) := (blk_cell BK165.out 2).trans rfl; have hcz17_3 : w16.cell? ⟨gb165, 3, none⟩ = some (.int .i64 0) := (blk_cell BK165.out 3).trans rfl; have hfz17_0 := blk_frozen BK165.out 0; have hfz17_1 := blk_frozen BK165.out 1; have hfz17_2 := blk_frozen BK165.out 2; have hfz17_3 := blk_frozen BK165.out 3)))
                (try simp only [Act.put, List.setIfInBounds_toArray, List.set_cons_zero, List.set_cons_succ])
                go_cut [55] (fun v55 wc => ∃ (kq : Nat) (x55_14 : Bool), v55 = .bool x55_14 ∧ Aside0 (gatehouselaw05_SpaceSums.j1 kq l0 a1 a2 a3 x11_1 t160 (t160.length : Int) x36_1 x55_14 ((rd_T41 t160 x36_1).f0) ((rd_T41 t160 x36_1).f1) ((rd_T41 t160 x36_1).f2) ((rd_T41 t160 x36_1).f3) = some r) ∧ Aside0 (kq ≤ k1) ∧ Aside0 (Kd.R k41 41 wc w.heap.size (fun k_ => k_ ≠ gb165) (.slice (some ad164) t160.length co11) t160) ∧ Aside0 (wc.heap[gb165]? = some (.cells #[.int .i64 ((rd_T41 t160 x36_1).f0), .int .i64 ((rd_T41 t160 x36_1).f1), .int .i64 ((rd_T41 t160 x36_1).f2), .int .i64 ((rd_T41 t160 x36_1).f3)] 41 (0, 0))) ∧ Aside0 (Below w.heap.size w wc))
                case first =>
                  have H := HC15.out
                  clear HC15
                  by_cases c18 : ((rd_T41 t160 x36_1).f3) < 1
                  · rw [if_pos c18] at H
                    have c18b0 : decide (((rd_T41 t160 x36_1).f3) < 1) = true := decide_eq_true c18
                    clear c18
                    (first | rw [c18b0] | (simp only [i64_w, i32_w]; rw [c18b0]) | skip)
                    have H' := Aside0.mk H
                    clear H
                    have hcz19_0 : w16.cell? ⟨gb165, 0, none⟩ = some (.int .i64 0) := (blk_cell BK165.out 0).trans rfl
                    have hcz19_1 : w16.cell? ⟨gb165, 1, none⟩ = some (.int .i64 0) := (blk_cell BK165.out 1).trans rfl
                    have hcz19_2 : w16.cell? ⟨gb165, 2, none⟩ = some (.int .i64 0) := (blk_cell BK165.out 2).trans rfl
                    have hcz19_3 : w16.cell? ⟨gb165, 3, none⟩ = some (.int .i64 0) := (blk_cell BK165.out 3).trans rfl
                    have hfz19_0 := blk_frozen BK165.out 0
                    have hfz19_1 := blk_frozen BK165.out 1
                    have hfz19_2 := blk_frozen BK165.out 2
                    have hfz19_3 := blk_frozen BK165.out 3
                    go_wp2
                    repeat (go_quiet (fail); try go_wp2)
                    go_meet
                    case rel => exact ⟨_, (true), (by first | rfl | (simp; done) | (simp [*]; done)), H', ⟨by have := HK1.out; first | omega | exact Nat.le_refl _⟩, ⟨by (with_reducible repeat (first | apply Kd.R_alloc | apply Kd.R_drewN | apply Kd.R_drew)); exact Kd.R_mono (Kd.R_far (p := ⟨gb165, 3, none⟩) (Kd.R_far (p := ⟨gb165, 2, none⟩) (Kd.R_far (p := ⟨gb165, 1, none⟩) (Kd.R_far (p := ⟨gb165, 0, none⟩) (Kd.R_mono HO_34.out (fun k_ hk => (⟨hk, hk.2⟩ : _ ∧ k_ ≠ gb165))) (fun _ hk => hk.2) (.int .i64 ((rd_T41 t160 x36_1).f0))) (fun _ hk => hk.2) (.int .i64 ((rd_T41 t160 x36_1).f1))) (fun _ hk => hk.2) (.int .i64 ((rd_T41 t160 x36_1).f2))) (fun _ hk => hk.2) (.int .i64 ((rd_T41 t160 x36_1).f3))) (fun _ hk => hk.1.2)⟩, ⟨by (with_reducible repeat (first | refine blk_drewN ?_ _ | refine blk_drew ?_ | refine blk_alloc ?_ _)); refine blk_put (cs := #[.int .i64 ((rd_T41 t160 x36_1).f0), .int .i64 ((rd_T41 t160 x36_1).f1), .int .i64 ((rd_T41 t160 x36_1).f2), .int .i64 0]) ?_ 3 _ rfl; (with_reducible repeat (first | refine blk_drewN ?_ _ | refine blk_drew ?_ | refine blk_alloc ?_ _)); refine blk_put (cs := #[.int .i64 ((rd_T41 t160 x36_1).f0), .int .i64 ((rd_T41 t160 x36_1).f1), .int .i64 0, .int .i64 0]) ?_ 2 _ rfl; (with_reducible repeat (first | refine blk_drewN ?_ _ | refine blk_drew ?_ | refine blk_alloc ?_ _)); refine blk_put (cs := #[.int .i64 ((rd_T41 t160 x36_1).f0), .int .i64 0, .int .i64 0, .int .i64 0]) ?_ 1 _ rfl; (with_reducible repeat (first | refine blk_drewN ?_ _ | refine blk_drew ?_ | refine blk_alloc ?_ _)); refine blk_put (cs := #[.int .i64 0, .int .i64 0, .int .i64 0, .int .i64 0]) ?_ 0 _ rfl; (with_reducible repeat (first | refine blk_drewN ?_ _ | refine blk_drew ?_ | refine blk_alloc ?_ _)); exact BK165.out⟩, ⟨by repeat (first | (with_reducible first | exact HB.out | apply below_alloc | apply pw_below_drewN | apply below_drew1 | refine below_set ?_ GE165.out) | exact HB.out)⟩⟩
                  · rw [if_neg c18] at H
                    have c18b0 : decide (((rd_T41 t160 x36_1).f3) < 1) = false := decide_eq_false c18
                    clear c18
                    (first | rw [c18b0] | (simp only [i64_w, i32_w]; rw [c18b0]) | skip)
                    by_cases c20 : ((rd_T41 t160 x36_1).f2) < 0
                    · rw [if_pos c20] at H
                      have c20b0 : decide (((rd_T41 t160 x36_1).f2) < 0) = true := decide_eq_true c20
                      clear c20
                      have H' := Aside0.mk H
                      clear H
                      have hcz21_0 : w16.cell? ⟨gb165, 0, none⟩ = some (.int .i64 0) := (blk_cell BK165.out 0).trans rfl
                      have hcz21_1 : w16.cell? ⟨gb165, 1, none⟩ = some (.int .i64 0) := (blk_cell BK165.out 1).trans rfl
                      have hcz21_2 : w16.cell? ⟨gb165, 2, none⟩ = some (.int .i64 0) := (blk_cell BK165.out 2).trans rfl
                      have hcz21_3 : w16.cell? ⟨gb165, 3, none⟩ = some (.int .i64 0) := (blk_cell BK165.out 3).trans rfl
                      have hfz21_0 := blk_frozen BK165.out 0
                      have hfz21_1 := blk_frozen BK165.out 1
                      have hfz21_2 := blk_frozen BK165.out 2
                      have hfz21_3 := blk_frozen BK165.out 3
                      go_wp2
                      repeat (go_quiet (fail); try go_wp2)
                      go_meet
                      case rel => exact ⟨_, (true), (by first | rfl | (simp; done) | (simp [*]; done)), H', ⟨by have := HK1.out; first | omega | exact Nat.le_refl _⟩, ⟨by (with_reducible repeat (first | apply Kd.R_alloc | apply Kd.R_drewN | apply Kd.R_drew)); exact Kd.R_mono (Kd.R_far (p := ⟨gb165, 3, none⟩) (Kd.R_far (p := ⟨gb165, 2, none⟩) (Kd.R_far (p := ⟨gb165, 1, none⟩) (Kd.R_far (p := ⟨gb165, 0, none⟩) (Kd.R_mono HO_34.out (fun k_ hk => (⟨hk, hk.2⟩ : _ ∧ k_ ≠ gb165))) (fun _ hk => hk.2) (.int .i64 ((rd_T41 t160 x36_1).f0))) (fun _ hk => hk.2) (.int .i64 ((rd_T41 t160 x36_1).f1))) (fun _ hk => hk.2) (.int .i64 ((rd_T41 t160 x36_1).f2))) (fun _ hk => hk.2) (.int .i64 ((rd_T41 t160 x36_1).f3))) (fun _ hk => hk.1.2)⟩, ⟨by (with_reducible repeat (first | refine blk_drewN ?_ _ | refine blk_drew ?_ | refine blk_alloc ?_ _)); refine blk_put (cs := #[.int .i64 ((rd_T41 t160 x36_1).f0), .int .i64 ((rd_T41 t160 x36_1).f1), .int .i64 ((rd_T41 t160 x36_1).f2), .int .i64 0]) ?_ 3 _ rfl; (with_reducible repeat (first | refine blk_drewN ?_ _ | refine blk_drew ?_ | refine blk_alloc ?_ _)); refine blk_put (cs := #[.int .i64 ((rd_T41 t160 x36_1).f0), .int .i64 ((rd_T41 t160 x36_1).f1), .int .i64 0, .int .i64 0]) ?_ 2 _ rfl; (with_reducible repeat (first | refine blk_drewN ?_ _ | refine blk_drew ?_ | refine blk_alloc ?_ _)); refine blk_put (cs := #[.int .i64 ((rd_T41 t160 x36_1).f0), .int .i64 0, .int .i64 0, .int .i64 0]) ?_ 1 _ rfl; (with_reducible repeat (first | refine blk_drewN ?_ _ | refine blk_drew ?_ | refine blk_alloc ?_ _)); refine blk_put (cs := #[.int .i64 0, .int .i64 0, .int .i64 0, .int .i64 0]) ?_ 0 _ rfl; (with_reducible repeat (first | refine blk_drewN ?_ _ | refine blk_drew ?_ | refine blk_alloc ?_ _)); exact BK165.out⟩, ⟨by repeat (first | (with_reducible first | exact HB.out | apply below_alloc | apply pw_below_drewN | apply below_drew1 | refine below_set ?_ GE165.out) | exact HB.out)⟩⟩
                    · rw [if_neg c20] at H
                      have c20b0 : decide (((rd_T41 t160 x36_1).f2) < 0) = false := decide_eq_false c20
                      clear c20
                      have H' := Aside0.mk H
                      clear H
                      have hcz22_0 : w16.cell? ⟨gb165, 0, none⟩ = some (.int .i64 0) := (blk_cell BK165.out 0).trans rfl
                      have hcz22_1 : w16.cell? ⟨gb165, 1, none⟩ = some (.int .i64 0) := (blk_cell BK165.out 1).trans rfl
                      have hcz22_2 : w16.cell? ⟨gb165, 2, none⟩ = some (.int .i64 0) := (blk_cell BK165.out 2).trans rfl
                      have hcz22_3 : w16.cell? ⟨gb165, 3, none⟩ = some (.int .i64 0) := (blk_cell BK165.out 3).trans rfl
                      have hfz22_0 := blk_frozen BK165.out 0
                      have hfz22_1 := blk_frozen BK165.out 1
                      have hfz22_2 := blk_frozen BK165.out 2
                      have hfz22_3 := blk_frozen BK165.out 3
                      go_wp2
                      repeat (go_quiet (fail); try go_wp2)
                      go_meet
                      case rel => exact ⟨_, (decide (((rd_T41 t160 x36_1).f2) > (wrap64 (4096 - ((rd_T41 t160 x36_1).f3))))), (by first | rfl | (simp; done) | (simp [*]; done)), H', ⟨by have := HK1.out; first | omega | exact Nat.le_refl _⟩, ⟨by (with_reducible repeat (first | apply Kd.R_alloc | apply Kd.R_drewN | apply Kd.R_drew)); exact Kd.R_mono (Kd.R_far (p := ⟨gb165, 3, none⟩) (Kd.R_far (p := ⟨gb165, 2, none⟩) (Kd.R_far (p := ⟨gb165, 1, none⟩) (Kd.R_far (p := ⟨gb165, 0, none⟩) (Kd.R_mono HO_34.out (fun k_ hk => (⟨hk, hk.2⟩ : _ ∧ k_ ≠ gb165))) (fun _ hk => hk.2) (.int .i64 ((rd_T41 t160 x36_1).f0))) (fun _ hk => hk.2) (.int .i64 ((rd_T41 t160 x36_1).f1))) (fun _ hk => hk.2) (.int .i64 ((rd_T41 t160 x36_1).f2))) (fun _ hk => hk.2) (.int .i64 ((rd_T41 t160 x36_1).f3))) (fun _ hk => hk.1.2)⟩, ⟨by (with_reducible repeat (first | refine blk_drewN ?_ _ | refine blk_drew ?_ | refine blk_alloc ?_ _)); refine blk_put (cs := #[.int .i64 ((rd_T41 t160 x36_1).f0), .int .i64 ((rd_T41 t160 x36_1).f1), .int .i64 ((rd_T41 t160 x36_1).f2), .int .i64 0]) ?_ 3 _ rfl; (with_reducible repeat (first | refine blk_drewN ?_ _ | refine blk_drew ?_ | refine blk_alloc ?_ _)); refine blk_put (cs := #[.int .i64 ((rd_T41 t160 x36_1).f0), .int .i64 ((rd_T41 t160 x36_1).f1), .int .i64 0, .int .i64 0]) ?_ 2 _ rfl; (with_reducible repeat (first | refine blk_drewN ?_ _ | refine blk_drew ?_ | refine blk_alloc ?_ _)); refine blk_put (cs := #[.int .i64 ((rd_T41 t160 x36_1).f0), .int .i64 0, .int .i64 0, .int .i64 0]) ?_ 1 _ rfl; (with_reducible repeat (first | refine blk_drewN ?_ _ | refine blk_drew ?_ | refine blk_alloc ?_ _)); refine blk_put (cs := #[.int .i64 0, .int .i64 0, .int .i64 0, .int .i64 0]) ?_ 0 _ rfl; (with_reducible repeat (first | refine blk_drewN ?_ _ | refine blk_drew ?_ | refine blk_alloc ?_ _)); exact BK165.out⟩, ⟨by repeat (first | (with_reducible first | exact HB.out | apply below_alloc | apply pw_below_drewN | apply below_drew1 | refine below_set ?_ GE165.out) | exact HB.out)⟩⟩
                case rest =>
                  clear HC15
                  try clear c1
                  try clear p1
                  try clear q1
                  try clear hx1
                  try clear c2
                  try clear p2
                  try clear c6
                  try clear p6
                  try clear c8
                  try clear c8b0
                  try clear c8b1
                  try clear c12
                  try clear c12b0
                  try clear c13
                  try clear c13b0
                  try clear c14
                  try clear c14b0
                  try clear p16
                  try clear q16
                  try clear hx16
                  try clear c18
                  try clear c18b0
                  try clear c20
                  try clear c20b0
                  try clear hcz17_0
                  try clear hcz17_1
                  try clear hcz17_2
                  try clear hcz17_3
                  try clear hcz19_0
                  try clear hcz19_1
                  try clear hcz19_2
                  try clear hcz19_3
                  try clear hcz21_0
                  try clear hcz21_1
                  try clear hcz21_2
                  try clear hcz21_3
                  try clear hcz22_0
                  try clear hcz22_1
                  try clear hcz22_2
                  try clear hcz22_3
                  try clear hfz17_0
                  try clear hfz17_1
                  try clear hfz17_2
                  try clear hfz17_3
                  try clear hfz19_0
                  try clear hfz19_1
                  try clear hfz19_2
                  try clear hfz19_3
                  try clear hfz21_0
                  try clear hfz21_1
                  try clear hfz21_2
                  try clear hfz21_3
                  try clear hfz22_0
                  try clear hfz22_1
                  try clear hfz22_2
                  try clear hfz22_3
                  try clear hx164_0
                  try clear hx164_1
                  try clear hx164_2
                  try clear hx164_3
                  try clear p164
                  try clear p2
                  try clear q164
                  obtain ⟨kq, x55_14, rfl, HA, HJ14, HO_34, BK165, HB⟩ := hcut
                  cases kq with
                  | zero => exact absurd HA.out (by simp [gatehouselaw05_SpaceSums.j1])
                  | succ kj14 =>
                    have H := HA.out
                    clear HA
                    simp only [gatehouselaw05_SpaceSums.j1] at H
                    by_cases c23 : x55_14 = true
                    · subst c23
                      have H1 : (some false) = some r := by rw [if_pos rfl] at H; exact H
                      clear H
                      have H := H1
                      clear H1
                      obtain rfl := Option.some.inj H
                      go_wp2
                      repeat (go_quiet (fail); try go_wp2)
                      go_ret
                      exact ⟨by first | rfl | (simp [errW_none, errW_some] <;> rfl) | (simp [*, errW_none, errW_some] <;> rfl), by repeat (first | (with_reducible first | exact HB.out | apply below_alloc | apply pw_below_drewN | apply below_drew1 | refine below_set ?_ GE165.out) | exact HB.out)⟩
                    · replace c23 := Bool.eq_false_iff.mpr c23
                      subst c23
                      have H1 : ((some (([0, wrap64 (Int.tdiv ((rd_T41 t160 x36_1).f3) 2), wrap64 (((rd_T41 t160 x36_1).f3) - 1)] : List Int) : List Int)).bind fun y166 => (gatehouselaw05_SpaceSums.l1 kj14 l0 a1 a2 a3 x11_1 t160 (t160.length : Int) x36_1 y166 (y166.length : Int) 0 ((rd_T41 t160 x36_1).f0) ((rd_T41 t160 x36_1).f1) ((rd_T41 t160 x36_1).f2) ((rd_T41 t160 x36_1).f3))) = some r := by rw [if_neg (show ¬ (false = true) by decide)] at H; exact H
                      clear H
                      have H := H1
                      clear H1
                      obtain ⟨y166, hy166⟩ : ∃ y_ : List Int, y_ = (([0, wrap64 (Int.tdiv ((rd_T41 t160 x36_1).f3) 2), wrap64 (((rd_T41 t160 x36_1).f3) - 1)] : List Int)) := ⟨_, rfl⟩
                      replace H : (gatehouselaw05_SpaceSums.l1 kj14 l0 a1 a2 a3 x11_1 t160 (t160.length : Int) x36_1 y166 (y166.length : Int) 0 ((rd_T41 t160 x36_1).f0) ((rd_T41 t160 x36_1).f1) ((rd_T41 t160 x36_1).f2) ((rd_T41 t160 x36_1).f3)) = some r := by first | (rw [hy166]; with_reducible exact H) | (have H2_ := (Option.bind_some _ _).symm.trans H; rw [hy166]; with_reducible exact H2_) | (have H2_ := (Option.bind_some _ _).symm.trans H; with_reducible exact H2_) | with_reducible exact H | (rw [hy166]; exact H) | exact H
                      have Ny166 := Aside0.mk hy166
                      clear hy166
                      have H' := Aside0.mk H
                      clear H
                      have hcz24_0 : wc.cell? ⟨gb165, 0, none⟩ = some (.int .i64 ((rd_T41 t160 x36_1).f0)) := (blk_cell BK165.out 0).trans rfl
                      have hcz24_1 : wc.cell? ⟨gb165, 1, none⟩ = some (.int .i64 ((rd_T41 t160 x36_1).f1)) := (blk_cell BK165.out 1).trans rfl
                      have hcz24_2 : wc.cell? ⟨gb165, 2, none⟩ = some (.int .i64 ((rd_T41 t160 x36_1).f2)) := (blk_cell BK165.out 2).trans rfl
                      have hcz24_3 : wc.cell? ⟨gb165, 3, none⟩ = some (.int .i64 ((rd_T41 t160 x36_1).f3)) := (blk_cell BK165.out 3).trans rfl
                      have hfz24_0 := blk_frozen BK165.out 0
                      have hfz24_1 := blk_frozen BK165.out 1
                      have hfz24_2 := blk_frozen BK165.out 2
                      have hfz24_3 := blk_frozen BK165.out 3
                      go_wp2_with (first | ((with_reducible refine gate_dst (N := 62) rfl ?_); (try (refine gate_guard (by rfl) ?_; dsimp only)); refine Kd.R_lit (Kd.int .i64) _ 3 ?hg (N := 62) ?hd (xs := ([0, wrap64 (Int.tdiv ((rd_T41 t160 x36_1).f3) 2), wrap64 (((rd_T41 t160 x36_1).f3) - 1)] : List Int)) (inner := [.int .i64 0, .int .i64 (wrap64 (Int.tdiv ((rd_T41 t160 x36_1).f3) 2)), .int .i64 (wrap64 (((rd_T41 t160 x36_1).f3) - 1))]) (ok := fun _ => True) (okp := fun _ => True) ?hr ?hp (fun _ hk => hk) trivial (Below.refl _ _) (Nat.le_refl _) (by simp) ?_; (case hd => rfl); (case hg => rfl); (case hr => first | (go_simp; done) | (go_simp; rfl)); (case hp => exact (Reps.one (show Kd.M (Kd.int .i64) _ _ _ 0 [.int .i64 0] from rfl) (Reps.one (show Kd.M (Kd.int .i64) _ _ _ (wrap64 (Int.tdiv ((rd_T41 t160 x36_1).f3) 2)) [.int .i64 (wrap64 (Int.tdiv ((rd_T41 t160 x36_1).f3) 2))] from rfl) (Reps.one (show Kd.M (Kd.int .i64) _ _ _ (wrap64 (((rd_T41 t160 x36_1).f3) - 1)) [.int .i64 (wrap64 (((rd_T41 t160 x36_1).f3) - 1))] from rfl) (Reps.none _ _))))); intro v167 w25 ho26 hb hg_ hnew_; clear hg_ hnew_; (first | rw [← Ny166.out] at ho26 | (simp only [Int.reduceToNat] at ho26; rw [← Ny166.out] at ho26)); have n0_ := Aside0.mk (Kd.R_below (by (with_reducible repeat (first | apply Kd.R_alloc | apply Kd.R_drewN | apply Kd.R_drew)); exact HO_34.out) hb); have n1_ := Aside0.mk (Kd.R_lower ho26 (below_size (by repeat (first | (with_reducible first | exact HB.out | apply below_alloc | apply pw_below_drewN | apply below_drew1 | refine below_set ?_ GE165.out) | exact HB.out)))); have n2_ := Aside0.mk (blk_below (g := gb165) (o := .cells #[.int .i64 ((rd_T41 t160 x36_1).f0), .int .i64 ((rd_T41 t160 x36_1).f1), .int .i64 ((rd_T41 t160 x36_1).f2), .int .i64 ((rd_T41 t160 x36_1).f3)] 41 (0, 0)) (by (with_reducible repeat (first | refine blk_drewN ?_ _ | refine blk_drew ?_ | refine blk_alloc ?_ _)); exact BK165.out) hb); have n3_ := Aside0.mk (below_step (by repeat (first | (with_reducible first | exact HB.out | apply below_alloc | apply pw_below_drewN | apply below_drew1 | refine below_set ?_ GE165.out) | exact HB.out)) hb); clear HO_34; clear BK165; clear HB; have HO_34 := n0_; have HO168 := n1_; have BK165 := n2_; have HB := n3_; clear n0_ n1_ n2_ n3_; clear hb ho26; obtain ⟨Ao27, co27, eo27⟩ := Kd.R_slice HO168.out; subst eo27))
                      repeat (go_quiet (first | ((with_reducible refine gate_dst (N := 62) rfl ?_); (try (refine gate_guard (by rfl) ?_; dsimp only)); refine Kd.R_lit (Kd.int .i64) _ 3 ?hg (N := 62) ?hd (xs := ([0, wrap64 (Int.tdiv ((rd_T41 t160 x36_1).f3) 2), wrap64 (((rd_T41 t160 x36_1).f3) - 1)] : List Int)) (inner := [.int .i64 0, .int .i64 (wrap64 (Int.tdiv ((rd_T41 t160 x36_1).f3) 2)), .int .i64 (wrap64 (((rd_T41 t160 x36_1).f3) - 1))]) (ok := fun _ => True) (okp := fun _ => True) ?hr ?hp (fun _ hk => hk) trivial (Below.refl _ _) (Nat.le_refl _) (by simp) ?_; (case hd => rfl); (case hg => rfl); (case hr => first | (go_simp; done) | (go_simp; rfl)); (case hp => exact (Reps.one (show Kd.M (Kd.int .i64) _ _ _ 0 [.int .i64 0] from rfl) (Reps.one (show Kd.M (Kd.int .i64) _ _ _ (wrap64 (Int.tdiv ((rd_T41 t160 x36_1).f3) 2)) [.int .i64 (wrap64 (Int.tdiv ((rd_T41 t160 x36_1).f3) 2))] from rfl) (Reps.one (show Kd.M (Kd.int .i64) _ _ _ (wrap64 (((rd_T41 t160 x36_1).f3) - 1)) [.int .i64 (wrap64 (((rd_T41 t160 x36_1).f3) - 1))] from rfl) (Reps.none _ _))))); intro v167 w25 ho26 hb hg_ hnew_; clear hg_ hnew_; (first | rw [← Ny166.out] at ho26 | (simp only [Int.reduceToNat] at ho26; rw [← Ny166.out] at ho26)); have n0_ := Aside0.mk (Kd.R_below (by (with_reducible repeat (first | apply Kd.R_alloc | apply Kd.R_drewN | apply Kd.R_drew)); exact HO_34.out) hb); have n1_ := Aside0.mk (Kd.R_lower ho26 (below_size (by repeat (first | (with_reducible first | exact HB.out | apply below_alloc | apply pw_below_drewN | apply below_drew1 | refine below_set ?_ GE165.out) | exact HB.out)))); have n2_ := Aside0.mk (blk_below (g := gb165) (o := .cells #[.int .i64 ((rd_T41 t160 x36_1).f0), .int .i64 ((rd_T41 t160 x36_1).f1), .int .i64 ((rd_T41 t160 x36_1).f2), .int .i64 ((rd_T41 t160 x36_1).f3)] 41 (0, 0)) (by (with_reducible repeat (first | refine blk_drewN ?_ _ | refine blk_drew ?_ | refine blk_alloc ?_ _)); exact BK165.out) hb); have n3_ := Aside0.mk (below_step (by repeat (first | (with_reducible first | exact HB.out | apply below_alloc | apply pw_below_drewN | apply below_drew1 | refine below_set ?_ GE165.out) | exact HB.out)) hb); clear HO_34; clear BK165; clear HB; have HO_34 := n0_; have HO168 := n1_; have BK165 := n2_; have HB := n3_; clear n0_ n1_ n2_ n3_; clear hb ho26; obtain ⟨Ao27, co27, eo27⟩ := Kd.R_slice HO168.out; subst eo27)); try go_wp2_with (first | ((with_reducible refine gate_dst (N := 62) rfl ?_); (try (refine gate_guard (by rfl) ?_; dsimp only)); refine Kd.R_lit (Kd.int .i64) _ 3 ?hg (N := 62) ?hd (xs := ([0, wrap64 (Int.tdiv ((rd_T41 t160 x36_1).f3) 2), wrap64 (((rd_T41 t160 x36_1).f3) - 1)] : List Int)) (inner := [.int .i64 0, .int .i64 (wrap64 (Int.tdiv ((rd_T41 t160 x36_1).f3) 2)), .int .i64 (wrap64 (((rd_T41 t160 x36_1).f3) - 1))]) (ok := fun _ => True) (okp := fun _ => True) ?hr ?hp (fun _ hk => hk) trivial (Below.refl _ _) (Nat.le_refl _) (by simp) ?_; (case hd => rfl); (case hg => rfl); (case hr => first | (go_simp; done) | (go_simp; rfl)); (case hp => exact (Reps.one (show Kd.M (Kd.int .i64) _ _ _ 0 [.int .i64 0] from rfl) (Reps.one (show Kd.M (Kd.int .i64) _ _ _ (wrap64 (Int.tdiv ((rd_T41 t160 x36_1).f3) 2)) [.int .i64 (wrap64 (Int.tdiv ((rd_T41 t160 x36_1).f3) 2))] from rfl) (Reps.one (show Kd.M (Kd.int .i64) _ _ _ (wrap64 (((rd_T41 t160 x36_1).f3) - 1)) [.int .i64 (wrap64 (((rd_T41 t160 x36_1).f3) - 1))] from rfl) (Reps.none _ _))))); intro v167 w25 ho26 hb hg_ hnew_; clear hg_ hnew_; (first | rw [← Ny166.out] at ho26 | (simp only [Int.reduceToNat] at ho26; rw [← Ny166.out] at ho26)); have n0_ := Aside0.mk (Kd.R_below (by (with_reducible repeat (first | apply Kd.R_alloc | apply Kd.R_drewN | apply Kd.R_drew)); exact HO_34.out) hb); have n1_ := Aside0.mk (Kd.R_lower ho26 (below_size (by repeat (first | (with_reducible first | exact HB.out | apply below_alloc | apply pw_below_drewN | apply below_drew1 | refine below_set ?_ GE165.out) | exact HB.out)))); have n2_ := Aside0.mk (blk_below (g := gb165) (o := .cells #[.int .i64 ((rd_T41 t160 x36_1).f0), .int .i64 ((rd_T41 t160 x36_1).f1), .int .i64 ((rd_T41 t160 x36_1).f2), .int .i64 ((rd_T41 t160 x36_1).f3)] 41 (0, 0)) (by (with_reducible repeat (first | refine blk_drewN ?_ _ | refine blk_drew ?_ | refine blk_alloc ?_ _)); exact BK165.out) hb); have n3_ := Aside0.mk (below_step (by repeat (first | (with_reducible first | exact HB.out | apply below_alloc | apply pw_below_drewN | apply below_drew1 | refine below_set ?_ GE165.out) | exact HB.out)) hb); clear HO_34; clear BK165; clear HB; have HO_34 := n0_; have HO168 := n1_; have BK165 := n2_; have HB := n3_; clear n0_ n1_ n2_ n3_; clear hb ho26; obtain ⟨Ao27, co27, eo27⟩ := Kd.R_slice HO168.out; subst eo27)))
                      go_loopg [64] kj14 (fun kq v64 w' => ∃ (x64_3 : Int), v64 = .int .i64 x64_3 ∧ Aside0 (gatehouselaw05_SpaceSums.l1 kq l0 a1 a2 a3 x11_1 t160 (t160.length : Int) x36_1 y166 (y166.length : Int) x64_3 ((rd_T41 t160 x36_1).f0) ((rd_T41 t160 x36_1).f1) ((rd_T41 t160 x36_1).f2) ((rd_T41 t160 x36_1).f3) = some r) ∧ Aside0 (kq ≤ kj14) ∧ Aside0 (Kd.R k41 41 w' w.heap.size (fun k_ => k_ ≠ gb165) (.slice (some ad164) t160.length co11) t160) ∧ Aside0 (Kd.R (Kd.int .i64) 3 w' w.heap.size (fun _ => True) (.slice Ao27 y166.length co27) y166) ∧ Aside0 (w'.heap[gb165]? = some (.cells #[.int .i64 ((rd_T41 t160 x36_1).f0), .int .i64 ((rd_T41 t160 x36_1).f1), .int .i64 ((rd_T41 t160 x36_1).f2), .int .i64 ((rd_T41 t160 x36_1).f3)] 41 (0, 0))) ∧ Aside0 (Below w.heap.size w w'))
                      case atStart => exact ⟨(0), (by first | rfl | (simp; done) | (simp [*]; done)), H', ⟨Nat.le_refl _⟩, ⟨by (with_reducible repeat (first | apply Kd.R_alloc | apply Kd.R_drewN | apply Kd.R_drew)); exact HO_34.out⟩, ⟨by (with_reducible repeat (first | apply Kd.R_alloc | apply Kd.R_drewN | apply Kd.R_drew)); exact HO168.out⟩, ⟨by (with_reducible repeat (first | refine blk_drewN ?_ _ | refine blk_drew ?_ | refine blk_alloc ?_ _)); exact BK165.out⟩, ⟨by repeat (first | (with_reducible first | exact HB.out | apply below_alloc | apply pw_below_drewN | apply below_drew1 | refine below_set ?_ GE165.out) | exact HB.out)⟩⟩
                      case round =>
                        clear H'
                        try clear c1
                        try clear p1
                        try clear q1
                        try clear hx1
                        try clear c2
                        try clear p2
                        try clear c6
                        try clear p6
                        try clear c8
                        try clear c8b0
                        try clear c8b1
                        try clear c12
                        try clear c12b0
                        try clear c13
                        try clear c13b0
                        try clear c14
                        try clear c14b0
                        try clear p16
                        try clear q16
                        try clear hx16
                        try clear c18
                        try clear c18b0
                        try clear c20
                        try clear c20b0
                        try clear c23
                        try clear hcz17_0
                        try clear hcz17_1
                        try clear hcz17_2
                        try clear hcz17_3
                        try clear hcz19_0
                        try clear hcz19_1
                        try clear hcz19_2
                        try clear hcz19_3
                        try clear hcz21_0
                        try clear hcz21_1
                        try clear hcz21_2
                        try clear hcz21_3
                        try clear hcz22_0
                        try clear hcz22_1
                        try clear hcz22_2
                        try clear hcz22_3
                        try clear hcz24_0
                        try clear hcz24_1
                        try clear hcz24_2
                        try clear hcz24_3
                        try clear hfz17_0
                        try clear hfz17_1
                        try clear hfz17_2
                        try clear hfz17_3
                        try clear hfz19_0
                        try clear hfz19_1
                        try clear hfz19_2
                        try clear hfz19_3
                        try clear hfz21_0
                        try clear hfz21_1
                        try clear hfz21_2
                        try clear hfz21_3
                        try clear hfz22_0
                        try clear hfz22_1
                        try clear hfz22_2
                        try clear hfz22_3
                        try clear hfz24_0
                        try clear hfz24_1
                        try clear hfz24_2
                        try clear hfz24_3
                        try clear hx164_0
                        try clear hx164_1
                        try clear hx164_2
                        try clear hx164_3
                        try clear p1
                        try clear p16
                        try clear p164
                        try clear p2
                        try clear p6
                        try clear q1
                        try clear q16
                        try clear q164
                        obtain ⟨x64_3, rfl, HA, HK3, HO_34, HO_62, BK165, HB⟩ := hrel
                        cases gk with
                        | zero => exact absurd HA.out (by simp [gatehouselaw05_SpaceSums.l1])
                        | succ k3 =>
                          have H := HA.out
                          clear HA
                          simp only [gatehouselaw05_SpaceSums.l1] at H
                          by_cases c28 : x64_3 < (y166.length : Int)
                          · rw [if_pos c28] at H
                            have c28b0 : decide (x64_3 < (y166.length : Int)) = true := decide_eq_true c28
                            clear c28
                            by_cases c29 : 0 ≤ x64_3
                            · rw [if_pos c29] at H
                              have c29b0 : decide (0 ≤ x64_3) = true := decide_eq_true c29
                              clear c29
                              by_cases c30 : x64_3 < (y166.length : Int)
                              · rw [if_pos c30] at H
                                have c30b0 : decide (x64_3 < (y166.length : Int)) = true := decide_eq_true c30
                                clear c30
                                replace H := Option.bind_eq_some_iff.mp H
                                obtain ⟨⟨t170, t171⟩, A310, H⟩ := H
                                replace H : (if t171 = 0 then (if (t170.length : Int) = 1 then (if 0 < (t170.length : Int) then (if (!(((rd_T41 t170 0).f0) == ((rd_T41 t160 x36_1).f0)) || (!(((rd_T41 t170 0).f1) == ((rd_T41 t160 x36_1).f1)) || (!(((rd_T41 t170 0).f2) == (wrap64 (((rd_T41 t160 x36_1).f2) + (rd y166 x64_3)))) || (!(((rd_T41 t170 0).f3) == 1))))) = true then (some false) else (gatehouselaw05_SpaceSums.l1 k3 l0 a1 a2 a3 x11_1 t160 (t160.length : Int) x36_1 y166 (y166.length : Int) (wrap64 (x64_3 + 1)) ((rd_T41 t160 x36_1).f0) ((rd_T41 t160 x36_1).f1) ((rd_T41 t160 x36_1).f2) ((rd_T41 t160 x36_1).f3))) else (none)) else (some false)) else (some false)) = some r := H
                                have A31 := Aside0.mk A310
                                clear A310
                                by_cases c32 : t171 = 0
                                · rw [if_pos c32] at H
                                  have c32b0 : (t171 == 0) = true := beq_iff_eq.mpr c32
                                  have c32b1 : (t171 != 0) = false := bne_eq_false_iff_eq.mpr c32
                                  clear c32
                                  by_cases c33 : (t170.length : Int) = 1
                                  · rw [if_pos c33] at H
                                    have c33b0 : ((t170.length : Int) == 1) = true := beq_iff_eq.mpr c33
                                    have c33b1 : ((t170.length : Int) != 1) = false := bne_eq_false_iff_eq.mpr c33
                                    clear c33
                                    by_cases c34 : 0 < (t170.length : Int)
                                    · rw [if_pos c34] at H
                                      have c34b0 : decide (0 < (t170.length : Int)) = true := decide_eq_true c34
                                      have c34b1 : decide (0 < t170.length) = true := decide_eq_true (by omega)
                                      clear c34
                                      by_cases c35 : (!(((rd_T41 t170 0).f0) == ((rd_T41 t160 x36_1).f0)) || (!(((rd_T41 t170 0).f1) == ((rd_T41 t160 x36_1).f1)) || (!(((rd_T41 t170 0).f2) == (wrap64 (((rd_T41 t160 x36_1).f2) + (rd y166 x64_3)))) || (!(((rd_T41 t170 0).f3) == 1))))) = true
                                      · rw [if_pos c35] at H
                                        have c35b0 : (!(((rd_T41 t170 0).f0) == ((rd_T41 t160 x36_1).f0)) || (!(((rd_T41 t170 0).f1) == ((rd_T41 t160 x36_1).f1)) || (!(((rd_T41 t170 0).f2) == (wrap64 (((rd_T41 t160 x36_1).f2) + (rd y166 x64_3)))) || (!(((rd_T41 t170 0).f3) == 1))))) = true := c35
                                        clear c35
                                        obtain rfl := Option.some.inj H
                                        have p169 : 0 ≤ (x64_3 : Int) := of_decide_eq_true (by first | (with_reducible assumption) | assumption)
                                        have q169 : x64_3 < (y166.length : Int) := of_decide_eq_true (by first | (with_reducible assumption) | assumption)
                                        obtain ⟨ad169, e169, hx169_0⟩ := Kd.at_int (Kd.R_reads' HO_62.out).2.2 x64_3 p169 q169
                                        cases e169
                                        replace p169 := eq_true p169
                                        replace q169 := eq_true q169
                                        go_wp2_with (first | (go_at_call 14; (with_reducible refine (space_Find.calls k3 _ _ l0 (IntKind.u64.wrap (x11_1 + (IntKind.u64.wrap (rd y166 x64_3)))) a3 t170 t171 _ ?side1 ?side2 A31.out).mono ?_); (case side1 => repeat (first | exact (Kd.C_below HR0.out HB.out) | (with_reducible refine Kd.C_alloc ?_ _) | (with_reducible refine Kd.C_drewN ?_ _) | (with_reducible refine Kd.C_drew ?_))); (case side2 => exact HC0.out); rintro e w36 ⟨v172, rfl, ho0, hb⟩; have n0_ := Aside0.mk (Kd.R_elder' (by (with_reducible repeat (first | apply Kd.R_alloc | apply Kd.R_drewN | apply Kd.R_drew)); exact HO_34.out) (Kd.R_base ho0) hb); have n1_ := Aside0.mk (Kd.R_below (by (with_reducible repeat (first | apply Kd.R_alloc | apply Kd.R_drewN | apply Kd.R_drew)); exact HO_62.out) hb); have n2_ := Aside0.mk (Kd.R_lower (Kd.R_newB (Kd.R_new' ho0 (Kd.R_lt (by (with_reducible repeat (first | apply Kd.R_alloc | apply Kd.R_drewN | apply Kd.R_drew)); exact HO_34.out))) (g := gb165) (o := .cells #[.int .i64 ((rd_T41 t160 x36_1).f0), .int .i64 ((rd_T41 t160 x36_1).f1), .int .i64 ((rd_T41 t160 x36_1).f2), .int .i64 ((rd_T41 t160 x36_1).f3)] 41 (0, 0)) (by (with_reducible repeat (first | refine blk_drewN ?_ _ | refine blk_drew ?_ | refine blk_alloc ?_ _)); exact BK165.out)) (below_size (by repeat (first | (with_reducible first | exact HB.out | apply below_alloc | apply pw_below_drewN | apply below_drew1 | refine below_set ?_ GE165.out) | exact HB.out)))); have n3_ := Aside0.mk (blk_below (g := gb165) (o := .cells #[.int .i64 ((rd_T41 t160 x36_1).f0), .int .i64 ((rd_T41 t160 x36_1).f1), .int .i64 ((rd_T41 t160 x36_1).f2), .int .i64 ((rd_T41 t160 x36_1).f3)] 41 (0, 0)) (by (with_reducible repeat (first | refine blk_drewN ?_ _ | refine blk_drew ?_ | refine blk_alloc ?_ _)); exact BK165.out) hb); have n4_ := Aside0.mk (below_step (by repeat (first | (with_reducible first | exact HB.out | apply below_alloc | apply pw_below_drewN | apply below_drew1 | refine below_set ?_ GE165.out) | exact HB.out)) hb); clear HO_34; clear HO_62; clear BK165; clear HB; have HO_34 := n0_; have HO_62 := n1_; have HO173 := n2_; have BK165 := n3_; have HB := n4_; clear n0_ n1_ n2_ n3_ n4_; (try clear hb); (try clear hb2); (try clear hk); (try clear hi); (try clear ho0); obtain ⟨Ao37, co37, eo37⟩ := Kd.R_slice HO173.out; subst eo37; have p174 : 0 ≤ (0 : Int) := (by omega); have q174 : 0 < (t170.length : Int) := of_decide_eq_true (by first | (with_reducible assumption) | assumption); obtain ⟨ad174, e174, hx174_0, hx174_1, hx174_2, hx174_3⟩ := at_T41 (Kd.R_reads' HO173.out).2.2 0 p174 q174; cases e174; have qi174 : (0 < t170.length) = True := eq_true (by omega); (try rw [show ((0 : Int)).toNat = 0 from rfl] at hx174_0); (try rw [show 0 * 4 = 0 from rfl] at hx174_0); (try rw [Addr.add_zero'] at hx174_0); (try rw [show ((0 : Int)).toNat = 0 from rfl] at hx174_1); (try rw [show 0 * 4 = 0 from rfl] at hx174_1); (try rw [Addr.add_zero'] at hx174_1); (try rw [show ((0 : Int)).toNat = 0 from rfl] at hx174_2); (try rw [show 0 * 4 = 0 from rfl] at hx174_2); (try rw [Addr.add_zero'] at hx174_2); (try rw [show ((0 : Int)).toNat = 0 from rfl] at hx174_3); (try rw [show 0 * 4 = 0 from rfl] at hx174_3); (try rw [Addr.add_zero'] at hx174_3); replace p174 := eq_true p174; replace q174 := eq_true q174; have hcz38_0 : w36.cell? ⟨gb165, 0, none⟩ = some (.int .i64 ((rd_T41 t160 x36_1).f0)) := (blk_cell BK165.out 0).trans rfl; have hcz38_1 : w36.cell? ⟨gb165, 1, none⟩ = some (.int .i64 ((rd_T41 t160 x36_1).f1)) := (blk_cell BK165.out 1).trans rfl; have hcz38_2 : w36.cell? ⟨gb165, 2, none⟩ = some (.int .i64 ((rd_T41 t160 x36_1).f2)) := (blk_cell BK165.out 2).trans rfl; have hcz38_3 : w36.cell? ⟨gb165, 3, none⟩ = some (.int .i64 ((rd_T41 t160 x36_1).f3)) := (blk_cell BK165.out 3).trans rfl; have hfz38_0 := blk_frozen BK165.out 0; have hfz38_1 := blk_frozen BK165.out 1; have hfz38_2 := blk_frozen BK165.out 2; have hfz38_3 := blk_frozen BK165.out 3))
                                        repeat (go_quiet (first | (go_at_call 14; (with_reducible refine (space_Find.calls k3 _ _ l0 (IntKind.u64.wrap (x11_1 + (IntKind.u64.wrap (rd y166 x64_3)))) a3 t170 t171 _ ?side1 ?side2 A31.out).mono ?_); (case side1 => repeat (first | exact (Kd.C_below HR0.out HB.out) | (with_reducible refine Kd.C_alloc ?_ _) | (with_reducible refine Kd.C_drewN ?_ _) | (with_reducible refine Kd.C_drew ?_))); (case side2 => exact HC0.out); rintro e w36 ⟨v172, rfl, ho0, hb⟩; have n0_ := Aside0.mk (Kd.R_elder' (by (with_reducible repeat (first | apply Kd.R_alloc | apply Kd.R_drewN | apply Kd.R_drew)); exact HO_34.out) (Kd.R_base ho0) hb); have n1_ := Aside0.mk (Kd.R_below (by (with_reducible repeat (first | apply Kd.R_alloc | apply Kd.R_drewN | apply Kd.R_drew)); exact HO_62.out) hb); have n2_ := Aside0.mk (Kd.R_lower (Kd.R_newB (Kd.R_new' ho0 (Kd.R_lt (by (with_reducible repeat (first | apply Kd.R_alloc | apply Kd.R_drewN | apply Kd.R_drew)); exact HO_34.out))) (g := gb165) (o := .cells #[.int .i64 ((rd_T41 t160 x36_1).f0), .int .i64 ((rd_T41 t160 x36_1).f1), .int .i64 ((rd_T41 t160 x36_1).f2), .int .i64 ((rd_T41 t160 x36_1).f3)] 41 (0, 0)) (by (with_reducible repeat (first | refine blk_drewN ?_ _ | refine blk_drew ?_ | refine blk_alloc ?_ _)); exact BK165.out)) (below_size (by repeat (first | (with_reducible first | exact HB.out | apply below_alloc | apply pw_below_drewN | apply below_drew1 | refine below_set ?_ GE165.out) | exact HB.out)))); have n3_ := Aside0.mk (blk_below (g := gb165) (o := .cells #[.int .i64 ((rd_T41 t160 x36_1).f0), .int .i64 ((rd_T41 t160 x36_1).f1), .int .i64 ((rd_T41 t160 x36_1).f2), .int .i64 ((rd_T41 t160 x36_1).f3)] 41 (0, 0)) (by (with_reducible repeat (first | refine blk_drewN ?_ _ | refine blk_drew ?_ | refine blk_alloc ?_ _)); exact BK165.out) hb); have n4_ := Aside0.mk (below_step (by repeat (first | (with_reducible first | exact HB.out | apply below_alloc | apply pw_below_drewN | apply below_drew1 | refine below_set ?_ GE165.out) | exact HB.out)) hb); clear HO_34; clear HO_62; clear BK165; clear HB; have HO_34 := n0_; have HO_62 := n1_; have HO173 := n2_; have BK165 := n3_; have HB := n4_; clear n0_ n1_ n2_ n3_ n4_; (try clear hb); (try clear hb2); (try clear hk); (try clear hi); (try clear ho0); obtain ⟨Ao37, co37, eo37⟩ := Kd.R_slice HO173.out; subst eo37; have p174 : 0 ≤ (0 : Int) := (by omega); have q174 : 0 < (t170.length : Int) := of_decide_eq_true (by first | (with_reducible assumption) | assumption); obtain ⟨ad174, e174, hx174_0, hx174_1, hx174_2, hx174_3⟩ := at_T41 (Kd.R_reads' HO173.out).2.2 0 p174 q174; cases e174; have qi174 : (0 < t170.length) = True := eq_true (by omega); (try rw [show ((0 : Int)).toNat = 0 from rfl] at hx174_0); (try rw [show 0 * 4 = 0 from rfl] at hx174_0); (try rw [Addr.add_zero'] at hx174_0); (try rw [show ((0 : Int)).toNat = 0 from rfl] at hx174_1); (try rw [show 0 * 4 = 0 from rfl] at hx174_1); (try rw [Addr.add_zero'] at hx174_1); (try rw [show ((0 : Int)).toNat = 0 from rfl] at hx174_2); (try rw [show 0 * 4 = 0 from rfl] at hx174_2); (try rw [Addr.add_zero'] at hx174_2); (try rw [show ((0 : Int)).toNat = 0 from rfl] at hx174_3); (try rw [show 0 * 4 = 0 from rfl] at hx174_3); (try rw [Addr.add_zero'] at hx174_3); replace p174 := eq_true p174; replace q174 := eq_true q174; have hcz38_0 : w36.cell? ⟨gb165, 0, none⟩ = some (.int .i64 ((rd_T41 t160 x36_1).f0)) := (blk_cell BK165.out 0).trans rfl; have hcz38_1 : w36.cell? ⟨gb165, 1, none⟩ = some (.int .i64 ((rd_T41 t160 x36_1).f1)) := (blk_cell BK165.out 1).trans rfl; have hcz38_2 : w36.cell? ⟨gb165, 2, none⟩ = some (.int .i64 ((rd_T41 t160 x36_1).f2)) := (blk_cell BK165.out 2).trans rfl; have hcz38_3 : w36.cell? ⟨gb165, 3, none⟩ = some (.int .i64 ((rd_T41 t160 x36_1).f3)) := (blk_cell BK165.out 3).trans rfl; have hfz38_0 := blk_frozen BK165.out 0; have hfz38_1 := blk_frozen BK165.out 1; have hfz38_2 := blk_frozen BK165.out 2; have hfz38_3 := blk_frozen BK165.out 3)); try go_wp2_with (first | (go_at_call 14; (with_reducible refine (space_Find.calls k3 _ _ l0 (IntKind.u64.wrap (x11_1 + (IntKind.u64.wrap (rd y166 x64_3)))) a3 t170 t171 _ ?side1 ?side2 A31.out).mono ?_); (case side1 => repeat (first | exact (Kd.C_below HR0.out HB.out) | (with_reducible refine Kd.C_alloc ?_ _) | (with_reducible refine Kd.C_drewN ?_ _) | (with_reducible refine Kd.C_drew ?_))); (case side2 => exact HC0.out); rintro e w36 ⟨v172, rfl, ho0, hb⟩; have n0_ := Aside0.mk (Kd.R_elder' (by (with_reducible repeat (first | apply Kd.R_alloc | apply Kd.R_drewN | apply Kd.R_drew)); exact HO_34.out) (Kd.R_base ho0) hb); have n1_ := Aside0.mk (Kd.R_below (by (with_reducible repeat (first | apply Kd.R_alloc | apply Kd.R_drewN | apply Kd.R_drew)); exact HO_62.out) hb); have n2_ := Aside0.mk (Kd.R_lower (Kd.R_newB (Kd.R_new' ho0 (Kd.R_lt (by (with_reducible repeat (first | apply Kd.R_alloc | apply Kd.R_drewN | apply Kd.R_drew)); exact HO_34.out))) (g := gb165) (o := .cells #[.int .i64 ((rd_T41 t160 x36_1).f0), .int .i64 ((rd_T41 t160 x36_1).f1), .int .i64 ((rd_T41 t160 x36_1).f2), .int .i64 ((rd_T41 t160 x36_1).f3)] 41 (0, 0)) (by (with_reducible repeat (first | refine blk_drewN ?_ _ | refine blk_drew ?_ | refine blk_alloc ?_ _)); exact BK165.out)) (below_size (by repeat (first | (with_reducible first | exact HB.out | apply below_alloc | apply pw_below_drewN | apply below_drew1 | refine below_set ?_ GE165.out) | exact HB.out)))); have n3_ := Aside0.mk (blk_below (g := gb165) (o := .cells #[.int .i64 ((rd_T41 t160 x36_1).f0), .int .i64 ((rd_T41 t160 x36_1).f1), .int .i64 ((rd_T41 t160 x36_1).f2), .int .i64 ((rd_T41 t160 x36_1).f3)] 41 (0, 0)) (by (with_reducible repeat (first | refine blk_drewN ?_ _ | refine blk_drew ?_ | refine blk_alloc ?_ _)); exact BK165.out) hb); have n4_ := Aside0.mk (below_step (by repeat (first | (with_reducible first | exact HB.out | apply below_alloc | apply pw_below_drewN | apply below_drew1 | refine below_set ?_ GE165.out) | exact HB.out)) hb); clear HO_34; clear HO_62; clear BK165; clear HB; have HO_34 := n0_; have HO_62 := n1_; have HO173 := n2_; have BK165 := n3_; have HB := n4_; clear n0_ n1_ n2_ n3_ n4_; (try clear hb); (try clear hb2); (try clear hk); (try clear hi); (try clear ho0); obtain ⟨Ao37, co37, eo37⟩ := Kd.R_slice HO173.out; subst eo37; have p174 : 0 ≤ (0 : Int) := (by omega); have q174 : 0 < (t170.length : Int) := of_decide_eq_true (by first | (with_reducible assumption) | assumption); obtain ⟨ad174, e174, hx174_0, hx174_1, hx174_2, hx174_3⟩ := at_T41 (Kd.R_reads' HO173.out).2.2 0 p174 q174; cases e174; have qi174 : (0 < t170.length) = True := eq_true (by omega); (try rw [show ((0 : Int)).toNat = 0 from rfl] at hx174_0); (try rw [show 0 * 4 = 0 from rfl] at hx174_0); (try rw [Addr.add_zero'] at hx174_0); (try rw [show ((0 : Int)).toNat = 0 from rfl] at hx174_1); (try rw [show 0 * 4 = 0 from rfl] at hx174_1); (try rw [Addr.add_zero'] at hx174_1); (try rw [show ((0 : Int)).toNat = 0 from rfl] at hx174_2); (try rw [show 0 * 4 = 0 from rfl] at hx174_2); (try rw [Addr.add_zero'] at hx174_2); (try rw [show ((0 : Int)).toNat = 0 from rfl] at hx174_3); (try rw [show 0 * 4 = 0 from rfl] at hx174_3); (try rw [Addr.add_zero'] at hx174_3); replace p174 := eq_true p174; replace q174 := eq_true q174; have hcz38_0 : w36.cell? ⟨gb165, 0, none⟩ = some (.int .i64 ((rd_T41 t160 x36_1).f0)) := (blk_cell BK165.out 0).trans rfl; have hcz38_1 : w36.cell? ⟨gb165, 1, none⟩ = some (.int .i64 ((rd_T41 t160 x36_1).f1)) := (blk_cell BK165.out 1).trans rfl; have hcz38_2 : w36.cell? ⟨gb165, 2, none⟩ = some (.int .i64 ((rd_T41 t160 x36_1).f2)) := (blk_cell BK165.out 2).trans rfl; have hcz38_3 : w36.cell? ⟨gb165, 3, none⟩ = some (.int .i64 ((rd_T41 t160 x36_1).f3)) := (blk_cell BK165.out 3).trans rfl; have hfz38_0 := blk_frozen BK165.out 0; have hfz38_1 := blk_frozen BK165.out 1; have hfz38_2 := blk_frozen BK165.out 2; have hfz38_3 := blk_frozen BK165.out 3)))
                                        go_ret
                                        exact ⟨by first | rfl | (simp [errW_none, errW_some] <;> rfl) | (simp [*, errW_none, errW_some] <;> rfl), by repeat (first | (with_reducible first | exact HB.out | apply below_alloc | apply pw_below_drewN | apply below_drew1 | refine below_set ?_ GE165.out) | exact HB.out)⟩
                                      · rw [if_neg c35] at H
                                        have c35b0 : (!(((rd_T41 t170 0).f0) == ((rd_T41 t160 x36_1).f0)) || (!(((rd_T41 t170 0).f1) == ((rd_T41 t160 x36_1).f1)) || (!(((rd_T41 t170 0).f2) == (wrap64 (((rd_T41 t160 x36_1).f2) + (rd y166 x64_3)))) || (!(((rd_T41 t170 0).f3) == 1))))) = false := by simpa using c35
                                        clear c35
                                        have H' := Aside0.mk H
                                        clear H
                                        have p169 : 0 ≤ (x64_3 : Int) := of_decide_eq_true (by first | (with_reducible assumption) | assumption)
                                        have q169 : x64_3 < (y166.length : Int) := of_decide_eq_true (by first | (with_reducible assumption) | assumption)
                                        obtain ⟨ad169, e169, hx169_0⟩ := Kd.at_int (Kd.R_reads' HO_62.out).2.2 x64_3 p169 q169
                                        cases e169
                                        replace p169 := eq_true p169
                                        replace q169 := eq_true q169
                                        go_wp2_with (first | (go_at_call 14; (with_reducible refine (space_Find.calls k3 _ _ l0 (IntKind.u64.wrap (x11_1 + (IntKind.u64.wrap (rd y166 x64_3)))) a3 t170 t171 _ ?side1 ?side2 A31.out).mono ?_); (case side1 => repeat (first | exact (Kd.C_below HR0.out HB.out) | (with_reducible refine Kd.C_alloc ?_ _) | (with_reducible refine Kd.C_drewN ?_ _) | (with_reducible refine Kd.C_drew ?_))); (case side2 => exact HC0.out); rintro e w39 ⟨v172, rfl, ho0, hb⟩; have n0_ := Aside0.mk (Kd.R_elder' (by (with_reducible repeat (first | apply Kd.R_alloc | apply Kd.R_drewN | apply Kd.R_drew)); exact HO_34.out) (Kd.R_base ho0) hb); have n1_ := Aside0.mk (Kd.R_below (by (with_reducible repeat (first | apply Kd.R_alloc | apply Kd.R_drewN | apply Kd.R_drew)); exact HO_62.out) hb); have n2_ := Aside0.mk (Kd.R_lower (Kd.R_newB (Kd.R_new' ho0 (Kd.R_lt (by (with_reducible repeat (first | apply Kd.R_alloc | apply Kd.R_drewN | apply Kd.R_drew)); exact HO_34.out))) (g := gb165) (o := .cells #[.int .i64 ((rd_T41 t160 x36_1).f0), .int .i64 ((rd_T41 t160 x36_1).f1), .int .i64 ((rd_T41 t160 x36_1).f2), .int .i64 ((rd_T41 t160 x36_1).f3)] 41 (0, 0)) (by (with_reducible repeat (first | refine blk_drewN ?_ _ | refine blk_drew ?_ | refine blk_alloc ?_ _)); exact BK165.out)) (below_size (by repeat (first | (with_reducible first | exact HB.out | apply below_alloc | apply pw_below_drewN | apply below_drew1 | refine below_set ?_ GE165.out) | exact HB.out)))); have n3_ := Aside0.mk (blk_below (g := gb165) (o := .cells #[.int .i64 ((rd_T41 t160 x36_1).f0), .int .i64 ((rd_T41 t160 x36_1).f1), .int .i64 ((rd_T41 t160 x36_1).f2), .int .i64 ((rd_T41 t160 x36_1).f3)] 41 (0, 0)) (by (with_reducible repeat (first | refine blk_drewN ?_ _ | refine blk_drew ?_ | refine blk_alloc ?_ _)); exact BK165.out) hb); have n4_ := Aside0.mk (below_step (by repeat (first | (with_reducible first | exact HB.out | apply below_alloc | apply pw_below_drewN | apply below_drew1 | refine below_set ?_ GE165.out) | exact HB.out)) hb); clear HO_34; clear HO_62; clear BK165; clear HB; have HO_34 := n0_; have HO_62 := n1_; have HO173 := n2_; have BK165 := n3_; have HB := n4_; clear n0_ n1_ n2_ n3_ n4_; (try clear hb); (try clear hb2); (try clear hk); (try clear hi); (try clear ho0); obtain ⟨Ao40, co40, eo40⟩ := Kd.R_slice HO173.out; subst eo40; have p174 : 0 ≤ (0 : Int) := (by omega); have q174 : 0 < (t170.length : Int) := of_decide_eq_true (by first | (with_reducible assumption) | assumption); obtain ⟨ad174, e174, hx174_0, hx174_1, hx174_2, hx174_3⟩ := at_T41 (Kd.R_reads' HO173.out).2.2 0 p174 q174; cases e174; have qi174 : (0 < t170.length) = True := eq_true (by omega); (try rw [show ((0 : Int)).toNat = 0 from rfl] at hx174_0); (try rw [show 0 * 4 = 0 from rfl] at hx174_0); (try rw [Addr.add_zero'] at hx174_0); (try rw [show ((0 : Int)).toNat = 0 from rfl] at hx174_1); (try rw [show 0 * 4 = 0 from rfl] at hx174_1); (try rw [Addr.add_zero'] at hx174_1); (try rw [show ((0 : Int)).toNat = 0 from rfl] at hx174_2); (try rw [show 0 * 4 = 0 from rfl] at hx174_2); (try rw [Addr.add_zero'] at hx174_2); (try rw [show ((0 : Int)).toNat = 0 from rfl] at hx174_3); (try rw [show 0 * 4 = 0 from rfl] at hx174_3); (try rw [Addr.add_zero'] at hx174_3); replace p174 := eq_true p174; replace q174 := eq_true q174; have hcz41_0 : w39.cell? ⟨gb165, 0, none⟩ = some (.int .i64 ((rd_T41 t160 x36_1).f0)) := (blk_cell BK165.out 0).trans rfl; have hcz41_1 : w39.cell? ⟨gb165, 1, none⟩ = some (.int .i64 ((rd_T41 t160 x36_1).f1)) := (blk_cell BK165.out 1).trans rfl; have hcz41_2 : w39.cell? ⟨gb165, 2, none⟩ = some (.int .i64 ((rd_T41 t160 x36_1).f2)) := (blk_cell BK165.out 2).trans rfl; have hcz41_3 : w39.cell? ⟨gb165, 3, none⟩ = some (.int .i64 ((rd_T41 t160 x36_1).f3)) := (blk_cell BK165.out 3).trans rfl; have hfz41_0 := blk_frozen BK165.out 0; have hfz41_1 := blk_frozen BK165.out 1; have hfz41_2 := blk_frozen BK165.out 2; have hfz41_3 := blk_frozen BK165.out 3))
                                        repeat (go_quiet (first | (go_at_call 14; (with_reducible refine (space_Find.calls k3 _ _ l0 (IntKind.u64.wrap (x11_1 + (IntKind.u64.wrap (rd y166 x64_3)))) a3 t170 t171 _ ?side1 ?side2 A31.out).mono ?_); (case side1 => repeat (first | exact (Kd.C_below HR0.out HB.out) | (with_reducible refine Kd.C_alloc ?_ _) | (with_reducible refine Kd.C_drewN ?_ _) | (with_reducible refine Kd.C_drew ?_))); (case side2 => exact HC0.out); rintro e w39 ⟨v172, rfl, ho0, hb⟩; have n0_ := Aside0.mk (Kd.R_elder' (by (with_reducible repeat (first | apply Kd.R_alloc | apply Kd.R_drewN | apply Kd.R_drew)); exact HO_34.out) (Kd.R_base ho0) hb); have n1_ := Aside0.mk (Kd.R_below (by (with_reducible repeat (first | apply Kd.R_alloc | apply Kd.R_drewN | apply Kd.R_drew)); exact HO_62.out) hb); have n2_ := Aside0.mk (Kd.R_lower (Kd.R_newB (Kd.R_new' ho0 (Kd.R_lt (by (with_reducible repeat (first | apply Kd.R_alloc | apply Kd.R_drewN | apply Kd.R_drew)); exact HO_34.out))) (g := gb165) (o := .cells #[.int .i64 ((rd_T41 t160 x36_1).f0), .int .i64 ((rd_T41 t160 x36_1).f1), .int .i64 ((rd_T41 t160 x36_1).f2), .int .i64 ((rd_T41 t160 x36_1).f3)] 41 (0, 0)) (by (with_reducible repeat (first | refine blk_drewN ?_ _ | refine blk_drew ?_ | refine blk_alloc ?_ _)); exact BK165.out)) (below_size (by repeat (first | (with_reducible first | exact HB.out | apply below_alloc | apply pw_below_drewN | apply below_drew1 | refine below_set ?_ GE165.out) | exact HB.out)))); have n3_ := Aside0.mk (blk_below (g := gb165) (o := .cells #[.int .i64 ((rd_T41 t160 x36_1).f0), .int .i64 ((rd_T41 t160 x36_1).f1), .int .i64 ((rd_T41 t160 x36_1).f2), .int .i64 ((rd_T41 t160 x36_1).f3)] 41 (0, 0)) (by (with_reducible repeat (first | refine blk_drewN ?_ _ | refine blk_drew ?_ | refine blk_alloc ?_ _)); exact BK165.out) hb); have n4_ := Aside0.mk (below_step (by repeat (first | (with_reducible first | exact HB.out | apply below_alloc | apply pw_below_drewN | apply below_drew1 | refine below_set ?_ GE165.out) | exact HB.out)) hb); clear HO_34; clear HO_62; clear BK165; clear HB; have HO_34 := n0_; have HO_62 := n1_; have HO173 := n2_; have BK165 := n3_; have HB := n4_; clear n0_ n1_ n2_ n3_ n4_; (try clear hb); (try clear hb2); (try clear hk); (try clear hi); (try clear ho0); obtain ⟨Ao40, co40, eo40⟩ := Kd.R_slice HO173.out; subst eo40; have p174 : 0 ≤ (0 : Int) := (by omega); have q174 : 0 < (t170.length : Int) := of_decide_eq_true (by first | (with_reducible assumption) | assumption); obtain ⟨ad174, e174, hx174_0, hx174_1, hx174_2, hx174_3⟩ := at_T41 (Kd.R_reads' HO173.out).2.2 0 p174 q174; cases e174; have qi174 : (0 < t170.length) = True := eq_true (by omega); (try rw [show ((0 : Int)).toNat = 0 from rfl] at hx174_0); (try rw [show 0 * 4 = 0 from rfl] at hx174_0); (try rw [Addr.add_zero'] at hx174_0); (try rw [show ((0 : Int)).toNat = 0 from rfl] at hx174_1); (try rw [show 0 * 4 = 0 from rfl] at hx174_1); (try rw [Addr.add_zero'] at hx174_1); (try rw [show ((0 : Int)).toNat = 0 from rfl] at hx174_2); (try rw [show 0 * 4 = 0 from rfl] at hx174_2); (try rw [Addr.add_zero'] at hx174_2); (try rw [show ((0 : Int)).toNat = 0 from rfl] at hx174_3); (try rw [show 0 * 4 = 0 from rfl] at hx174_3); (try rw [Addr.add_zero'] at hx174_3); replace p174 := eq_true p174; replace q174 := eq_true q174; have hcz41_0 : w39.cell? ⟨gb165, 0, none⟩ = some (.int .i64 ((rd_T41 t160 x36_1).f0)) := (blk_cell BK165.out 0).trans rfl; have hcz41_1 : w39.cell? ⟨gb165, 1, none⟩ = some (.int .i64 ((rd_T41 t160 x36_1).f1)) := (blk_cell BK165.out 1).trans rfl; have hcz41_2 : w39.cell? ⟨gb165, 2, none⟩ = some (.int .i64 ((rd_T41 t160 x36_1).f2)) := (blk_cell BK165.out 2).trans rfl; have hcz41_3 : w39.cell? ⟨gb165, 3, none⟩ = some (.int .i64 ((rd_T41 t160 x36_1).f3)) := (blk_cell BK165.out 3).trans rfl; have hfz41_0 := blk_frozen BK165.out 0; have hfz41_1 := blk_frozen BK165.out 1; have hfz41_2 := blk_frozen BK165.out 2; have hfz41_3 := blk_frozen BK165.out 3)); try go_wp2_with (first | (go_at_call 14; (with_reducible refine (space_Find.calls k3 _ _ l0 (IntKind.u64.wrap (x11_1 + (IntKind.u64.wrap (rd y166 x64_3)))) a3 t170 t171 _ ?side1 ?side2 A31.out).mono ?_); (case side1 => repeat (first | exact (Kd.C_below HR0.out HB.out) | (with_reducible refine Kd.C_alloc ?_ _) | (with_reducible refine Kd.C_drewN ?_ _) | (with_reducible refine Kd.C_drew ?_))); (case side2 => exact HC0.out); rintro e w39 ⟨v172, rfl, ho0, hb⟩; have n0_ := Aside0.mk (Kd.R_elder' (by (with_reducible repeat (first | apply Kd.R_alloc | apply Kd.R_drewN | apply Kd.R_drew)); exact HO_34.out) (Kd.R_base ho0) hb); have n1_ := Aside0.mk (Kd.R_below (by (with_reducible repeat (first | apply Kd.R_alloc | apply Kd.R_drewN | apply Kd.R_drew)); exact HO_62.out) hb); have n2_ := Aside0.mk (Kd.R_lower (Kd.R_newB (Kd.R_new' ho0 (Kd.R_lt (by (with_reducible repeat (first | apply Kd.R_alloc | apply Kd.R_drewN | apply Kd.R_drew)); exact HO_34.out))) (g := gb165) (o := .cells #[.int .i64 ((rd_T41 t160 x36_1).f0), .int .i64 ((rd_T41 t160 x36_1).f1), .int .i64 ((rd_T41 t160 x36_1).f2), .int .i64 ((rd_T41 t160 x36_1).f3)] 41 (0, 0)) (by (with_reducible repeat (first | refine blk_drewN ?_ _ | refine blk_drew ?_ | refine blk_alloc ?_ _)); exact BK165.out)) (below_size (by repeat (first | (with_reducible first | exact HB.out | apply below_alloc | apply pw_below_drewN | apply below_drew1 | refine below_set ?_ GE165.out) | exact HB.out)))); have n3_ := Aside0.mk (blk_below (g := gb165) (o := .cells #[.int .i64 ((rd_T41 t160 x36_1).f0), .int .i64 ((rd_T41 t160 x36_1).f1), .int .i64 ((rd_T41 t160 x36_1).f2), .int .i64 ((rd_T41 t160 x36_1).f3)] 41 (0, 0)) (by (with_reducible repeat (first | refine blk_drewN ?_ _ | refine blk_drew ?_ | refine blk_alloc ?_ _)); exact BK165.out) hb); have n4_ := Aside0.mk (below_step (by repeat (first | (with_reducible first | exact HB.out | apply below_alloc | apply pw_below_drewN | apply below_drew1 | refine below_set ?_ GE165.out) | exact HB.out)) hb); clear HO_34; clear HO_62; clear BK165; clear HB; have HO_34 := n0_; have HO_62 := n1_; have HO173 := n2_; have BK165 := n3_; have HB := n4_; clear n0_ n1_ n2_ n3_ n4_; (try clear hb); (try clear hb2); (try clear hk); (try clear hi); (try clear ho0); obtain ⟨Ao40, co40, eo40⟩ := Kd.R_slice HO173.out; subst eo40; have p174 : 0 ≤ (0 : Int) := (by omega); have q174 : 0 < (t170.length : Int) := of_decide_eq_true (by first | (with_reducible assumption) | assumption); obtain ⟨ad174, e174, hx174_0, hx174_1, hx174_2, hx174_3⟩ := at_T41 (Kd.R_reads' HO173.out).2.2 0 p174 q174; cases e174; have qi174 : (0 < t170.length) = True := eq_true (by omega); (try rw [show ((0 : Int)).toNat = 0 from rfl] at hx174_0); (try rw [show 0 * 4 = 0 from rfl] at hx174_0); (try rw [Addr.add_zero'] at hx174_0); (try rw [show ((0 : Int)).toNat = 0 from rfl] at hx174_1); (try rw [show 0 * 4 = 0 from rfl] at hx174_1); (try rw [Addr.add_zero'] at hx174_1); (try rw [show ((0 : Int)).toNat = 0 from rfl] at hx174_2); (try rw [show 0 * 4 = 0 from rfl] at hx174_2); (try rw [Addr.add_zero'] at hx174_2); (try rw [show ((0 : Int)).toNat = 0 from rfl] at hx174_3); (try rw [show 0 * 4 = 0 from rfl] at hx174_3); (try rw [Addr.add_zero'] at hx174_3); replace p174 := eq_true p174; replace q174 := eq_true q174; have hcz41_0 : w39.cell? ⟨gb165, 0, none⟩ = some (.int .i64 ((rd_T41 t160 x36_1).f0)) := (blk_cell BK165.out 0).trans rfl; have hcz41_1 : w39.cell? ⟨gb165, 1, none⟩ = some (.int .i64 ((rd_T41 t160 x36_1).f1)) := (blk_cell BK165.out 1).trans rfl; have hcz41_2 : w39.cell? ⟨gb165, 2, none⟩ = some (.int .i64 ((rd_T41 t160 x36_1).f2)) := (blk_cell BK165.out 2).trans rfl; have hcz41_3 : w39.cell? ⟨gb165, 3, none⟩ = some (.int .i64 ((rd_T41 t160 x36_1).f3)) := (blk_cell BK165.out 3).trans rfl; have hfz41_0 := blk_frozen BK165.out 0; have hfz41_1 := blk_frozen BK165.out 1; have hfz41_2 := blk_frozen BK165.out 2; have hfz41_3 := blk_frozen BK165.out 3)))
                                        go_roundg k3
                                        case measure => have := HK1.out; have := HJ14.out; have := HK3.out; omega
                                        case rel => exact ⟨(wrap64 (x64_3 + 1)), (by first | rfl | (simp; done) | (simp [*]; done)), H', ⟨by have := HK1.out; have := HJ14.out; have := HK3.out; omega⟩, ⟨by (with_reducible repeat (first | apply Kd.R_alloc | apply Kd.R_drewN | apply Kd.R_drew)); exact Kd.R_mono HO_34.out (fun _ hk => hk.1)⟩, ⟨by (with_reducible repeat (first | apply Kd.R_alloc | apply Kd.R_drewN | apply Kd.R_drew)); exact HO_62.out⟩, ⟨by (with_reducible repeat (first | refine blk_drewN ?_ _ | refine blk_drew ?_ | refine blk_alloc ?_ _)); exact BK165.out⟩, ⟨by repeat (first | (with_reducible first | exact HB.out | apply below_alloc | apply pw_below_drewN | apply below_drew1 | refine below_set ?_ GE165.out) | exact HB.out)⟩⟩
                                    · rw [if_neg c34] at H
                                      exact absurd H (by simp)
                                  · rw [if_neg c33] at H
                                    have c33b0 : ((t170.length : Int) == 1) = false := beq_eq_false_iff_ne.mpr c33
                                    have c33b1 : ((t170.length : Int) != 1) = true := bne_iff_ne.mpr c33
                                    obtain rfl := Option.some.inj H
                                    have p169 : 0 ≤ (x64_3 : Int) := of_decide_eq_true (by first | (with_reducible assumption) | assumption)
                                    have q169 : x64_3 < (y166.length : Int) := of_decide_eq_true (by first | (with_reducible assumption) | assumption)
                                    obtain ⟨ad169, e169, hx169_0⟩ := Kd.at_int (Kd.R_reads' HO_62.out).2.2 x64_3 p169 q169
                                    cases e169
                                    replace p169 := eq_true p169
                                    replace q169 := eq_true q169
                                    go_wp2_with (first | (go_at_call 14; (with_reducible refine (space_Find.calls k3 _ _ l0 (IntKind.u64.wrap (x11_1 + (IntKind.u64.wrap (rd y166 x64_3)))) a3 t170 t171 _ ?side1 ?side2 A31.out).mono ?_); (case side1 => repeat (first | exact (Kd.C_below HR0.out HB.out) | (with_reducible refine Kd.C_alloc ?_ _) | (with_reducible refine Kd.C_drewN ?_ _) | (with_reducible refine Kd.C_drew ?_))); (case side2 => exact HC0.out); rintro e w42 ⟨v172, rfl, ho0, hb⟩; have n0_ := Aside0.mk (Kd.R_elder' (by (with_reducible repeat (first | apply Kd.R_alloc | apply Kd.R_drewN | apply Kd.R_drew)); exact HO_34.out) (Kd.R_base ho0) hb); have n1_ := Aside0.mk (Kd.R_below (by (with_reducible repeat (first | apply Kd.R_alloc | apply Kd.R_drewN | apply Kd.R_drew)); exact HO_62.out) hb); have n2_ := Aside0.mk (Kd.R_lower (Kd.R_newB (Kd.R_new' ho0 (Kd.R_lt (by (with_reducible repeat (first | apply Kd.R_alloc | apply Kd.R_drewN | apply Kd.R_drew)); exact HO_34.out))) (g := gb165) (o := .cells #[.int .i64 ((rd_T41 t160 x36_1).f0), .int .i64 ((rd_T41 t160 x36_1).f1), .int .i64 ((rd_T41 t160 x36_1).f2), .int .i64 ((rd_T41 t160 x36_1).f3)] 41 (0, 0)) (by (with_reducible repeat (first | refine blk_drewN ?_ _ | refine blk_drew ?_ | refine blk_alloc ?_ _)); exact BK165.out)) (below_size (by repeat (first | (with_reducible first | exact HB.out | apply below_alloc | apply pw_below_drewN | apply below_drew1 | refine below_set ?_ GE165.out) | exact HB.out)))); have n3_ := Aside0.mk (blk_below (g := gb165) (o := .cells #[.int .i64 ((rd_T41 t160 x36_1).f0), .int .i64 ((rd_T41 t160 x36_1).f1), .int .i64 ((rd_T41 t160 x36_1).f2), .int .i64 ((rd_T41 t160 x36_1).f3)] 41 (0, 0)) (by (with_reducible repeat (first | refine blk_drewN ?_ _ | refine blk_drew ?_ | refine blk_alloc ?_ _)); exact BK165.out) hb); have n4_ := Aside0.mk (below_step (by repeat (first | (with_reducible first | exact HB.out | apply below_alloc | apply pw_below_drewN | apply below_drew1 | refine below_set ?_ GE165.out) | exact HB.out)) hb); clear HO_34; clear HO_62; clear BK165; clear HB; have HO_34 := n0_; have HO_62 := n1_; have HO173 := n2_; have BK165 := n3_; have HB := n4_; clear n0_ n1_ n2_ n3_ n4_; (try clear hb); (try clear hb2); (try clear hk); (try clear hi); (try clear ho0); obtain ⟨Ao43, co43, eo43⟩ := Kd.R_slice HO173.out; subst eo43))
                                    repeat (go_quiet (first | (go_at_call 14; (with_reducible refine (space_Find.calls k3 _ _ l0 (IntKind.u64.wrap (x11_1 + (IntKind.u64.wrap (rd y166 x64_3)))) a3 t170 t171 _ ?side1 ?side2 A31.out).mono ?_); (case side1 => repeat (first | exact (Kd.C_below HR0.out HB.out) | (with_reducible refine Kd.C_alloc ?_ _) | (with_reducible refine Kd.C_drewN ?_ _) | (with_reducible refine Kd.C_drew ?_))); (case side2 => exact HC0.out); rintro e w42 ⟨v172, rfl, ho0, hb⟩; have n0_ := Aside0.mk (Kd.R_elder' (by (with_reducible repeat (first | apply Kd.R_alloc | apply Kd.R_drewN | apply Kd.R_drew)); exact HO_34.out) (Kd.R_base ho0) hb); have n1_ := Aside0.mk (Kd.R_below (by (with_reducible repeat (first | apply Kd.R_alloc | apply Kd.R_drewN | apply Kd.R_drew)); exact HO_62.out) hb); have n2_ := Aside0.mk (Kd.R_lower (Kd.R_newB (Kd.R_new' ho0 (Kd.R_lt (by (with_reducible repeat (first | apply Kd.R_alloc | apply Kd.R_drewN | apply Kd.R_drew)); exact HO_34.out))) (g := gb165) (o := .cells #[.int .i64 ((rd_T41 t160 x36_1).f0), .int .i64 ((rd_T41 t160 x36_1).f1), .int .i64 ((rd_T41 t160 x36_1).f2), .int .i64 ((rd_T41 t160 x36_1).f3)] 41 (0, 0)) (by (with_reducible repeat (first | refine blk_drewN ?_ _ | refine blk_drew ?_ | refine blk_alloc ?_ _)); exact BK165.out)) (below_size (by repeat (first | (with_reducible first | exact HB.out | apply below_alloc | apply pw_below_drewN | apply below_drew1 | refine below_set ?_ GE165.out) | exact HB.out)))); have n3_ := Aside0.mk (blk_below (g := gb165) (o := .cells #[.int .i64 ((rd_T41 t160 x36_1).f0), .int .i64 ((rd_T41 t160 x36_1).f1), .int .i64 ((rd_T41 t160 x36_1).f2), .int .i64 ((rd_T41 t160 x36_1).f3)] 41 (0, 0)) (by (with_reducible repeat (first | refine blk_drewN ?_ _ | refine blk_drew ?_ | refine blk_alloc ?_ _)); exact BK165.out) hb); have n4_ := Aside0.mk (below_step (by repeat (first | (with_reducible first | exact HB.out | apply below_alloc | apply pw_below_drewN | apply below_drew1 | refine below_set ?_ GE165.out) | exact HB.out)) hb); clear HO_34; clear HO_62; clear BK165; clear HB; have HO_34 := n0_; have HO_62 := n1_; have HO173 := n2_; have BK165 := n3_; have HB := n4_; clear n0_ n1_ n2_ n3_ n4_; (try clear hb); (try clear hb2); (try clear hk); (try clear hi); (try clear ho0); obtain ⟨Ao43, co43, eo43⟩ := Kd.R_slice HO173.out; subst eo43)); try go_wp2_with (first | (go_at_call 14; (with_reducible refine (space_Find.calls k3 _ _ l0 (IntKind.u64.wrap (x11_1 + (IntKind.u64.wrap (rd y166 x64_3)))) a3 t170 t171 _ ?side1 ?side2 A31.out).mono ?_); (case side1 => repeat (first | exact (Kd.C_below HR0.out HB.out) | (with_reducible refine Kd.C_alloc ?_ _) | (with_reducible refine Kd.C_drewN ?_ _) | (with_reducible refine Kd.C_drew ?_))); (case side2 => exact HC0.out); rintro e w42 ⟨v172, rfl, ho0, hb⟩; have n0_ := Aside0.mk (Kd.R_elder' (by (with_reducible repeat (first | apply Kd.R_alloc | apply Kd.R_drewN | apply Kd.R_drew)); exact HO_34.out) (Kd.R_base ho0) hb); have n1_ := Aside0.mk (Kd.R_below (by (with_reducible repeat (first | apply Kd.R_alloc | apply Kd.R_drewN | apply Kd.R_drew)); exact HO_62.out) hb); have n2_ := Aside0.mk (Kd.R_lower (Kd.R_newB (Kd.R_new' ho0 (Kd.R_lt (by (with_reducible repeat (first | apply Kd.R_alloc | apply Kd.R_drewN | apply Kd.R_drew)); exact HO_34.out))) (g := gb165) (o := .cells #[.int .i64 ((rd_T41 t160 x36_1).f0), .int .i64 ((rd_T41 t160 x36_1).f1), .int .i64 ((rd_T41 t160 x36_1).f2), .int .i64 ((rd_T41 t160 x36_1).f3)] 41 (0, 0)) (by (with_reducible repeat (first | refine blk_drewN ?_ _ | refine blk_drew ?_ | refine blk_alloc ?_ _)); exact BK165.out)) (below_size (by repeat (first | (with_reducible first | exact HB.out | apply below_alloc | apply pw_below_drewN | apply below_drew1 | refine below_set ?_ GE165.out) | exact HB.out)))); have n3_ := Aside0.mk (blk_below (g := gb165) (o := .cells #[.int .i64 ((rd_T41 t160 x36_1).f0), .int .i64 ((rd_T41 t160 x36_1).f1), .int .i64 ((rd_T41 t160 x36_1).f2), .int .i64 ((rd_T41 t160 x36_1).f3)] 41 (0, 0)) (by (with_reducible repeat (first | refine blk_drewN ?_ _ | refine blk_drew ?_ | refine blk_alloc ?_ _)); exact BK165.out) hb); have n4_ := Aside0.mk (below_step (by repeat (first | (with_reducible first | exact HB.out | apply below_alloc | apply pw_below_drewN | apply below_drew1 | refine below_set ?_ GE165.out) | exact HB.out)) hb); clear HO_34; clear HO_62; clear BK165; clear HB; have HO_34 := n0_; have HO_62 := n1_; have HO173 := n2_; have BK165 := n3_; have HB := n4_; clear n0_ n1_ n2_ n3_ n4_; (try clear hb); (try clear hb2); (try clear hk); (try clear hi); (try clear ho0); obtain ⟨Ao43, co43, eo43⟩ := Kd.R_slice HO173.out; subst eo43)))
                                    go_ret
                                    exact ⟨by first | rfl | (simp [errW_none, errW_some] <;> rfl) | (simp [*, errW_none, errW_some] <;> rfl), by repeat (first | (with_reducible first | exact HB.out | apply below_alloc | apply pw_below_drewN | apply below_drew1 | refine below_set ?_ GE165.out) | exact HB.out)⟩
                                · rw [if_neg c32] at H
                                  have c32b0 : (t171 == 0) = false := beq_eq_false_iff_ne.mpr c32
                                  have c32b1 : (t171 != 0) = true := bne_iff_ne.mpr c32
                                  obtain rfl := Option.some.inj H
                                  have p169 : 0 ≤ (x64_3 : Int) := of_decide_eq_true (by first | (with_reducible assumption) | assumption)
                                  have q169 : x64_3 < (y166.length : Int) := of_decide_eq_true (by first | (with_reducible assumption) | assumption)
                                  obtain ⟨ad169, e169, hx169_0⟩ := Kd.at_int (Kd.R_reads' HO_62.out).2.2 x64_3 p169 q169
                                  cases e169
                                  replace p169 := eq_true p169
                                  replace q169 := eq_true q169
                                  go_wp2_with (first | (go_at_call 14; (with_reducible refine (space_Find.calls k3 _ _ l0 (IntKind.u64.wrap (x11_1 + (IntKind.u64.wrap (rd y166 x64_3)))) a3 t170 t171 _ ?side1 ?side2 A31.out).mono ?_); (case side1 => repeat (first | exact (Kd.C_below HR0.out HB.out) | (with_reducible refine Kd.C_alloc ?_ _) | (with_reducible refine Kd.C_drewN ?_ _) | (with_reducible refine Kd.C_drew ?_))); (case side2 => exact HC0.out); rintro e w44 ⟨v172, rfl, ho0, hb⟩; have n0_ := Aside0.mk (Kd.R_elder' (by (with_reducible repeat (first | apply Kd.R_alloc | apply Kd.R_drewN | apply Kd.R_drew)); exact HO_34.out) (Kd.R_base ho0) hb); have n1_ := Aside0.mk (Kd.R_below (by (with_reducible repeat (first | apply Kd.R_alloc | apply Kd.R_drewN | apply Kd.R_drew)); exact HO_62.out) hb); have n2_ := Aside0.mk (Kd.R_lower (Kd.R_newB (Kd.R_new' ho0 (Kd.R_lt (by (with_reducible repeat (first | apply Kd.R_alloc | apply Kd.R_drewN | apply Kd.R_drew)); exact HO_34.out))) (g := gb165) (o := .cells #[.int .i64 ((rd_T41 t160 x36_1).f0), .int .i64 ((rd_T41 t160 x36_1).f1), .int .i64 ((rd_T41 t160 x36_1).f2), .int .i64 ((rd_T41 t160 x36_1).f3)] 41 (0, 0)) (by (with_reducible repeat (first | refine blk_drewN ?_ _ | refine blk_drew ?_ | refine blk_alloc ?_ _)); exact BK165.out)) (below_size (by repeat (first | (with_reducible first | exact HB.out | apply below_alloc | apply pw_below_drewN | apply below_drew1 | refine below_set ?_ GE165.out) | exact HB.out)))); have n3_ := Aside0.mk (blk_below (g := gb165) (o := .cells #[.int .i64 ((rd_T41 t160 x36_1).f0), .int .i64 ((rd_T41 t160 x36_1).f1), .int .i64 ((rd_T41 t160 x36_1).f2), .int .i64 ((rd_T41 t160 x36_1).f3)] 41 (0, 0)) (by (with_reducible repeat (first | refine blk_drewN ?_ _ | refine blk_drew ?_ | refine blk_alloc ?_ _)); exact BK165.out) hb); have n4_ := Aside0.mk (below_step (by repeat (first | (with_reducible first | exact HB.out | apply below_alloc | apply pw_below_drewN | apply below_drew1 | refine below_set ?_ GE165.out) | exact HB.out)) hb); clear HO_34; clear HO_62; clear BK165; clear HB; have HO_34 := n0_; have HO_62 := n1_; have HO173 := n2_; have BK165 := n3_; have HB := n4_; clear n0_ n1_ n2_ n3_ n4_; (try clear hb); (try clear hb2); (try clear hk); (try clear hi); (try clear ho0)))
                                  repeat (go_quiet (first | (go_at_call 14; (with_reducible refine (space_Find.calls k3 _ _ l0 (IntKind.u64.wrap (x11_1 + (IntKind.u64.wrap (rd y166 x64_3)))) a3 t170 t171 _ ?side1 ?side2 A31.out).mono ?_); (case side1 => repeat (first | exact (Kd.C_below HR0.out HB.out) | (with_reducible refine Kd.C_alloc ?_ _) | (with_reducible refine Kd.C_drewN ?_ _) | (with_reducible refine Kd.C_drew ?_))); (case side2 => exact HC0.out); rintro e w44 ⟨v172, rfl, ho0, hb⟩; have n0_ := Aside0.mk (Kd.R_elder' (by (with_reducible repeat (first | apply Kd.R_alloc | apply Kd.R_drewN | apply Kd.R_drew)); exact HO_34.out) (Kd.R_base ho0) hb); have n1_ := Aside0.mk (Kd.R_below (by (with_reducible repeat (first | apply Kd.R_alloc | apply Kd.R_drewN | apply Kd.R_drew)); exact HO_62.out) hb); have n2_ := Aside0.mk (Kd.R_lower (Kd.R_newB (Kd.R_new' ho0 (Kd.R_lt (by (with_reducible repeat (first | apply Kd.R_alloc | apply Kd.R_drewN | apply Kd.R_drew)); exact HO_34.out))) (g := gb165) (o := .cells #[.int .i64 ((rd_T41 t160 x36_1).f0), .int .i64 ((rd_T41 t160 x36_1).f1), .int .i64 ((rd_T41 t160 x36_1).f2), .int .i64 ((rd_T41 t160 x36_1).f3)] 41 (0, 0)) (by (with_reducible repeat (first | refine blk_drewN ?_ _ | refine blk_drew ?_ | refine blk_alloc ?_ _)); exact BK165.out)) (below_size (by repeat (first | (with_reducible first | exact HB.out | apply below_alloc | apply pw_below_drewN | apply below_drew1 | refine below_set ?_ GE165.out) | exact HB.out)))); have n3_ := Aside0.mk (blk_below (g := gb165) (o := .cells #[.int .i64 ((rd_T41 t160 x36_1).f0), .int .i64 ((rd_T41 t160 x36_1).f1), .int .i64 ((rd_T41 t160 x36_1).f2), .int .i64 ((rd_T41 t160 x36_1).f3)] 41 (0, 0)) (by (with_reducible repeat (first | refine blk_drewN ?_ _ | refine blk_drew ?_ | refine blk_alloc ?_ _)); exact BK165.out) hb); have n4_ := Aside0.mk (below_step (by repeat (first | (with_reducible first | exact HB.out | apply below_alloc | apply pw_below_drewN | apply below_drew1 | refine below_set ?_ GE165.out) | exact HB.out)) hb); clear HO_34; clear HO_62; clear BK165; clear HB; have HO_34 := n0_; have HO_62 := n1_; have HO173 := n2_; have BK165 := n3_; have HB := n4_; clear n0_ n1_ n2_ n3_ n4_; (try clear hb); (try clear hb2); (try clear hk); (try clear hi); (try clear ho0))); try go_wp2_with (first | (go_at_call 14; (with_reducible refine (space_Find.calls k3 _ _ l0 (IntKind.u64.wrap (x11_1 + (IntKind.u64.wrap (rd y166 x64_3)))) a3 t170 t171 _ ?side1 ?side2 A31.out).mono ?_); (case side1 => repeat (first | exact (Kd.C_below HR0.out HB.out) | (with_reducible refine Kd.C_alloc ?_ _) | (with_reducible refine Kd.C_drewN ?_ _) | (with_reducible refine Kd.C_drew ?_))); (case side2 => exact HC0.out); rintro e w44 ⟨v172, rfl, ho0, hb⟩; have n0_ := Aside0.mk (Kd.R_elder' (by (with_reducible repeat (first | apply Kd.R_alloc | apply Kd.R_drewN | apply Kd.R_drew)); exact HO_34.out) (Kd.R_base ho0) hb); have n1_ := Aside0.mk (Kd.R_below (by (with_reducible repeat (first | apply Kd.R_alloc | apply Kd.R_drewN | apply Kd.R_drew)); exact HO_62.out) hb); have n2_ := Aside0.mk (Kd.R_lower (Kd.R_newB (Kd.R_new' ho0 (Kd.R_lt (by (with_reducible repeat (first | apply Kd.R_alloc | apply Kd.R_drewN | apply Kd.R_drew)); exact HO_34.out))) (g := gb165) (o := .cells #[.int .i64 ((rd_T41 t160 x36_1).f0), .int .i64 ((rd_T41 t160 x36_1).f1), .int .i64 ((rd_T41 t160 x36_1).f2), .int .i64 ((rd_T41 t160 x36_1).f3)] 41 (0, 0)) (by (with_reducible repeat (first | refine blk_drewN ?_ _ | refine blk_drew ?_ | refine blk_alloc ?_ _)); exact BK165.out)) (below_size (by repeat (first | (with_reducible first | exact HB.out | apply below_alloc | apply pw_below_drewN | apply below_drew1 | refine below_set ?_ GE165.out) | exact HB.out)))); have n3_ := Aside0.mk (blk_below (g := gb165) (o := .cells #[.int .i64 ((rd_T41 t160 x36_1).f0), .int .i64 ((rd_T41 t160 x36_1).f1), .int .i64 ((rd_T41 t160 x36_1).f2), .int .i64 ((rd_T41 t160 x36_1).f3)] 41 (0, 0)) (by (with_reducible repeat (first | refine blk_drewN ?_ _ | refine blk_drew ?_ | refine blk_alloc ?_ _)); exact BK165.out) hb); have n4_ := Aside0.mk (below_step (by repeat (first | (with_reducible first | exact HB.out | apply below_alloc | apply pw_below_drewN | apply below_drew1 | refine below_set ?_ GE165.out) | exact HB.out)) hb); clear HO_34; clear HO_62; clear BK165; clear HB; have HO_34 := n0_; have HO_62 := n1_; have HO173 := n2_; have BK165 := n3_; have HB := n4_; clear n0_ n1_ n2_ n3_ n4_; (try clear hb); (try clear hb2); (try clear hk); (try clear hi); (try clear ho0))))
                                  go_ret
                                  exact ⟨by first | rfl | (simp [errW_none, errW_some] <;> rfl) | (simp [*, errW_none, errW_some] <;> rfl), by repeat (first | (with_reducible first | exact HB.out | apply below_alloc | apply pw_below_drewN | apply below_drew1 | refine below_set ?_ GE165.out) | exact HB.out)⟩
                              · rw [if_neg c30] at H
                                exact absurd H (by simp)
                            · rw [if_neg c29] at H
                              exact absurd H (by simp)
                          · rw [if_neg c28] at H
                            have c28b0 : decide (x64_3 < (y166.length : Int)) = false := decide_eq_false c28
                            clear c28
                            have H' := Aside0.mk H
                            clear H
                            have hcz45_0 : wr.cell? ⟨gb165, 0, none⟩ = some (.int .i64 ((rd_T41 t160 x36_1).f0)) := (blk_cell BK165.out 0).trans rfl
                            have hcz45_1 : wr.cell? ⟨gb165, 1, none⟩ = some (.int .i64 ((rd_T41 t160 x36_1).f1)) := (blk_cell BK165.out 1).trans rfl
                            have hcz45_2 : wr.cell? ⟨gb165, 2, none⟩ = some (.int .i64 ((rd_T41 t160 x36_1).f2)) := (blk_cell BK165.out 2).trans rfl
                            have hcz45_3 : wr.cell? ⟨gb165, 3, none⟩ = some (.int .i64 ((rd_T41 t160 x36_1).f3)) := (blk_cell BK165.out 3).trans rfl
                            have hfz45_0 := blk_frozen BK165.out 0
                            have hfz45_1 := blk_frozen BK165.out 1
                            have hfz45_2 := blk_frozen BK165.out 2
                            have hfz45_3 := blk_frozen BK165.out 3
                            go_wp2
                            repeat (go_quiet (fail); try go_wp2)
                            go_roundg k3
                            case measure => have := HK1.out; have := HJ14.out; have := HK3.out; omega
                            case rel => exact ⟨(IntKind.u64.wrap (x11_1 + (IntKind.u64.wrap (((rd_T41 t160 x36_1).f3))))), (wrap64 (x36_1 + 1)), (by first | rfl | (simp; done) | (simp [*]; done)), (by first | rfl | (simp; done) | (simp [*]; done)), H', ⟨by have := HK1.out; have := HJ14.out; have := HK3.out; omega⟩, ⟨by (with_reducible repeat (first | apply Kd.R_alloc | apply Kd.R_drewN | apply Kd.R_drew)); exact Kd.R_mono HO_34.out (fun _ hk => trivial)⟩, ⟨by repeat (first | (with_reducible first | exact HB.out | apply below_alloc | apply pw_below_drewN | apply below_drew1 | refine below_set ?_ GE165.out) | exact HB.out)⟩⟩
              · rw [if_neg c14] at H
                exact absurd H (by simp)
            · rw [if_neg c13] at H
              exact absurd H (by simp)
          · rw [if_neg c12] at H
            have c12b0 : decide (x36_1 < (t160.length : Int)) = false := decide_eq_false c12
            clear c12
            obtain rfl := Option.some.inj H
            go_wp2
            repeat (go_quiet (fail); try go_wp2)
            go_ret
            exact ⟨by first | rfl | (simp [errW_none, errW_some] <;> rfl) | (simp [*, errW_none, errW_some] <;> rfl), by repeat (first | (with_reducible first | exact HB.out | apply below_alloc | apply pw_below_drewN | apply below_drew1) | exact HB.out)⟩
    · rw [if_neg c8] at H
      have c8b0 : (t161 == 0) = false := beq_eq_false_iff_ne.mpr c8
      have c8b1 : (t161 != 0) = true := bne_iff_ne.mpr c8
      obtain rfl := Option.some.inj H
      go_enter Try.func6, Try.ntmps6
      go_wp2_with (first | (go_at_call 9; (with_reducible refine (gatehouselaw05_lives.calls k  true _ A5.out).mono ?_); rintro e w46 ⟨rfl, hb⟩; have n0_ := Aside0.mk (below_step (by repeat (first | (with_reducible first | exact HB.out | apply below_alloc | apply pw_below_drewN | apply below_drew1) | exact HB.out)) hb); clear HB; have HB := n0_; clear n0_; (try clear hb); (try clear hb2); (try clear hk); (try clear hi)) | (go_at_call 10; (with_reducible refine (space_Span.calls k _ _ l0 a1 a2 a3 t160 t161 _ ?side1 ?side2 A7.out).mono ?_); (case side1 => repeat (first | exact (Kd.C_below HR0.out HB.out) | (with_reducible refine Kd.C_alloc ?_ _) | (with_reducible refine Kd.C_drewN ?_ _) | (with_reducible refine Kd.C_drew ?_))); (case side2 => exact HC0.out); rintro e w47 ⟨v162, rfl, ho0, hb⟩; have n0_ := Aside0.mk (Kd.R_lower ho0 (below_size (by repeat (first | (with_reducible first | exact HB.out | apply below_alloc | apply pw_below_drewN | apply below_drew1) | exact HB.out)))); have n1_ := Aside0.mk (below_step (by repeat (first | (with_reducible first | exact HB.out | apply below_alloc | apply pw_below_drewN | apply below_drew1) | exact HB.out)) hb); clear HB; have HO163 := n0_; have HB := n1_; clear n0_ n1_; (try clear hb); (try clear hb2); (try clear hk); (try clear hi); (try clear ho0); obtain ⟨Ao48, co48, eo48⟩ := Kd.R_slice HO163.out; subst eo48))
      repeat (go_quiet (first | (go_at_call 9; (with_reducible refine (gatehouselaw05_lives.calls k  true _ A5.out).mono ?_); rintro e w46 ⟨rfl, hb⟩; have n0_ := Aside0.mk (below_step (by repeat (first | (with_reducible first | exact HB.out | apply below_alloc | apply pw_below_drewN | apply below_drew1) | exact HB.out)) hb); clear HB; have HB := n0_; clear n0_; (try clear hb); (try clear hb2); (try clear hk); (try clear hi)) | (go_at_call 10; (with_reducible refine (space_Span.calls k _ _ l0 a1 a2 a3 t160 t161 _ ?side1 ?side2 A7.out).mono ?_); (case side1 => repeat (first | exact (Kd.C_below HR0.out HB.out) | (with_reducible refine Kd.C_alloc ?_ _) | (with_reducible refine Kd.C_drewN ?_ _) | (with_reducible refine Kd.C_drew ?_))); (case side2 => exact HC0.out); rintro e w47 ⟨v162, rfl, ho0, hb⟩; have n0_ := Aside0.mk (Kd.R_lower ho0 (below_size (by repeat (first | (with_reducible first | exact HB.out | apply below_alloc | apply pw_below_drewN | apply below_drew1) | exact HB.out)))); have n1_ := Aside0.mk (below_step (by repeat (first | (with_reducible first | exact HB.out | apply below_alloc | apply pw_below_drewN | apply below_drew1) | exact HB.out)) hb); clear HB; have HO163 := n0_; have HB := n1_; clear n0_ n1_; (try clear hb); (try clear hb2); (try clear hk); (try clear hi); (try clear ho0); obtain ⟨Ao48, co48, eo48⟩ := Kd.R_slice HO163.out; subst eo48)); try go_wp2_with (first | (go_at_call 9; (with_reducible refine (gatehouselaw05_lives.calls k  true _ A5.out).mono ?_); rintro e w46 ⟨rfl, hb⟩; have n0_ := Aside0.mk (below_step (by repeat (first | (with_reducible first | exact HB.out | apply below_alloc | apply pw_below_drewN | apply below_drew1) | exact HB.out)) hb); clear HB; have HB := n0_; clear n0_; (try clear hb); (try clear hb2); (try clear hk); (try clear hi)) | (go_at_call 10; (with_reducible refine (space_Span.calls k _ _ l0 a1 a2 a3 t160 t161 _ ?side1 ?side2 A7.out).mono ?_); (case side1 => repeat (first | exact (Kd.C_below HR0.out HB.out) | (with_reducible refine Kd.C_alloc ?_ _) | (with_reducible refine Kd.C_drewN ?_ _) | (with_reducible refine Kd.C_drew ?_))); (case side2 => exact HC0.out); rintro e w47 ⟨v162, rfl, ho0, hb⟩; have n0_ := Aside0.mk (Kd.R_lower ho0 (below_size (by repeat (first | (with_reducible first | exact HB.out | apply below_alloc | apply pw_below_drewN | apply below_drew1) | exact HB.out)))); have n1_ := Aside0.mk (below_step (by repeat (first | (with_reducible first | exact HB.out | apply below_alloc | apply pw_below_drewN | apply below_drew1) | exact HB.out)) hb); clear HB; have HO163 := n0_; have HB := n1_; clear n0_ n1_; (try clear hb); (try clear hb2); (try clear hk); (try clear hi); (try clear ho0); obtain ⟨Ao48, co48, eo48⟩ := Kd.R_slice HO163.out; subst eo48)))
      go_ret
      exact ⟨by first | rfl | (simp [errW_none, errW_some] <;> rfl) | (simp [*, errW_none, errW_some] <;> rfl), by repeat (first | (with_reducible first | exact HB.out | apply below_alloc | apply pw_below_drewN | apply below_drew1) | exact HB.out)⟩
  · replace c6 := Bool.eq_false_iff.mpr c6
    subst c6
    have H1 : (some false) = some r := by rw [if_neg (show ¬ (false = true) by decide)] at H; exact H
    clear H
    have H := H1
    clear H1
    obtain rfl := Option.some.inj H
    go_enter Try.func6, Try.ntmps6
    go_wp2_with (first | (go_at_call 9; (with_reducible refine (gatehouselaw05_lives.calls k  false _ A5.out).mono ?_); rintro e w49 ⟨rfl, hb⟩; have n0_ := Aside0.mk (below_step (by repeat (first | (with_reducible first | exact HB.out | apply below_alloc | apply pw_below_drewN | apply below_drew1) | exact HB.out)) hb); clear HB; have HB := n0_; clear n0_; (try clear hb); (try clear hb2); (try clear hk); (try clear hi)))
    repeat (go_quiet (first | (go_at_call 9; (with_reducible refine (gatehouselaw05_lives.calls k  false _ A5.out).mono ?_); rintro e w49 ⟨rfl, hb⟩; have n0_ := Aside0.mk (below_step (by repeat (first | (with_reducible first | exact HB.out | apply below_alloc | apply pw_below_drewN | apply below_drew1) | exact HB.out)) hb); clear HB; have HB := n0_; clear n0_; (try clear hb); (try clear hb2); (try clear hk); (try clear hi))); try go_wp2_with (first | (go_at_call 9; (with_reducible refine (gatehouselaw05_lives.calls k  false _ A5.out).mono ?_); rintro e w49 ⟨rfl, hb⟩; have n0_ := Aside0.mk (below_step (by repeat (first | (with_reducible first | exact HB.out | apply below_alloc | apply pw_below_drewN | apply below_drew1) | exact HB.out)) hb); clear HB; have HB := n0_; clear n0_; (try clear hb); (try clear hb2); (try clear hk); (try clear hi))))
    go_ret
    exact ⟨by first | rfl | (simp [errW_none, errW_some] <;> rfl) | (simp [*, errW_none, errW_some] <;> rfl), by repeat (first | (with_reducible first | exact HB.out | apply below_alloc | apply pw_below_drewN | apply below_drew1) | exact HB.out)⟩

end Go.Proofs.YtcgmlcblcioaeaaZ
