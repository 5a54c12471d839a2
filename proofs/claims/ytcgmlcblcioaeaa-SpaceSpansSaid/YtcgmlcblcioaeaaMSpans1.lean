import Derived.Test.YtcgmlcblcioaeaaZ0
import Derived.Test.YtcgmlcblcioaeaaMSpans0
-- Written by a program of this session (gprint.py, over the kit's printer).
namespace Go.Proofs.YtcgmlcblcioaeaaZ
open Go.RowKit Go.Proofs.YtcgmlcblcioaeaaW.PrintWords Go.Proofs.YtcgmlcblcioaeaaW.PrintLast Go.Proofs.YtcgmlcblcioaeaaW.PrintMore
attribute [local go_sem] max2_int min2_int max_two min_two max_three min_three max_four min_four   -- for this text's walks alone
set_option linter.unusedVariables false
set_option linter.unusedSimpArgs false

/-! ### gatehouseref05_Right: function 19 -/
mutual
def gatehouseref05_Right.l0 : Nat → List (S31) → Int → Int → Option (Bool)
  | 0, _, _, _ => none
  | k + 1, x0, x9, x10 => if x10 < x9 then (if 0 ≤ x10 then (if x10 < (x0.length : Int) then ((gatehouseref05_Good.f k ((rd_T31 x0 x10).f0) ((rd_T31 x0 x10).f1) ((rd_T31 x0 x10).f2) ((rd_T31 x0 x10).f3) ((rd_T31 x0 x10).f4) ((rd_T31 x0 x10).f5) ((rd_T31 x0 x10).f6)).bind fun t181 => (if t181 = true then (gatehouseref05_Right.l1 k x0 x10 0 x9 x10) else (some false))) else (none)) else (none)) else (some true)
def gatehouseref05_Right.l1 : Nat → List (S31) → Int → Int → Int → Int → Option (Bool)
  | 0, _, _, _, _, _ => none
  | k + 1, x0, x3, x4, x9, x10 => if x4 < x3 then (if 0 ≤ x4 then (if x4 < (x0.length : Int) then (if 0 ≤ x3 then (if x3 < (x0.length : Int) then (if ((rd_T31 x0 x4).f0) ≥ ((rd_T31 x0 x3).f0) then (some false) else ((gatehouseref05_Meet.f ((rd_T31 x0 x4).f0) ((rd_T31 x0 x4).f1) ((rd_T31 x0 x4).f2) ((rd_T31 x0 x4).f3) ((rd_T31 x0 x4).f4) ((rd_T31 x0 x4).f5) ((rd_T31 x0 x4).f6) ((rd_T31 x0 x3).f0) ((rd_T31 x0 x3).f1) ((rd_T31 x0 x3).f2) ((rd_T31 x0 x3).f3) ((rd_T31 x0 x3).f4) ((rd_T31 x0 x3).f5) ((rd_T31 x0 x3).f6)).bind fun t186 => (if t186 = true then (some false) else (gatehouseref05_Right.l1 k x0 x3 (wrap64 (x4 + 1)) x9 x10)))) else (none)) else (none)) else (none)) else (none)) else (gatehouseref05_Right.l0 k x0 x9 (wrap64 (x10 + 1)))
end
def gatehouseref05_Right.f (k : Nat) (l0 : List (S31)) : Option (Bool) := if (l0.length : Int) > 16 then (some false) else (gatehouseref05_Right.l0 k l0 (l0.length : Int) 0)
theorem gatehouseref05_Right.mono_l : ∀ k, (∀ y0 y1 y2, LeO (gatehouseref05_Right.l0 k y0 y1 y2) (gatehouseref05_Right.l0 (k + 1) y0 y1 y2)) ∧ (∀ y0 y1 y2 y3 y4, LeO (gatehouseref05_Right.l1 k y0 y1 y2 y3 y4) (gatehouseref05_Right.l1 (k + 1) y0 y1 y2 y3 y4))
  | 0 => ⟨fun _ _ _ r h => by simp [gatehouseref05_Right.l0] at h, fun _ _ _ _ _ r h => by simp [gatehouseref05_Right.l1] at h⟩
  | k + 1 => by
    obtain ⟨ih0, ih1⟩ := gatehouseref05_Right.mono_l k
    refine ⟨?_, ?_⟩
    · intro y0 y1 y2
      unfold gatehouseref05_Right.l0
      repeat' first
      | (with_reducible exact ih0 _ _ _)
      | (with_reducible exact ih1 _ _ _ _ _)
      | (with_reducible exact gatehouseref05_Good.mono _ _ _ _ _ _ _ _)
      | (with_reducible exact LeO.refl _)
      | (with_reducible exact LeO.none _)
      | (with_reducible refine LeO.ite ?_ ?_)
      | (with_reducible refine LeO.bind ?_ (fun _ => ?_))
      | exact ih0 _ _ _
      | exact ih1 _ _ _ _ _
      | exact gatehouseref05_Good.mono _ _ _ _ _ _ _ _
      | exact LeO.none _
      | refine LeO.ite ?_ ?_
      | refine LeO.bind ?_ (fun _ => ?_)
    · intro y0 y1 y2 y3 y4
      unfold gatehouseref05_Right.l1
      repeat' first
      | (with_reducible exact ih0 _ _ _)
      | (with_reducible exact ih1 _ _ _ _ _)
      | (with_reducible exact gatehouseref05_Good.mono _ _ _ _ _ _ _ _)
      | (with_reducible exact LeO.refl _)
      | (with_reducible exact LeO.none _)
      | (with_reducible refine LeO.ite ?_ ?_)
      | (with_reducible refine LeO.bind ?_ (fun _ => ?_))
      | exact ih0 _ _ _
      | exact ih1 _ _ _ _ _
      | exact gatehouseref05_Good.mono _ _ _ _ _ _ _ _
      | exact LeO.none _
      | refine LeO.ite ?_ ?_
      | refine LeO.bind ?_ (fun _ => ?_)
theorem gatehouseref05_Right.mono : ∀ a0 k, LeO (gatehouseref05_Right.f k a0) (gatehouseref05_Right.f (k + 1) a0) := by
  intro a0 k
  obtain ⟨ih0, ih1⟩ := gatehouseref05_Right.mono_l k
  unfold gatehouseref05_Right.f
  repeat' first
      | (with_reducible exact ih0 _ _ _)
      | (with_reducible exact ih1 _ _ _ _ _)
      | (with_reducible exact gatehouseref05_Good.mono _ _ _ _ _ _ _ _)
      | (with_reducible exact LeO.refl _)
      | (with_reducible exact LeO.none _)
      | (with_reducible refine LeO.ite ?_ ?_)
      | (with_reducible refine LeO.bind ?_ (fun _ => ?_))
      | exact ih0 _ _ _
      | exact ih1 _ _ _ _ _
      | exact gatehouseref05_Good.mono _ _ _ _ _ _ _ _
      | exact LeO.none _
      | refine LeO.ite ?_ ?_
      | refine LeO.bind ?_ (fun _ => ?_)
def gatehouseref05_Right.T11 : Bool × List (List Nat × List Nat) := (true, [([], []), ([], []), ([0, 1], [0, 1]), ([2], [2]), ([3], [3]), ([], []), ([], []), ([5, 6], [5, 6]), ([7], [7]), ([8], [8]), ([4, 9], [4, 9]), ([10], [10]), ([11], [11]), ([11], [11]), ([12, 13, 11], [11, 12, 13]), ([14, 11], [11, 14]), ([11], [11]), ([11], [11]), ([16, 17, 11], [11, 16, 17]), ([18, 11], [11, 18]), ([15, 19, 11, 11], [11, 15, 19]), ([11, 20], [11, 20])])
def gatehouseref05_Right.B11 : List Nat := [0, 0, 3, 7, 15, 0, 0, 96, 224, 480, 1023, 2047, 4095, 4095, 16383, 32767, 4095, 4095, 200703, 462847, 1048575, 2097151]
theorem gatehouseref05_Right.tab11 : rtab .any (opsOf Try.f19 11) = gatehouseref05_Right.T11 := by kernel_rfl
theorem gatehouseref05_Right.bits11 : waitsOk gatehouseref05_Right.T11.2 gatehouseref05_Right.B11 = true := by kernel_rfl
set_option maxHeartbeats 8000000 in
set_option maxRecDepth 100000 in
theorem gatehouseref05_Right.calls (k : Nat) (A0 : Option Addr) (c0 : Nat) (l0 : List (S31)) (r : Bool) (w : World) (hr0 : Kd.C k31 w A0 l0.length l0) (hc0 : l0.length ≤ c0) (h : gatehouseref05_Right.f k l0 = some r) :
    Calls Try.prog 19 #[.slice A0 l0.length c0] w fun e w' => e = .returned (.bool r) ∧ Below w.heap.size w w' := by
  have hu31 := Try.underlying31
  have HR0 := Aside0.mk hr0
  have HC0 := Aside0.mk hc0
  clear hr0 hc0
  have HB := Aside0.mk (Below.refl w.heap.size w)
  have H : (if (l0.length : Int) > 16 then (some false) else (gatehouseref05_Right.l0 k l0 (l0.length : Int) 0)) = some r := h
  clear h
  by_cases c2 : (l0.length : Int) > 16
  · rw [if_pos c2] at H
    have c2b0 : decide (16 < (l0.length : Int)) = true := decide_eq_true c2
    have c2b1 : decide (16 < l0.length) = true := decide_eq_true (by omega)
    clear c2
    obtain rfl := Option.some.inj H
    go_enter Try.func19, Try.ntmps19
    go_wp2
    go_ret
    exact ⟨by first | rfl | (simp [errW_none, errW_some] <;> rfl) | (simp [*, errW_none, errW_some] <;> rfl), by repeat (first | (with_reducible first | exact HB.out | apply below_alloc | apply pw_below_drewN | apply below_drew1) | exact HB.out)⟩
  · rw [if_neg c2] at H
    have c2b0 : decide (16 < (l0.length : Int)) = false := decide_eq_false c2
    have c2b1 : decide (16 < l0.length) = false := decide_eq_false (by omega)
    clear c2
    have H' := Aside0.mk H
    clear H
    go_enter Try.func19, Try.ntmps19
    go_wp2
    go_loopg [10] k (fun kq v10 w' => ∃ (x10_1 : Int), v10 = .int .i64 x10_1 ∧ Aside0 (gatehouseref05_Right.l0 kq l0 (l0.length : Int) x10_1 = some r) ∧ Aside0 (kq ≤ k) ∧ Aside0 (Below w.heap.size w w'))
    case atStart => exact ⟨(0), (by first | rfl | (simp; done) | (simp [*]; done)), H', ⟨Nat.le_refl _⟩, ⟨by repeat (first | (with_reducible first | exact HB.out | apply below_alloc | apply pw_below_drewN | apply below_drew1) | exact HB.out)⟩⟩
    case round =>
      clear H'
      try clear c1
      try clear c2
      try clear c2b0
      try clear c2b1
      try clear p2
      obtain ⟨x10_1, rfl, HA, HK1, HB⟩ := hrel
      cases gk with
      | zero => exact absurd HA.out (by simp [gatehouseref05_Right.l0])
      | succ k1 =>
        have H := HA.out
        clear HA
        simp only [gatehouseref05_Right.l0] at H
        by_cases c3 : x10_1 < (l0.length : Int)
        · rw [if_pos c3] at H
          have c3b0 : decide (x10_1 < (l0.length : Int)) = true := decide_eq_true c3
          clear c3
          by_cases c4 : 0 ≤ x10_1
          · rw [if_pos c4] at H
            have c4b0 : decide (0 ≤ x10_1) = true := decide_eq_true c4
            clear c4
            by_cases c5 : x10_1 < (l0.length : Int)
            · rw [if_pos c5] at H
              have c5b0 : decide (x10_1 < (l0.length : Int)) = true := decide_eq_true c5
              clear c5
              replace H := Option.bind_eq_some_iff.mp H
              obtain ⟨t181, A60, H⟩ := H
              replace H : (if t181 = true then (gatehouseref05_Right.l1 k1 l0 x10_1 0 (l0.length : Int) x10_1) else (some false)) = some r := H
              have A6 := Aside0.mk A60
              clear A60
              by_cases c7 : t181 = true
              · subst c7
                have H1 : (gatehouseref05_Right.l1 k1 l0 x10_1 0 (l0.length : Int) x10_1) = some r := by rw [if_pos rfl] at H; exact H
                clear H
                have H := H1
                clear H1
                have H' := Aside0.mk H
                clear H
                have p180 : 0 ≤ (x10_1 : Int) := of_decide_eq_true (by first | (with_reducible assumption) | assumption)
                have q180 : x10_1 < (l0.length : Int) := of_decide_eq_true (by first | (with_reducible assumption) | assumption)
                obtain ⟨ad180, e180, hx180_0, hx180_1, hx180_2, hx180_3, hx180_4, hx180_5, hx180_6⟩ := at_T31 HR0.out x10_1 p180 q180
                cases e180
                replace hx180_0 := (HB.out.cell (World.block_lt_of_cell? w _ hx180_0)).trans hx180_0
                replace hx180_1 := (HB.out.cell (World.block_lt_of_cell? w _ hx180_1)).trans hx180_1
                replace hx180_2 := (HB.out.cell (World.block_lt_of_cell? w _ hx180_2)).trans hx180_2
                replace hx180_3 := (HB.out.cell (World.block_lt_of_cell? w _ hx180_3)).trans hx180_3
                replace hx180_4 := (HB.out.cell (World.block_lt_of_cell? w _ hx180_4)).trans hx180_4
                replace hx180_5 := (HB.out.cell (World.block_lt_of_cell? w _ hx180_5)).trans hx180_5
                replace hx180_6 := (HB.out.cell (World.block_lt_of_cell? w _ hx180_6)).trans hx180_6
                replace p180 := eq_true p180
                replace q180 := eq_true q180
                go_wp2_with (first | ((with_reducible refine gate_callee (f := 27) rfl ?_); refine goesL_ (some 17) rfl rfl Try.func27 (by kernel_rfl) rfl #[.agg #[.int .i64 ((rd_T31 l0 x10_1).f0), .int .i64 ((rd_T31 l0 x10_1).f1), .int .i64 ((rd_T31 l0 x10_1).f2), .int .i64 ((rd_T31 l0 x10_1).f3), .int .i64 ((rd_T31 l0 x10_1).f4), .bool ((rd_T31 l0 x10_1).f5), .bool ((rd_T31 l0 x10_1).f6)]] rfl (by (try simp only [List.map_toArray, List.map_cons, List.map_nil]); first | done | rfl | (simp only [List.length_drop, List.length_take]; rfl)) ?_; (with_reducible refine (gatehouseref05_Good.calls k1 ((rd_T31 l0 x10_1).f0) ((rd_T31 l0 x10_1).f1) ((rd_T31 l0 x10_1).f2) ((rd_T31 l0 x10_1).f3) ((rd_T31 l0 x10_1).f4) ((rd_T31 l0 x10_1).f5) ((rd_T31 l0 x10_1).f6) true _ A6.out).mono ?_); rintro e w8 ⟨rfl, hb⟩; refine ⟨_, rfl, ?_⟩; have n0_ := Aside0.mk (below_step (by repeat (first | (with_reducible first | exact HB.out | apply below_alloc | apply pw_below_drewN | apply below_drew1) | exact HB.out)) hb); clear HB; have HB := n0_; clear n0_; (try clear hb); (try clear hb2); (try clear hk); (try clear hi)))
                go_loopg [4] k1 (fun kq v4 w' => ∃ (x4_2 : Int), v4 = .int .i64 x4_2 ∧ Aside0 (gatehouseref05_Right.l1 kq l0 x10_1 x4_2 (l0.length : Int) x10_1 = some r) ∧ Aside0 (kq ≤ k1) ∧ Aside0 (Below w.heap.size w w'))
                case atStart => exact ⟨(0), (by first | rfl | (simp; done) | (simp [*]; done)), H', ⟨Nat.le_refl _⟩, ⟨by repeat (first | (with_reducible first | exact HB.out | apply below_alloc | apply pw_below_drewN | apply below_drew1) | exact HB.out)⟩⟩
                case round =>
                  clear H'
                  try clear c1
                  try clear p1
                  try clear q1
                  try clear hx1
                  try clear c2
                  try clear c2b0
                  try clear c2b1
                  try clear p2
                  try clear c3
                  try clear c3b0
                  try clear c4
                  try clear c4b0
                  try clear c5
                  try clear c5b0
                  try clear c7
                  try clear hx180_0
                  try clear hx180_1
                  try clear hx180_2
                  try clear hx180_3
                  try clear hx180_4
                  try clear hx180_5
                  try clear hx180_6
                  try clear p180
                  try clear p2
                  try clear q180
                  obtain ⟨x4_2, rfl, HA, HK2, HB⟩ := hrel
                  cases gk with
                  | zero => exact absurd HA.out (by simp [gatehouseref05_Right.l1])
                  | succ k2 =>
                    have H := HA.out
                    clear HA
                    simp only [gatehouseref05_Right.l1] at H
                    by_cases c9 : x4_2 < x10_1
                    · rw [if_pos c9] at H
                      have c9b0 : decide (x4_2 < x10_1) = true := decide_eq_true c9
                      clear c9
                      by_cases c10 : 0 ≤ x4_2
                      · rw [if_pos c10] at H
                        have c10b0 : decide (0 ≤ x4_2) = true := decide_eq_true c10
                        clear c10
                        by_cases c11 : x4_2 < (l0.length : Int)
                        · rw [if_pos c11] at H
                          have c11b0 : decide (x4_2 < (l0.length : Int)) = true := decide_eq_true c11
                          clear c11
                          by_cases c12 : 0 ≤ x10_1
                          · rw [if_pos c12] at H
                            have c12b0 : decide (0 ≤ x10_1) = true := decide_eq_true c12
                            clear c12
                            by_cases c13 : x10_1 < (l0.length : Int)
                            · rw [if_pos c13] at H
                              have c13b0 : decide (x10_1 < (l0.length : Int)) = true := decide_eq_true c13
                              clear c13
                              by_cases c14 : ((rd_T31 l0 x4_2).f0) ≥ ((rd_T31 l0 x10_1).f0)
                              · rw [if_pos c14] at H
                                have c14b0 : decide (((rd_T31 l0 x10_1).f0) ≤ ((rd_T31 l0 x4_2).f0)) = true := decide_eq_true c14
                                clear c14
                                obtain rfl := Option.some.inj H
                                try go_wp2
                                have n0_ := Aside0.mk (below_drew1 HB.out)
                                clear HB
                                have HB := n0_
                                clear n0_
                                have p182 : 0 ≤ (x4_2 : Int) := of_decide_eq_true (by first | (with_reducible assumption) | assumption)
                                have q182 : x4_2 < (l0.length : Int) := of_decide_eq_true (by first | (with_reducible assumption) | assumption)
                                obtain ⟨ad182, e182, hx182_0, hx182_1, hx182_2, hx182_3, hx182_4, hx182_5, hx182_6⟩ := at_T31 HR0.out x4_2 p182 q182
                                have hw182_6 := hx182_6
                                have hw182_5 := hx182_5
                                have hw182_4 := hx182_4
                                have hw182_3 := hx182_3
                                have hw182_2 := hx182_2
                                have hw182_1 := hx182_1
                                have hw182_0 := hx182_0
                                obtain rfl : ad180 = ad182 := (by injection e182)
                                replace hx182_0 := (HB.out.cell (World.block_lt_of_cell? w _ hx182_0)).trans hx182_0
                                replace hx182_1 := (HB.out.cell (World.block_lt_of_cell? w _ hx182_1)).trans hx182_1
                                replace hx182_2 := (HB.out.cell (World.block_lt_of_cell? w _ hx182_2)).trans hx182_2
                                replace hx182_3 := (HB.out.cell (World.block_lt_of_cell? w _ hx182_3)).trans hx182_3
                                replace hx182_4 := (HB.out.cell (World.block_lt_of_cell? w _ hx182_4)).trans hx182_4
                                replace hx182_5 := (HB.out.cell (World.block_lt_of_cell? w _ hx182_5)).trans hx182_5
                                replace hx182_6 := (HB.out.cell (World.block_lt_of_cell? w _ hx182_6)).trans hx182_6
                                replace p182 := eq_true p182
                                replace q182 := eq_true q182
                                have p183 : 0 ≤ (x10_1 : Int) := of_decide_eq_true (by first | (with_reducible assumption) | assumption)
                                have q183 : x10_1 < (l0.length : Int) := of_decide_eq_true (by first | (with_reducible assumption) | assumption)
                                obtain ⟨ad183, e183, hx183_0, hx183_1, hx183_2, hx183_3, hx183_4, hx183_5, hx183_6⟩ := at_T31 HR0.out x10_1 p183 q183
                                have hw183_6 := hx183_6
                                have hw183_5 := hx183_5
                                have hw183_4 := hx183_4
                                have hw183_3 := hx183_3
                                have hw183_2 := hx183_2
                                have hw183_1 := hx183_1
                                have hw183_0 := hx183_0
                                obtain rfl : ad180 = ad183 := (by injection e183)
                                replace hx183_0 := (HB.out.cell (World.block_lt_of_cell? w _ hx183_0)).trans hx183_0
                                replace hx183_1 := (HB.out.cell (World.block_lt_of_cell? w _ hx183_1)).trans hx183_1
                                replace hx183_2 := (HB.out.cell (World.block_lt_of_cell? w _ hx183_2)).trans hx183_2
                                replace hx183_3 := (HB.out.cell (World.block_lt_of_cell? w _ hx183_3)).trans hx183_3
                                replace hx183_4 := (HB.out.cell (World.block_lt_of_cell? w _ hx183_4)).trans hx183_4
                                replace hx183_5 := (HB.out.cell (World.block_lt_of_cell? w _ hx183_5)).trans hx183_5
                                replace hx183_6 := (HB.out.cell (World.block_lt_of_cell? w _ hx183_6)).trans hx183_6
                                replace p183 := eq_true p183
                                replace q183 := eq_true q183
                                refine start_ (n := 22) (S := fun w' => w'.cell? (ad180.add ((x4_2).toNat * 7)) = some (.int .i64 ((rd_T31 l0 x4_2).f0)) ∧ w'.cell? ⟨(ad180.add ((x4_2).toNat * 7)).block, (ad180.add ((x4_2).toNat * 7)).off + 1, none⟩ = some (.int .i64 ((rd_T31 l0 x4_2).f1)) ∧ w'.cell? ⟨(ad180.add ((x4_2).toNat * 7)).block, (ad180.add ((x4_2).toNat * 7)).off + 2, none⟩ = some (.int .i64 ((rd_T31 l0 x4_2).f2)) ∧ w'.cell? ⟨(ad180.add ((x4_2).toNat * 7)).block, (ad180.add ((x4_2).toNat * 7)).off + 3, none⟩ = some (.int .i64 ((rd_T31 l0 x4_2).f3)) ∧ w'.cell? ⟨(ad180.add ((x4_2).toNat * 7)).block, (ad180.add ((x4_2).toNat * 7)).off + 4, none⟩ = some (.int .i64 ((rd_T31 l0 x4_2).f4)) ∧ w'.cell? ⟨(ad180.add ((x4_2).toNat * 7)).block, (ad180.add ((x4_2).toNat * 7)).off + 5, none⟩ = some (.bool ((rd_T31 l0 x4_2).f5)) ∧ w'.cell? ⟨(ad180.add ((x4_2).toNat * 7)).block, (ad180.add ((x4_2).toNat * 7)).off + 6, none⟩ = some (.bool ((rd_T31 l0 x4_2).f6)) ∧ w'.cell? (ad180.add ((x10_1).toNat * 7)) = some (.int .i64 ((rd_T31 l0 x10_1).f0)) ∧ w'.cell? ⟨(ad180.add ((x10_1).toNat * 7)).block, (ad180.add ((x10_1).toNat * 7)).off + 1, none⟩ = some (.int .i64 ((rd_T31 l0 x10_1).f1)) ∧ w'.cell? ⟨(ad180.add ((x10_1).toNat * 7)).block, (ad180.add ((x10_1).toNat * 7)).off + 2, none⟩ = some (.int .i64 ((rd_T31 l0 x10_1).f2)) ∧ w'.cell? ⟨(ad180.add ((x10_1).toNat * 7)).block, (ad180.add ((x10_1).toNat * 7)).off + 3, none⟩ = some (.int .i64 ((rd_T31 l0 x10_1).f3)) ∧ w'.cell? ⟨(ad180.add ((x10_1).toNat * 7)).block, (ad180.add ((x10_1).toNat * 7)).off + 4, none⟩ = some (.int .i64 ((rd_T31 l0 x10_1).f4)) ∧ w'.cell? ⟨(ad180.add ((x10_1).toNat * 7)).block, (ad180.add ((x10_1).toNat * 7)).off + 5, none⟩ = some (.bool ((rd_T31 l0 x10_1).f5)) ∧ w'.cell? ⟨(ad180.add ((x10_1).toNat * 7)).block, (ad180.add ((x10_1).toNat * 7)).off + 6, none⟩ = some (.bool ((rd_T31 l0 x10_1).f6))) (ds := []) #[false, false, false, false, false, false, false, false, false, false, false, false, false, false, false, false, false, false, false, false, false, false] (by kernel_rfl) rfl rfl ⟨((HB.out.cell (World.block_lt_of_cell? w _ hw182_0)).trans hw182_0), ((HB.out.cell (World.block_lt_of_cell? w _ hw182_1)).trans hw182_1), ((HB.out.cell (World.block_lt_of_cell? w _ hw182_2)).trans hw182_2), ((HB.out.cell (World.block_lt_of_cell? w _ hw182_3)).trans hw182_3), ((HB.out.cell (World.block_lt_of_cell? w _ hw182_4)).trans hw182_4), ((HB.out.cell (World.block_lt_of_cell? w _ hw182_5)).trans hw182_5), ((HB.out.cell (World.block_lt_of_cell? w _ hw182_6)).trans hw182_6), ((HB.out.cell (World.block_lt_of_cell? w _ hw183_0)).trans hw183_0), ((HB.out.cell (World.block_lt_of_cell? w _ hw183_1)).trans hw183_1), ((HB.out.cell (World.block_lt_of_cell? w _ hw183_2)).trans hw183_2), ((HB.out.cell (World.block_lt_of_cell? w _ hw183_3)).trans hw183_3), ((HB.out.cell (World.block_lt_of_cell? w _ hw183_4)).trans hw183_4), ((HB.out.cell (World.block_lt_of_cell? w _ hw183_5)).trans hw183_5), ((HB.out.cell (World.block_lt_of_cell? w _ hw183_6)).trans hw183_6)⟩ (fun hHeld => ?_); refine with_tabW gatehouseref05_Right.tab11 gatehouseref05_Right.bits11 (fun HT_ HW_ => ?_)
                                generalize wr.drew = w15 at HB hx182_0 hx182_1 hx182_2 hx182_3 hx182_4 hx182_5 hx182_6 hx183_0 hx183_1 hx183_2 hx183_3 hx183_4 hx183_5 hx183_6 hHeld ⊢
                                refine pure_ (i := 0) (N := some 24) (v := ?_) (a' := ?_) #[true, false, false, false, false, false, false, false, false, false, false, false, false, false, false, false, false, false, false, false, false, false] rfl rfl (any_of HT_.out (by kernel_rfl)) (fun _ _ _ h => h) (Or.inl ⟨by rfl, ?_⟩) ?_ ?_
                                rotate_left
                                · intro w'
                                  go_simp
                                  with_reducible rfl
                                rotate_left
                                · simp only [Act.put, List.setIfInBounds_toArray, List.set_cons_zero, List.set_cons_succ, i64_w, i32_w]
                                  rfl
                                refine pure_ (i := 1) (N := some 25) (v := ?_) (a' := ?_) #[true, true, false, false, false, false, false, false, false, false, false, false, false, false, false, false, false, false, false, false, false, false] rfl rfl (any_of HT_.out (by kernel_rfl)) (fun _ _ _ h => h) (Or.inl ⟨by rfl, ?_⟩) ?_ ?_
                                rotate_left
                                · intro w'
                                  go_simp
                                  with_reducible rfl
                                rotate_left
                                · simp only [Act.put, List.setIfInBounds_toArray, List.set_cons_zero, List.set_cons_succ, i64_w, i32_w]
                                  rfl
                                refine pure_ (i := 2) (N := some 26) (v := ?_) (a' := ?_) #[true, true, true, false, false, false, false, false, false, false, false, false, false, false, false, false, false, false, false, false, false, false] rfl rfl (any_of HT_.out (by kernel_rfl)) (fun _ _ _ h => h) (Or.inl ⟨by rfl, ?_⟩) ?_ ?_
                                rotate_left
                                · intro w'
                                  go_simp
                                  with_reducible rfl
                                rotate_left
                                · simp only [Act.put, List.setIfInBounds_toArray, List.set_cons_zero, List.set_cons_succ, i64_w, i32_w]
                                  rfl
                                refine pure_ (i := 3) (N := some 27) (v := ?_) (a' := ?_) #[true, true, true, true, false, false, false, false, false, false, false, false, false, false, false, false, false, false, false, false, false, false] rfl rfl (any_of HT_.out (by kernel_rfl)) (fun _ _ _ h => h) (Or.inl ⟨by rfl, ?_⟩) ?_ ?_
                                rotate_left
                                · intro w'
                                  go_simp
                                  with_reducible rfl
                                rotate_left
                                · simp only [Act.put, List.setIfInBounds_toArray, List.set_cons_zero, List.set_cons_succ, i64_w, i32_w]
                                  rfl
                                refine pure_ (i := 5) (N := some 29) (v := ?_) (a' := ?_) #[true, true, true, true, false, true, false, false, false, false, false, false, false, false, false, false, false, false, false, false, false, false] rfl rfl (any_of HT_.out (by kernel_rfl)) (fun _ _ _ h => h) (Or.inl ⟨by rfl, ?_⟩) ?_ ?_
                                rotate_left
                                · intro w'
                                  go_simp
                                  with_reducible rfl
                                rotate_left
                                · simp only [Act.put, List.setIfInBounds_toArray, List.set_cons_zero, List.set_cons_succ, i64_w, i32_w]
                                  rfl
                                refine pure_ (i := 6) (N := some 30) (v := ?_) (a' := ?_) #[true, true, true, true, false, true, true, false, false, false, false, false, false, false, false, false, false, false, false, false, false, false] rfl rfl (any_of HT_.out (by kernel_rfl)) (fun _ _ _ h => h) (Or.inl ⟨by rfl, ?_⟩) ?_ ?_
                                rotate_left
                                · intro w'
                                  go_simp
                                  with_reducible rfl
                                rotate_left
                                · simp only [Act.put, List.setIfInBounds_toArray, List.set_cons_zero, List.set_cons_succ, i64_w, i32_w]
                                  rfl
                                refine pure_ (i := 7) (N := some 31) (v := ?_) (a' := ?_) #[true, true, true, true, false, true, true, true, false, false, false, false, false, false, false, false, false, false, false, false, false, false] rfl rfl (any_of HT_.out (by kernel_rfl)) (fun _ _ _ h => h) (Or.inl ⟨by rfl, ?_⟩) ?_ ?_
                                rotate_left
                                · intro w'
                                  go_simp
                                  with_reducible rfl
                                rotate_left
                                · simp only [Act.put, List.setIfInBounds_toArray, List.set_cons_zero, List.set_cons_succ, i64_w, i32_w]
                                  rfl
                                refine pure_ (i := 8) (N := some 32) (v := ?_) (a' := ?_) #[true, true, true, true, false, true, true, true, true, false, false, false, false, false, false, false, false, false, false, false, false, false] rfl rfl (any_of HT_.out (by kernel_rfl)) (fun _ _ _ h => h) (Or.inl ⟨by rfl, ?_⟩) ?_ ?_
                                rotate_left
                                · intro w'
                                  go_simp
                                  with_reducible rfl
                                rotate_left
                                · simp only [Act.put, List.setIfInBounds_toArray, List.set_cons_zero, List.set_cons_succ, i64_w, i32_w]
                                  rfl
                                refine take_ (i := 4) (N := some 28) (v := ?_) (a' := ?_) #[true, true, true, true, true, true, true, true, true, false, false, false, false, false, false, false, false, false, false, false, false, false] rfl rfl (take_ofW HT_.out HW_.out (by kernel_rfl)) (fun _ _ _ h => h) (Or.inl ⟨by rfl, ?_⟩) hHeld ?_ ?_
                                rotate_left
                                · rintro w' ⟨s0, s1, s2, s3, s4, s5, s6, s7, s8, s9, s10, s11, s12, s13⟩
                                  go_simp
                                  with_reducible rfl
                                rotate_left
                                · simp only [Act.put, List.setIfInBounds_toArray, List.set_cons_zero, List.set_cons_succ, i64_w, i32_w]
                                  rfl
                                refine take_ (i := 9) (N := some 33) (v := ?_) (a' := ?_) #[true, true, true, true, true, true, true, true, true, true, false, false, false, false, false, false, false, false, false, false, false, false] rfl rfl (take_ofW HT_.out HW_.out (by kernel_rfl)) (fun _ _ _ h => h) (Or.inl ⟨by rfl, ?_⟩) hHeld ?_ ?_
                                rotate_left
                                · rintro w' ⟨s0, s1, s2, s3, s4, s5, s6, s7, s8, s9, s10, s11, s12, s13⟩
                                  go_simp
                                  with_reducible rfl
                                rotate_left
                                · simp only [Act.put, List.setIfInBounds_toArray, List.set_cons_zero, List.set_cons_succ, i64_w, i32_w]
                                  rfl
                                refine pure_ (i := 10) (N := some 34) (v := ?_) (a' := ?_) #[true, true, true, true, true, true, true, true, true, true, true, false, false, false, false, false, false, false, false, false, false, false] rfl rfl (any_of HT_.out (by kernel_rfl)) (fun _ _ _ h => h) (Or.inl ⟨by rfl, ?_⟩) ?_ ?_
                                rotate_left
                                · intro w'
                                  go_simp
                                  with_reducible rfl
                                rotate_left
                                · simp only [Act.put, List.setIfInBounds_toArray, List.set_cons_zero, List.set_cons_succ, i64_w, i32_w]
                                  rfl
                                refine pure_ (i := 11) (N := some 35) (v := ?_) (a' := ?_) #[true, true, true, true, true, true, true, true, true, true, true, true, false, false, false, false, false, false, false, false, false, false] rfl rfl (any_of HT_.out (by kernel_rfl)) (fun _ _ _ h => h) (Or.inl ⟨by rfl, ?_⟩) ?_ ?_
                                rotate_left
                                · intro w'
                                  go_simp
                                  with_reducible rfl
                                rotate_left
                                · simp only [Act.put, List.setIfInBounds_toArray, List.set_cons_zero, List.set_cons_succ, i64_w, i32_w]
                                  rfl
                                refine pure_ (i := 12) (N := some 36) (v := undef) (a' := ?_) #[true, true, true, true, true, true, true, true, true, true, true, true, true, false, false, false, false, false, false, false, false, false] rfl rfl (any_of HT_.out (by kernel_rfl)) (fun _ _ _ h => h) (Or.inr ⟨by rfl, rfl⟩) ?_ ?_
                                rotate_left
                                · simp only [Act.put, List.setIfInBounds_toArray, List.set_cons_zero, List.set_cons_succ, i64_w, i32_w]
                                  rfl
                                refine pure_ (i := 13) (N := some 37) (v := undef) (a' := ?_) #[true, true, true, true, true, true, true, true, true, true, true, true, true, true, false, false, false, false, false, false, false, false] rfl rfl (any_of HT_.out (by kernel_rfl)) (fun _ _ _ h => h) (Or.inr ⟨by rfl, rfl⟩) ?_ ?_
                                rotate_left
                                · simp only [Act.put, List.setIfInBounds_toArray, List.set_cons_zero, List.set_cons_succ, i64_w, i32_w]
                                  rfl
                                refine pure_ (i := 14) (N := some 38) (v := undef) (a' := ?_) #[true, true, true, true, true, true, true, true, true, true, true, true, true, true, true, false, false, false, false, false, false, false] rfl rfl (any_of HT_.out (by kernel_rfl)) (fun _ _ _ h => h) (Or.inr ⟨by rfl, rfl⟩) ?_ ?_
                                rotate_left
                                · simp only [Act.put, List.setIfInBounds_toArray, List.set_cons_zero, List.set_cons_succ, i64_w, i32_w]
                                  rfl
                                refine pure_ (i := 15) (N := some 39) (v := undef) (a' := ?_) #[true, true, true, true, true, true, true, true, true, true, true, true, true, true, true, true, false, false, false, false, false, false] rfl rfl (any_of HT_.out (by kernel_rfl)) (fun _ _ _ h => h) (Or.inr ⟨by rfl, rfl⟩) ?_ ?_
                                rotate_left
                                · simp only [Act.put, List.setIfInBounds_toArray, List.set_cons_zero, List.set_cons_succ, i64_w, i32_w]
                                  rfl
                                refine pure_ (i := 16) (N := some 40) (v := undef) (a' := ?_) #[true, true, true, true, true, true, true, true, true, true, true, true, true, true, true, true, true, false, false, false, false, false] rfl rfl (any_of HT_.out (by kernel_rfl)) (fun _ _ _ h => h) (Or.inr ⟨by rfl, rfl⟩) ?_ ?_
                                rotate_left
                                · simp only [Act.put, List.setIfInBounds_toArray, List.set_cons_zero, List.set_cons_succ, i64_w, i32_w]
                                  rfl
                                refine pure_ (i := 17) (N := some 41) (v := undef) (a' := ?_) #[true, true, true, true, true, true, true, true, true, true, true, true, true, true, true, true, true, true, false, false, false, false] rfl rfl (any_of HT_.out (by kernel_rfl)) (fun _ _ _ h => h) (Or.inr ⟨by rfl, rfl⟩) ?_ ?_
                                rotate_left
                                · simp only [Act.put, List.setIfInBounds_toArray, List.set_cons_zero, List.set_cons_succ, i64_w, i32_w]
                                  rfl
                                refine pure_ (i := 18) (N := some 42) (v := undef) (a' := ?_) #[true, true, true, true, true, true, true, true, true, true, true, true, true, true, true, true, true, true, true, false, false, false] rfl rfl (any_of HT_.out (by kernel_rfl)) (fun _ _ _ h => h) (Or.inr ⟨by rfl, rfl⟩) ?_ ?_
                                rotate_left
                                · simp only [Act.put, List.setIfInBounds_toArray, List.set_cons_zero, List.set_cons_succ, i64_w, i32_w]
                                  rfl
                                refine pure_ (i := 19) (N := some 43) (v := undef) (a' := ?_) #[true, true, true, true, true, true, true, true, true, true, true, true, true, true, true, true, true, true, true, true, false, false] rfl rfl (any_of HT_.out (by kernel_rfl)) (fun _ _ _ h => h) (Or.inr ⟨by rfl, rfl⟩) ?_ ?_
                                rotate_left
                                · simp only [Act.put, List.setIfInBounds_toArray, List.set_cons_zero, List.set_cons_succ, i64_w, i32_w]
                                  rfl
                                refine pure_ (i := 20) (N := some 44) (v := undef) (a' := ?_) #[true, true, true, true, true, true, true, true, true, true, true, true, true, true, true, true, true, true, true, true, true, false] rfl rfl (any_of HT_.out (by kernel_rfl)) (fun _ _ _ h => h) (Or.inr ⟨by rfl, rfl⟩) ?_ ?_
                                rotate_left
                                · simp only [Act.put, List.setIfInBounds_toArray, List.set_cons_zero, List.set_cons_succ, i64_w, i32_w]
                                  rfl
                                refine pure_ (i := 21) (N := some 45) (v := ?_) (a' := ?_) #[true, true, true, true, true, true, true, true, true, true, true, true, true, true, true, true, true, true, true, true, true, true] rfl rfl (any_of HT_.out (by kernel_rfl)) (fun _ _ _ h => h) (Or.inl ⟨by rfl, ?_⟩) ?_ ?_
                                rotate_left
                                · intro w'
                                  go_simp
                                  with_reducible rfl
                                rotate_left
                                · simp only [Act.put, List.setIfInBounds_toArray, List.set_cons_zero, List.set_cons_succ, i64_w, i32_w]
                                  rfl
                                refine done_ (done_of HT_.out (by kernel_rfl)) ?_
                                try go_wp2
                                go_ret
                                exact ⟨by first | rfl | (simp [errW_none, errW_some] <;> rfl) | (simp [*, errW_none, errW_some] <;> rfl), by repeat (first | (with_reducible first | exact HB.out | apply below_alloc | apply pw_below_drewN | apply below_drew1) | exact HB.out)⟩
                              · rw [if_neg c14] at H
                                have c14b0 : decide (((rd_T31 l0 x10_1).f0) ≤ ((rd_T31 l0 x4_2).f0)) = false := decide_eq_false c14
                                clear c14
                                replace H := Option.bind_eq_some_iff.mp H
                                obtain ⟨t186, A160, H⟩ := H
                                replace H : (if t186 = true then (some false) else (gatehouseref05_Right.l1 k2 l0 x10_1 (wrap64 (x4_2 + 1)) (l0.length : Int) x10_1)) = some r := H
                                have A16 := Aside0.mk A160
                                clear A160
                                by_cases c17 : t186 = true
                                · subst c17
                                  have H1 : (some false) = some r := by rw [if_pos rfl] at H; exact H
                                  clear H
                                  have H := H1
                                  clear H1
                                  obtain rfl := Option.some.inj H
                                  try go_wp2
                                  have n0_ := Aside0.mk (below_drew1 HB.out)
                                  clear HB
                                  have HB := n0_
                                  clear n0_
                                  have p182 : 0 ≤ (x4_2 : Int) := of_decide_eq_true (by first | (with_reducible assumption) | assumption)
                                  have q182 : x4_2 < (l0.length : Int) := of_decide_eq_true (by first | (with_reducible assumption) | assumption)
                                  obtain ⟨ad182, e182, hx182_0, hx182_1, hx182_2, hx182_3, hx182_4, hx182_5, hx182_6⟩ := at_T31 HR0.out x4_2 p182 q182
                                  have hw182_6 := hx182_6
                                  have hw182_5 := hx182_5
                                  have hw182_4 := hx182_4
                                  have hw182_3 := hx182_3
                                  have hw182_2 := hx182_2
                                  have hw182_1 := hx182_1
                                  have hw182_0 := hx182_0
                                  obtain rfl : ad180 = ad182 := (by injection e182)
                                  replace hx182_0 := (HB.out.cell (World.block_lt_of_cell? w _ hx182_0)).trans hx182_0
                                  replace hx182_1 := (HB.out.cell (World.block_lt_of_cell? w _ hx182_1)).trans hx182_1
                                  replace hx182_2 := (HB.out.cell (World.block_lt_of_cell? w _ hx182_2)).trans hx182_2
                                  replace hx182_3 := (HB.out.cell (World.block_lt_of_cell? w _ hx182_3)).trans hx182_3
                                  replace hx182_4 := (HB.out.cell (World.block_lt_of_cell? w _ hx182_4)).trans hx182_4
                                  replace hx182_5 := (HB.out.cell (World.block_lt_of_cell? w _ hx182_5)).trans hx182_5
                                  replace hx182_6 := (HB.out.cell (World.block_lt_of_cell? w _ hx182_6)).trans hx182_6
                                  replace p182 := eq_true p182
                                  replace q182 := eq_true q182
                                  have p183 : 0 ≤ (x10_1 : Int) := of_decide_eq_true (by first | (with_reducible assumption) | assumption)
                                  have q183 : x10_1 < (l0.length : Int) := of_decide_eq_true (by first | (with_reducible assumption) | assumption)
                                  obtain ⟨ad183, e183, hx183_0, hx183_1, hx183_2, hx183_3, hx183_4, hx183_5, hx183_6⟩ := at_T31 HR0.out x10_1 p183 q183
                                  have hw183_6 := hx183_6
                                  have hw183_5 := hx183_5
                                  have hw183_4 := hx183_4
                                  have hw183_3 := hx183_3
                                  have hw183_2 := hx183_2
                                  have hw183_1 := hx183_1
                                  have hw183_0 := hx183_0
                                  obtain rfl : ad180 = ad183 := (by injection e183)
                                  replace hx183_0 := (HB.out.cell (World.block_lt_of_cell? w _ hx183_0)).trans hx183_0
                                  replace hx183_1 := (HB.out.cell (World.block_lt_of_cell? w _ hx183_1)).trans hx183_1
                                  replace hx183_2 := (HB.out.cell (World.block_lt_of_cell? w _ hx183_2)).trans hx183_2
                                  replace hx183_3 := (HB.out.cell (World.block_lt_of_cell? w _ hx183_3)).trans hx183_3
                                  replace hx183_4 := (HB.out.cell (World.block_lt_of_cell? w _ hx183_4)).trans hx183_4
                                  replace hx183_5 := (HB.out.cell (World.block_lt_of_cell? w _ hx183_5)).trans hx183_5
                                  replace hx183_6 := (HB.out.cell (World.block_lt_of_cell? w _ hx183_6)).trans hx183_6
                                  replace p183 := eq_true p183
                                  replace q183 := eq_true q183
                                  have p184 : 0 ≤ (x4_2 : Int) := of_decide_eq_true (by first | (with_reducible assumption) | assumption)
                                  have q184 : x4_2 < (l0.length : Int) := of_decide_eq_true (by first | (with_reducible assumption) | assumption)
                                  obtain ⟨ad184, e184, hx184_0, hx184_1, hx184_2, hx184_3, hx184_4, hx184_5, hx184_6⟩ := at_T31 HR0.out x4_2 p184 q184
                                  have hw184_6 := hx184_6
                                  have hw184_5 := hx184_5
                                  have hw184_4 := hx184_4
                                  have hw184_3 := hx184_3
                                  have hw184_2 := hx184_2
                                  have hw184_1 := hx184_1
                                  have hw184_0 := hx184_0
                                  obtain rfl : ad180 = ad184 := (by injection e184)
                                  replace hx184_0 := (HB.out.cell (World.block_lt_of_cell? w _ hx184_0)).trans hx184_0
                                  replace hx184_1 := (HB.out.cell (World.block_lt_of_cell? w _ hx184_1)).trans hx184_1
                                  replace hx184_2 := (HB.out.cell (World.block_lt_of_cell? w _ hx184_2)).trans hx184_2
                                  replace hx184_3 := (HB.out.cell (World.block_lt_of_cell? w _ hx184_3)).trans hx184_3
                                  replace hx184_4 := (HB.out.cell (World.block_lt_of_cell? w _ hx184_4)).trans hx184_4
                                  replace hx184_5 := (HB.out.cell (World.block_lt_of_cell? w _ hx184_5)).trans hx184_5
                                  replace hx184_6 := (HB.out.cell (World.block_lt_of_cell? w _ hx184_6)).trans hx184_6
                                  replace p184 := eq_true p184
                                  replace q184 := eq_true q184
                                  have p185 : 0 ≤ (x10_1 : Int) := of_decide_eq_true (by first | (with_reducible assumption) | assumption)
                                  have q185 : x10_1 < (l0.length : Int) := of_decide_eq_true (by first | (with_reducible assumption) | assumption)
                                  obtain ⟨ad185, e185, hx185_0, hx185_1, hx185_2, hx185_3, hx185_4, hx185_5, hx185_6⟩ := at_T31 HR0.out x10_1 p185 q185
                                  have hw185_6 := hx185_6
                                  have hw185_5 := hx185_5
                                  have hw185_4 := hx185_4
                                  have hw185_3 := hx185_3
                                  have hw185_2 := hx185_2
                                  have hw185_1 := hx185_1
                                  have hw185_0 := hx185_0
                                  obtain rfl : ad180 = ad185 := (by injection e185)
                                  replace hx185_0 := (HB.out.cell (World.block_lt_of_cell? w _ hx185_0)).trans hx185_0
                                  replace hx185_1 := (HB.out.cell (World.block_lt_of_cell? w _ hx185_1)).trans hx185_1
                                  replace hx185_2 := (HB.out.cell (World.block_lt_of_cell? w _ hx185_2)).trans hx185_2
                                  replace hx185_3 := (HB.out.cell (World.block_lt_of_cell? w _ hx185_3)).trans hx185_3
                                  replace hx185_4 := (HB.out.cell (World.block_lt_of_cell? w _ hx185_4)).trans hx185_4
                                  replace hx185_5 := (HB.out.cell (World.block_lt_of_cell? w _ hx185_5)).trans hx185_5
                                  replace hx185_6 := (HB.out.cell (World.block_lt_of_cell? w _ hx185_6)).trans hx185_6
                                  replace p185 := eq_true p185
                                  replace q185 := eq_true q185
                                  refine start_ (n := 22) (S := fun w' => w'.cell? (ad180.add ((x4_2).toNat * 7)) = some (.int .i64 ((rd_T31 l0 x4_2).f0)) ∧ w'.cell? ⟨(ad180.add ((x4_2).toNat * 7)).block, (ad180.add ((x4_2).toNat * 7)).off + 1, none⟩ = some (.int .i64 ((rd_T31 l0 x4_2).f1)) ∧ w'.cell? ⟨(ad180.add ((x4_2).toNat * 7)).block, (ad180.add ((x4_2).toNat * 7)).off + 2, none⟩ = some (.int .i64 ((rd_T31 l0 x4_2).f2)) ∧ w'.cell? ⟨(ad180.add ((x4_2).toNat * 7)).block, (ad180.add ((x4_2).toNat * 7)).off + 3, none⟩ = some (.int .i64 ((rd_T31 l0 x4_2).f3)) ∧ w'.cell? ⟨(ad180.add ((x4_2).toNat * 7)).block, (ad180.add ((x4_2).toNat * 7)).off + 4, none⟩ = some (.int .i64 ((rd_T31 l0 x4_2).f4)) ∧ w'.cell? ⟨(ad180.add ((x4_2).toNat * 7)).block, (ad180.add ((x4_2).toNat * 7)).off + 5, none⟩ = some (.bool ((rd_T31 l0 x4_2).f5)) ∧ w'.cell? ⟨(ad180.add ((x4_2).toNat * 7)).block, (ad180.add ((x4_2).toNat * 7)).off + 6, none⟩ = some (.bool ((rd_T31 l0 x4_2).f6)) ∧ w'.cell? (ad180.add ((x10_1).toNat * 7)) = some (.int .i64 ((rd_T31 l0 x10_1).f0)) ∧ w'.cell? ⟨(ad180.add ((x10_1).toNat * 7)).block, (ad180.add ((x10_1).toNat * 7)).off + 1, none⟩ = some (.int .i64 ((rd_T31 l0 x10_1).f1)) ∧ w'.cell? ⟨(ad180.add ((x10_1).toNat * 7)).block, (ad180.add ((x10_1).toNat * 7)).off + 2, none⟩ = some (.int .i64 ((rd_T31 l0 x10_1).f2)) ∧ w'.cell? ⟨(ad180.add ((x10_1).toNat * 7)).block, (ad180.add ((x10_1).toNat * 7)).off + 3, none⟩ = some (.int .i64 ((rd_T31 l0 x10_1).f3)) ∧ w'.cell? ⟨(ad180.add ((x10_1).toNat * 7)).block, (ad180.add ((x10_1).toNat * 7)).off + 4, none⟩ = some (.int .i64 ((rd_T31 l0 x10_1).f4)) ∧ w'.cell? ⟨(ad180.add ((x10_1).toNat * 7)).block, (ad180.add ((x10_1).toNat * 7)).off + 5, none⟩ = some (.bool ((rd_T31 l0 x10_1).f5)) ∧ w'.cell? ⟨(ad180.add ((x10_1).toNat * 7)).block, (ad180.add ((x10_1).toNat * 7)).off + 6, none⟩ = some (.bool ((rd_T31 l0 x10_1).f6)) ∧ w'.cell? (ad180.add ((x4_2).toNat * 7)) = some (.int .i64 ((rd_T31 l0 x4_2).f0)) ∧ w'.cell? ⟨(ad180.add ((x4_2).toNat * 7)).block, (ad180.add ((x4_2).toNat * 7)).off + 1, none⟩ = some (.int .i64 ((rd_T31 l0 x4_2).f1)) ∧ w'.cell? ⟨(ad180.add ((x4_2).toNat * 7)).block, (ad180.add ((x4_2).toNat * 7)).off + 2, none⟩ = some (.int .i64 ((rd_T31 l0 x4_2).f2)) ∧ w'.cell? ⟨(ad180.add ((x4_2).toNat * 7)).block, (ad180.add ((x4_2).toNat * 7)).off + 3, none⟩ = some (.int .i64 ((rd_T31 l0 x4_2).f3)) ∧ w'.cell? ⟨(ad180.add ((x4_2).toNat * 7)).block, (ad180.add ((x4_2).toNat * 7)).off + 4, none⟩ = some (.int .i64 ((rd_T31 l0 x4_2).f4)) ∧ w'.cell? ⟨(ad180.add ((x4_2).toNat * 7)).block, (ad180.add ((x4_2).toNat * 7)).off + 5, none⟩ = some (.bool ((rd_T31 l0 x4_2).f5)) ∧ w'.cell? ⟨(ad180.add ((x4_2).toNat * 7)).block, (ad180.add ((x4_2).toNat * 7)).off + 6, none⟩ = some (.bool ((rd_T31 l0 x4_2).f6)) ∧ w'.cell? (ad180.add ((x10_1).toNat * 7)) = some (.int .i64 ((rd_T31 l0 x10_1).f0)) ∧ w'.cell? ⟨(ad180.add ((x10_1).toNat * 7)).block, (ad180.add ((x10_1).toNat * 7)).off + 1, none⟩ = some (.int .i64 ((rd_T31 l0 x10_1).f1)) ∧ w'.cell? ⟨(ad180.add ((x10_1).toNat * 7)).block, (ad180.add ((x10_1).toNat * 7)).off + 2, none⟩ = some (.int .i64 ((rd_T31 l0 x10_1).f2)) ∧ w'.cell? ⟨(ad180.add ((x10_1).toNat * 7)).block, (ad180.add ((x10_1).toNat * 7)).off + 3, none⟩ = some (.int .i64 ((rd_T31 l0 x10_1).f3)) ∧ w'.cell? ⟨(ad180.add ((x10_1).toNat * 7)).block, (ad180.add ((x10_1).toNat * 7)).off + 4, none⟩ = some (.int .i64 ((rd_T31 l0 x10_1).f4)) ∧ w'.cell? ⟨(ad180.add ((x10_1).toNat * 7)).block, (ad180.add ((x10_1).toNat * 7)).off + 5, none⟩ = some (.bool ((rd_T31 l0 x10_1).f5)) ∧ w'.cell? ⟨(ad180.add ((x10_1).toNat * 7)).block, (ad180.add ((x10_1).toNat * 7)).off + 6, none⟩ = some (.bool ((rd_T31 l0 x10_1).f6))) (ds := []) #[false, false, false, false, false, false, false, false, false, false, false, false, false, false, false, false, false, false, false, false, false, false] (by kernel_rfl) rfl rfl ⟨((HB.out.cell (World.block_lt_of_cell? w _ hw182_0)).trans hw182_0), ((HB.out.cell (World.block_lt_of_cell? w _ hw182_1)).trans hw182_1), ((HB.out.cell (World.block_lt_of_cell? w _ hw182_2)).trans hw182_2), ((HB.out.cell (World.block_lt_of_cell? w _ hw182_3)).trans hw182_3), ((HB.out.cell (World.block_lt_of_cell? w _ hw182_4)).trans hw182_4), ((HB.out.cell (World.block_lt_of_cell? w _ hw182_5)).trans hw182_5), ((HB.out.cell (World.block_lt_of_cell? w _ hw182_6)).trans hw182_6), ((HB.out.cell (World.block_lt_of_cell? w _ hw183_0)).trans hw183_0), ((HB.out.cell (World.block_lt_of_cell? w _ hw183_1)).trans hw183_1), ((HB.out.cell (World.block_lt_of_cell? w _ hw183_2)).trans hw183_2), ((HB.out.cell (World.block_lt_of_cell? w _ hw183_3)).trans hw183_3), ((HB.out.cell (World.block_lt_of_cell? w _ hw183_4)).trans hw183_4), ((HB.out.cell (World.block_lt_of_cell? w _ hw183_5)).trans hw183_5), ((HB.out.cell (World.block_lt_of_cell? w _ hw183_6)).trans hw183_6), ((HB.out.cell (World.block_lt_of_cell? w _ hw184_0)).trans hw184_0), ((HB.out.cell (World.block_lt_of_cell? w _ hw184_1)).trans hw184_1), ((HB.out.cell (World.block_lt_of_cell? w _ hw184_2)).trans hw184_2), ((HB.out.cell (World.block_lt_of_cell? w _ hw184_3)).trans hw184_3), ((HB.out.cell (World.block_lt_of_cell? w _ hw184_4)).trans hw184_4), ((HB.out.cell (World.block_lt_of_cell? w _ hw184_5)).trans hw184_5), ((HB.out.cell (World.block_lt_of_cell? w _ hw184_6)).trans hw184_6), ((HB.out.cell (World.block_lt_of_cell? w _ hw185_0)).trans hw185_0), ((HB.out.cell (World.block_lt_of_cell? w _ hw185_1)).trans hw185_1), ((HB.out.cell (World.block_lt_of_cell? w _ hw185_2)).trans hw185_2), ((HB.out.cell (World.block_lt_of_cell? w _ hw185_3)).trans hw185_3), ((HB.out.cell (World.block_lt_of_cell? w _ hw185_4)).trans hw185_4), ((HB.out.cell (World.block_lt_of_cell? w _ hw185_5)).trans hw185_5), ((HB.out.cell (World.block_lt_of_cell? w _ hw185_6)).trans hw185_6)⟩ (fun hHeld => ?_); refine with_tabW gatehouseref05_Right.tab11 gatehouseref05_Right.bits11 (fun HT_ HW_ => ?_)
                                  generalize wr.drew = w18 at HB hx182_0 hx182_1 hx182_2 hx182_3 hx182_4 hx182_5 hx182_6 hx183_0 hx183_1 hx183_2 hx183_3 hx183_4 hx183_5 hx183_6 hx184_0 hx184_1 hx184_2 hx184_3 hx184_4 hx184_5 hx184_6 hx185_0 hx185_1 hx185_2 hx185_3 hx185_4 hx185_5 hx185_6 hHeld ⊢
                                  refine pure_ (i := 0) (N := some 24) (v := ?_) (a' := ?_) #[true, false, false, false, false, false, false, false, false, false, false, false, false, false, false, false, false, false, false, false, false, false] rfl rfl (any_of HT_.out (by kernel_rfl)) (fun _ _ _ h => h) (Or.inl ⟨by rfl, ?_⟩) ?_ ?_
                                  rotate_left
                                  · intro w'
                                    go_simp
                                    with_reducible rfl
                                  rotate_left
                                  · simp only [Act.put, List.setIfInBounds_toArray, List.set_cons_zero, List.set_cons_succ, i64_w, i32_w]
                                    rfl
                                  refine pure_ (i := 1) (N := some 25) (v := ?_) (a' := ?_) #[true, true, false, false, false, false, false, false, false, false, false, false, false, false, false, false, false, false, false, false, false, false] rfl rfl (any_of HT_.out (by kernel_rfl)) (fun _ _ _ h => h) (Or.inl ⟨by rfl, ?_⟩) ?_ ?_
                                  rotate_left
                                  · intro w'
                                    go_simp
                                    with_reducible rfl
                                  rotate_left
                                  · simp only [Act.put, List.setIfInBounds_toArray, List.set_cons_zero, List.set_cons_succ, i64_w, i32_w]
                                    rfl
                                  refine pure_ (i := 2) (N := some 26) (v := ?_) (a' := ?_) #[true, true, true, false, false, false, false, false, false, false, false, false, false, false, false, false, false, false, false, false, false, false] rfl rfl (any_of HT_.out (by kernel_rfl)) (fun _ _ _ h => h) (Or.inl ⟨by rfl, ?_⟩) ?_ ?_
                                  rotate_left
                                  · intro w'
                                    go_simp
                                    with_reducible rfl
                                  rotate_left
                                  · simp only [Act.put, List.setIfInBounds_toArray, List.set_cons_zero, List.set_cons_succ, i64_w, i32_w]
                                    rfl
                                  refine pure_ (i := 3) (N := some 27) (v := ?_) (a' := ?_) #[true, true, true, true, false, false, false, false, false, false, false, false, false, false, false, false, false, false, false, false, false, false] rfl rfl (any_of HT_.out (by kernel_rfl)) (fun _ _ _ h => h) (Or.inl ⟨by rfl, ?_⟩) ?_ ?_
                                  rotate_left
                                  · intro w'
                                    go_simp
                                    with_reducible rfl
                                  rotate_left
                                  · simp only [Act.put, List.setIfInBounds_toArray, List.set_cons_zero, List.set_cons_succ, i64_w, i32_w]
                                    rfl
                                  refine pure_ (i := 5) (N := some 29) (v := ?_) (a' := ?_) #[true, true, true, true, false, true, false, false, false, false, false, false, false, false, false, false, false, false, false, false, false, false] rfl rfl (any_of HT_.out (by kernel_rfl)) (fun _ _ _ h => h) (Or.inl ⟨by rfl, ?_⟩) ?_ ?_
                                  rotate_left
                                  · intro w'
                                    go_simp
                                    with_reducible rfl
                                  rotate_left
                                  · simp only [Act.put, List.setIfInBounds_toArray, List.set_cons_zero, List.set_cons_succ, i64_w, i32_w]
                                    rfl
                                  refine pure_ (i := 6) (N := some 30) (v := ?_) (a' := ?_) #[true, true, true, true, false, true, true, false, false, false, false, false, false, false, false, false, false, false, false, false, false, false] rfl rfl (any_of HT_.out (by kernel_rfl)) (fun _ _ _ h => h) (Or.inl ⟨by rfl, ?_⟩) ?_ ?_
                                  rotate_left
                                  · intro w'
                                    go_simp
                                    with_reducible rfl
                                  rotate_left
                                  · simp only [Act.put, List.setIfInBounds_toArray, List.set_cons_zero, List.set_cons_succ, i64_w, i32_w]
                                    rfl
                                  refine pure_ (i := 7) (N := some 31) (v := ?_) (a' := ?_) #[true, true, true, true, false, true, true, true, false, false, false, false, false, false, false, false, false, false, false, false, false, false] rfl rfl (any_of HT_.out (by kernel_rfl)) (fun _ _ _ h => h) (Or.inl ⟨by rfl, ?_⟩) ?_ ?_
                                  rotate_left
                                  · intro w'
                                    go_simp
                                    with_reducible rfl
                                  rotate_left
                                  · simp only [Act.put, List.setIfInBounds_toArray, List.set_cons_zero, List.set_cons_succ, i64_w, i32_w]
                                    rfl
                                  refine pure_ (i := 8) (N := some 32) (v := ?_) (a' := ?_) #[true, true, true, true, false, true, true, true, true, false, false, false, false, false, false, false, false, false, false, false, false, false] rfl rfl (any_of HT_.out (by kernel_rfl)) (fun _ _ _ h => h) (Or.inl ⟨by rfl, ?_⟩) ?_ ?_
                                  rotate_left
                                  · intro w'
                                    go_simp
                                    with_reducible rfl
                                  rotate_left
                                  · simp only [Act.put, List.setIfInBounds_toArray, List.set_cons_zero, List.set_cons_succ, i64_w, i32_w]
                                    rfl
                                  refine take_ (i := 4) (N := some 28) (v := ?_) (a' := ?_) #[true, true, true, true, true, true, true, true, true, false, false, false, false, false, false, false, false, false, false, false, false, false] rfl rfl (take_ofW HT_.out HW_.out (by kernel_rfl)) (fun _ _ _ h => h) (Or.inl ⟨by rfl, ?_⟩) hHeld ?_ ?_
                                  rotate_left
                                  · rintro w' ⟨s0, s1, s2, s3, s4, s5, s6, s7, s8, s9, s10, s11, s12, s13, s14, s15, s16, s17, s18, s19, s20, s21, s22, s23, s24, s25, s26, s27⟩
                                    go_simp
                                    with_reducible rfl
                                  rotate_left
                                  · simp only [Act.put, List.setIfInBounds_toArray, List.set_cons_zero, List.set_cons_succ, i64_w, i32_w]
                                    rfl
                                  refine take_ (i := 9) (N := some 33) (v := ?_) (a' := ?_) #[true, true, true, true, true, true, true, true, true, true, false, false, false, false, false, false, false, false, false, false, false, false] rfl rfl (take_ofW HT_.out HW_.out (by kernel_rfl)) (fun _ _ _ h => h) (Or.inl ⟨by rfl, ?_⟩) hHeld ?_ ?_
                                  rotate_left
                                  · rintro w' ⟨s0, s1, s2, s3, s4, s5, s6, s7, s8, s9, s10, s11, s12, s13, s14, s15, s16, s17, s18, s19, s20, s21, s22, s23, s24, s25, s26, s27⟩
                                    go_simp
                                    with_reducible rfl
                                  rotate_left
                                  · simp only [Act.put, List.setIfInBounds_toArray, List.set_cons_zero, List.set_cons_succ, i64_w, i32_w]
                                    rfl
                                  refine pure_ (i := 10) (N := some 34) (v := ?_) (a' := ?_) #[true, true, true, true, true, true, true, true, true, true, true, false, false, false, false, false, false, false, false, false, false, false] rfl rfl (any_of HT_.out (by kernel_rfl)) (fun _ _ _ h => h) (Or.inl ⟨by rfl, ?_⟩) ?_ ?_
                                  rotate_left
                                  · intro w'
                                    go_simp
                                    with_reducible rfl
                                  rotate_left
                                  · simp only [Act.put, List.setIfInBounds_toArray, List.set_cons_zero, List.set_cons_succ, i64_w, i32_w]
                                    rfl
                                  refine pure_ (i := 11) (N := some 35) (v := ?_) (a' := ?_) #[true, true, true, true, true, true, true, true, true, true, true, true, false, false, false, false, false, false, false, false, false, false] rfl rfl (any_of HT_.out (by kernel_rfl)) (fun _ _ _ h => h) (Or.inl ⟨by rfl, ?_⟩) ?_ ?_
                                  rotate_left
                                  · intro w'
                                    go_simp
                                    with_reducible rfl
                                  rotate_left
                                  · simp only [Act.put, List.setIfInBounds_toArray, List.set_cons_zero, List.set_cons_succ, i64_w, i32_w]
                                    rfl
                                  refine pure_ (i := 12) (N := some 36) (v := ?_) (a' := ?_) #[true, true, true, true, true, true, true, true, true, true, true, true, true, false, false, false, false, false, false, false, false, false] rfl rfl (any_of HT_.out (by kernel_rfl)) (fun _ _ _ h => h) (Or.inl ⟨by rfl, ?_⟩) ?_ ?_
                                  rotate_left
                                  · intro w'
                                    go_simp
                                    with_reducible rfl
                                  rotate_left
                                  · simp only [Act.put, List.setIfInBounds_toArray, List.set_cons_zero, List.set_cons_succ, i64_w, i32_w]
                                    rfl
                                  refine pure_ (i := 13) (N := some 37) (v := ?_) (a' := ?_) #[true, true, true, true, true, true, true, true, true, true, true, true, true, true, false, false, false, false, false, false, false, false] rfl rfl (any_of HT_.out (by kernel_rfl)) (fun _ _ _ h => h) (Or.inl ⟨by rfl, ?_⟩) ?_ ?_
                                  rotate_left
                                  · intro w'
                                    go_simp
                                    with_reducible rfl
                                  rotate_left
                                  · simp only [Act.put, List.setIfInBounds_toArray, List.set_cons_zero, List.set_cons_succ, i64_w, i32_w]
                                    rfl
                                  refine pure_ (i := 14) (N := some 38) (v := ?_) (a' := ?_) #[true, true, true, true, true, true, true, true, true, true, true, true, true, true, true, false, false, false, false, false, false, false] rfl rfl (any_of HT_.out (by kernel_rfl)) (fun _ _ _ h => h) (Or.inl ⟨by rfl, ?_⟩) ?_ ?_
                                  rotate_left
                                  · intro w'
                                    go_simp
                                    with_reducible rfl
                                  rotate_left
                                  · simp only [Act.put, List.setIfInBounds_toArray, List.set_cons_zero, List.set_cons_succ, i64_w, i32_w]
                                    rfl
                                  refine pure_ (i := 16) (N := some 40) (v := ?_) (a' := ?_) #[true, true, true, true, true, true, true, true, true, true, true, true, true, true, true, false, true, false, false, false, false, false] rfl rfl (any_of HT_.out (by kernel_rfl)) (fun _ _ _ h => h) (Or.inl ⟨by rfl, ?_⟩) ?_ ?_
                                  rotate_left
                                  · intro w'
                                    go_simp
                                    with_reducible rfl
                                  rotate_left
                                  · simp only [Act.put, List.setIfInBounds_toArray, List.set_cons_zero, List.set_cons_succ, i64_w, i32_w]
                                    rfl
                                  refine pure_ (i := 17) (N := some 41) (v := ?_) (a' := ?_) #[true, true, true, true, true, true, true, true, true, true, true, true, true, true, true, false, true, true, false, false, false, false] rfl rfl (any_of HT_.out (by kernel_rfl)) (fun _ _ _ h => h) (Or.inl ⟨by rfl, ?_⟩) ?_ ?_
                                  rotate_left
                                  · intro w'
                                    go_simp
                                    with_reducible rfl
                                  rotate_left
                                  · simp only [Act.put, List.setIfInBounds_toArray, List.set_cons_zero, List.set_cons_succ, i64_w, i32_w]
                                    rfl
                                  refine pure_ (i := 18) (N := some 42) (v := ?_) (a' := ?_) #[true, true, true, true, true, true, true, true, true, true, true, true, true, true, true, false, true, true, true, false, false, false] rfl rfl (any_of HT_.out (by kernel_rfl)) (fun _ _ _ h => h) (Or.inl ⟨by rfl, ?_⟩) ?_ ?_
                                  rotate_left
                                  · intro w'
                                    go_simp
                                    with_reducible rfl
                                  rotate_left
                                  · simp only [Act.put, List.setIfInBounds_toArray, List.set_cons_zero, List.set_cons_succ, i64_w, i32_w]
                                    rfl
                                  refine take_ (i := 15) (N := some 39) (v := ?_) (a' := ?_) #[true, true, true, true, true, true, true, true, true, true, true, true, true, true, true, true, true, true, true, false, false, false] rfl rfl (take_ofW HT_.out HW_.out (by kernel_rfl)) (fun _ _ _ h => h) (Or.inl ⟨by rfl, ?_⟩) hHeld ?_ ?_
                                  rotate_left
                                  · rintro w' ⟨s0, s1, s2, s3, s4, s5, s6, s7, s8, s9, s10, s11, s12, s13, s14, s15, s16, s17, s18, s19, s20, s21, s22, s23, s24, s25, s26, s27⟩
                                    go_simp
                                    with_reducible rfl
                                  rotate_left
                                  · simp only [Act.put, List.setIfInBounds_toArray, List.set_cons_zero, List.set_cons_succ, i64_w, i32_w]
                                    rfl
                                  refine take_ (i := 19) (N := some 43) (v := ?_) (a' := ?_) #[true, true, true, true, true, true, true, true, true, true, true, true, true, true, true, true, true, true, true, true, false, false] rfl rfl (take_ofW HT_.out HW_.out (by kernel_rfl)) (fun _ _ _ h => h) (Or.inl ⟨by rfl, ?_⟩) hHeld ?_ ?_
                                  rotate_left
                                  · rintro w' ⟨s0, s1, s2, s3, s4, s5, s6, s7, s8, s9, s10, s11, s12, s13, s14, s15, s16, s17, s18, s19, s20, s21, s22, s23, s24, s25, s26, s27⟩
                                    go_simp
                                    with_reducible rfl
                                  rotate_left
                                  · simp only [Act.put, List.setIfInBounds_toArray, List.set_cons_zero, List.set_cons_succ, i64_w, i32_w]
                                    rfl
                                  refine one_ (i := 20) (N := some 44) #[true, true, true, true, true, true, true, true, true, true, true, true, true, true, true, true, true, true, true, true, true, false] rfl rfl (one_of HT_.out (by kernel_rfl)) (by decide) (fun K hK => ?_)
                                  refine goes_ Try.func28 (by kernel_rfl) rfl #[.agg #[.int .i64 ((rd_T31 l0 x4_2).f0), .int .i64 ((rd_T31 l0 x4_2).f1), .int .i64 ((rd_T31 l0 x4_2).f2), .int .i64 ((rd_T31 l0 x4_2).f3), .int .i64 ((rd_T31 l0 x4_2).f4), .bool ((rd_T31 l0 x4_2).f5), .bool ((rd_T31 l0 x4_2).f6)], .agg #[.int .i64 ((rd_T31 l0 x10_1).f0), .int .i64 ((rd_T31 l0 x10_1).f1), .int .i64 ((rd_T31 l0 x10_1).f2), .int .i64 ((rd_T31 l0 x10_1).f3), .int .i64 ((rd_T31 l0 x10_1).f4), .bool ((rd_T31 l0 x10_1).f5), .bool ((rd_T31 l0 x10_1).f6)]] (by rfl) rfl rfl (by (try simp only [List.map_toArray, List.map_cons, List.map_nil]); first | done | rfl | (simp only [List.length_drop, List.length_take]; rfl)) ?_
                                  with_reducible refine (gatehouseref05_Meet.calls ((rd_T31 l0 x4_2).f0) ((rd_T31 l0 x4_2).f1) ((rd_T31 l0 x4_2).f2) ((rd_T31 l0 x4_2).f3) ((rd_T31 l0 x4_2).f4) ((rd_T31 l0 x4_2).f5) ((rd_T31 l0 x4_2).f6) ((rd_T31 l0 x10_1).f0) ((rd_T31 l0 x10_1).f1) ((rd_T31 l0 x10_1).f2) ((rd_T31 l0 x10_1).f3) ((rd_T31 l0 x10_1).f4) ((rd_T31 l0 x10_1).f5) ((rd_T31 l0 x10_1).f6) true _ A16.out).mono ?_
                                  rintro e w19 ⟨rfl, hb⟩
                                  refine ⟨_, rfl, ?_⟩
                                  have n0_ := Aside0.mk (below_step (by repeat (first | (with_reducible first | exact HB.out | apply below_alloc | apply pw_below_drewN | apply below_drew1) | exact HB.out)) hb)
                                  clear HB
                                  have HB := n0_
                                  clear n0_
                                  (try clear hb)
                                  (try clear hb2)
                                  (try clear hk)
                                  (try clear hi)
                                  refine hK.out _ _ ⟨((HB.out.cell (World.block_lt_of_cell? w _ hw182_0)).trans hw182_0), ((HB.out.cell (World.block_lt_of_cell? w _ hw182_1)).trans hw182_1), ((HB.out.cell (World.block_lt_of_cell? w _ hw182_2)).trans hw182_2), ((HB.out.cell (World.block_lt_of_cell? w _ hw182_3)).trans hw182_3), ((HB.out.cell (World.block_lt_of_cell? w _ hw182_4)).trans hw182_4), ((HB.out.cell (World.block_lt_of_cell? w _ hw182_5)).trans hw182_5), ((HB.out.cell (World.block_lt_of_cell? w _ hw182_6)).trans hw182_6), ((HB.out.cell (World.block_lt_of_cell? w _ hw183_0)).trans hw183_0), ((HB.out.cell (World.block_lt_of_cell? w _ hw183_1)).trans hw183_1), ((HB.out.cell (World.block_lt_of_cell? w _ hw183_2)).trans hw183_2), ((HB.out.cell (World.block_lt_of_cell? w _ hw183_3)).trans hw183_3), ((HB.out.cell (World.block_lt_of_cell? w _ hw183_4)).trans hw183_4), ((HB.out.cell (World.block_lt_of_cell? w _ hw183_5)).trans hw183_5), ((HB.out.cell (World.block_lt_of_cell? w _ hw183_6)).trans hw183_6), ((HB.out.cell (World.block_lt_of_cell? w _ hw184_0)).trans hw184_0), ((HB.out.cell (World.block_lt_of_cell? w _ hw184_1)).trans hw184_1), ((HB.out.cell (World.block_lt_of_cell? w _ hw184_2)).trans hw184_2), ((HB.out.cell (World.block_lt_of_cell? w _ hw184_3)).trans hw184_3), ((HB.out.cell (World.block_lt_of_cell? w _ hw184_4)).trans hw184_4), ((HB.out.cell (World.block_lt_of_cell? w _ hw184_5)).trans hw184_5), ((HB.out.cell (World.block_lt_of_cell? w _ hw184_6)).trans hw184_6), ((HB.out.cell (World.block_lt_of_cell? w _ hw185_0)).trans hw185_0), ((HB.out.cell (World.block_lt_of_cell? w _ hw185_1)).trans hw185_1), ((HB.out.cell (World.block_lt_of_cell? w _ hw185_2)).trans hw185_2), ((HB.out.cell (World.block_lt_of_cell? w _ hw185_3)).trans hw185_3), ((HB.out.cell (World.block_lt_of_cell? w _ hw185_4)).trans hw185_4), ((HB.out.cell (World.block_lt_of_cell? w _ hw185_5)).trans hw185_5), ((HB.out.cell (World.block_lt_of_cell? w _ hw185_6)).trans hw185_6)⟩ (fun hHeld => ?_)
                                  clear hK K
                                  refine norm_ (a' := ?_) ?_ ?_
                                  rotate_left
                                  · show Act.put _ (some 44) _ = _
                                    simp only [Act.put, List.setIfInBounds_toArray, List.set_cons_zero, List.set_cons_succ, i64_w, i32_w]
                                    rfl
                                  refine pure_ (i := 21) (N := some 45) (v := ?_) (a' := ?_) #[true, true, true, true, true, true, true, true, true, true, true, true, true, true, true, true, true, true, true, true, true, true] rfl rfl (any_of HT_.out (by kernel_rfl)) (fun _ _ _ h => h) (Or.inl ⟨by rfl, ?_⟩) ?_ ?_
                                  rotate_left
                                  · intro w'
                                    go_simp
                                    with_reducible rfl
                                  rotate_left
                                  · simp only [Act.put, List.setIfInBounds_toArray, List.set_cons_zero, List.set_cons_succ, i64_w, i32_w]
                                    rfl
                                  refine done_ (done_of HT_.out (by kernel_rfl)) ?_
                                  try go_wp2
                                  go_ret
                                  exact ⟨by first | rfl | (simp [errW_none, errW_some] <;> rfl) | (simp [*, errW_none, errW_some] <;> rfl), by repeat (first | (with_reducible first | exact HB.out | apply below_alloc | apply pw_below_drewN | apply below_drew1) | exact HB.out)⟩
                                · replace c17 := Bool.eq_false_iff.mpr c17
                                  subst c17
                                  have H1 : (gatehouseref05_Right.l1 k2 l0 x10_1 (wrap64 (x4_2 + 1)) (l0.length : Int) x10_1) = some r := by rw [if_neg (show ¬ (false = true) by decide)] at H; exact H
                                  clear H
                                  have H := H1
                                  clear H1
                                  have H' := Aside0.mk H
                                  clear H
                                  try go_wp2
                                  have n0_ := Aside0.mk (below_drew1 HB.out)
                                  clear HB
                                  have HB := n0_
                                  clear n0_
                                  have p182 : 0 ≤ (x4_2 : Int) := of_decide_eq_true (by first | (with_reducible assumption) | assumption)
                                  have q182 : x4_2 < (l0.length : Int) := of_decide_eq_true (by first | (with_reducible assumption) | assumption)
                                  obtain ⟨ad182, e182, hx182_0, hx182_1, hx182_2, hx182_3, hx182_4, hx182_5, hx182_6⟩ := at_T31 HR0.out x4_2 p182 q182
                                  have hw182_6 := hx182_6
                                  have hw182_5 := hx182_5
                                  have hw182_4 := hx182_4
                                  have hw182_3 := hx182_3
                                  have hw182_2 := hx182_2
                                  have hw182_1 := hx182_1
                                  have hw182_0 := hx182_0
                                  obtain rfl : ad180 = ad182 := (by injection e182)
                                  replace hx182_0 := (HB.out.cell (World.block_lt_of_cell? w _ hx182_0)).trans hx182_0
                                  replace hx182_1 := (HB.out.cell (World.block_lt_of_cell? w _ hx182_1)).trans hx182_1
                                  replace hx182_2 := (HB.out.cell (World.block_lt_of_cell? w _ hx182_2)).trans hx182_2
                                  replace hx182_3 := (HB.out.cell (World.block_lt_of_cell? w _ hx182_3)).trans hx182_3
                                  replace hx182_4 := (HB.out.cell (World.block_lt_of_cell? w _ hx182_4)).trans hx182_4
                                  replace hx182_5 := (HB.out.cell (World.block_lt_of_cell? w _ hx182_5)).trans hx182_5
                                  replace hx182_6 := (HB.out.cell (World.block_lt_of_cell? w _ hx182_6)).trans hx182_6
                                  replace p182 := eq_true p182
                                  replace q182 := eq_true q182
                                  have p183 : 0 ≤ (x10_1 : Int) := of_decide_eq_true (by first | (with_reducible assumption) | assumption)
                                  have q183 : x10_1 < (l0.length : Int) := of_decide_eq_true (by first | (with_reducible assumption) | assumption)
                                  obtain ⟨ad183, e183, hx183_0, hx183_1, hx183_2, hx183_3, hx183_4, hx183_5, hx183_6⟩ := at_T31 HR0.out x10_1 p183 q183
                                  have hw183_6 := hx183_6
                                  have hw183_5 := hx183_5
                                  have hw183_4 := hx183_4
                                  have hw183_3 := hx183_3
                                  have hw183_2 := hx183_2
                                  have hw183_1 := hx183_1
                                  have hw183_0 := hx183_0
                                  obtain rfl : ad180 = ad183 := (by injection e183)
                                  replace hx183_0 := (HB.out.cell (World.block_lt_of_cell? w _ hx183_0)).trans hx183_0
                                  replace hx183_1 := (HB.out.cell (World.block_lt_of_cell? w _ hx183_1)).trans hx183_1
                                  replace hx183_2 := (HB.out.cell (World.block_lt_of_cell? w _ hx183_2)).trans hx183_2
                                  replace hx183_3 := (HB.out.cell (World.block_lt_of_cell? w _ hx183_3)).trans hx183_3
                                  replace hx183_4 := (HB.out.cell (World.block_lt_of_cell? w _ hx183_4)).trans hx183_4
                                  replace hx183_5 := (HB.out.cell (World.block_lt_of_cell? w _ hx183_5)).trans hx183_5
                                  replace hx183_6 := (HB.out.cell (World.block_lt_of_cell? w _ hx183_6)).trans hx183_6
                                  replace p183 := eq_true p183
                                  replace q183 := eq_true q183
                                  have p184 : 0 ≤ (x4_2 : Int) := of_decide_eq_true (by first | (with_reducible assumption) | assumption)
                                  have q184 : x4_2 < (l0.length : Int) := of_decide_eq_true (by first | (with_reducible assumption) | assumption)
                                  obtain ⟨ad184, e184, hx184_0, hx184_1, hx184_2, hx184_3, hx184_4, hx184_5, hx184_6⟩ := at_T31 HR0.out x4_2 p184 q184
                                  have hw184_6 := hx184_6
                                  have hw184_5 := hx184_5
                                  have hw184_4 := hx184_4
                                  have hw184_3 := hx184_3
                                  have hw184_2 := hx184_2
                                  have hw184_1 := hx184_1
                                  have hw184_0 := hx184_0
                                  obtain rfl : ad180 = ad184 := (by injection e184)
                                  replace hx184_0 := (HB.out.cell (World.block_lt_of_cell? w _ hx184_0)).trans hx184_0
                                  replace hx184_1 := (HB.out.cell (World.block_lt_of_cell? w _ hx184_1)).trans hx184_1
                                  replace hx184_2 := (HB.out.cell (World.block_lt_of_cell? w _ hx184_2)).trans hx184_2
                                  replace hx184_3 := (HB.out.cell (World.block_lt_of_cell? w _ hx184_3)).trans hx184_3
                                  replace hx184_4 := (HB.out.cell (World.block_lt_of_cell? w _ hx184_4)).trans hx184_4
                                  replace hx184_5 := (HB.out.cell (World.block_lt_of_cell? w _ hx184_5)).trans hx184_5
                                  replace hx184_6 := (HB.out.cell (World.block_lt_of_cell? w _ hx184_6)).trans hx184_6
                                  replace p184 := eq_true p184
                                  replace q184 := eq_true q184
                                  have p185 : 0 ≤ (x10_1 : Int) := of_decide_eq_true (by first | (with_reducible assumption) | assumption)
                                  have q185 : x10_1 < (l0.length : Int) := of_decide_eq_true (by first | (with_reducible assumption) | assumption)
                                  obtain ⟨ad185, e185, hx185_0, hx185_1, hx185_2, hx185_3, hx185_4, hx185_5, hx185_6⟩ := at_T31 HR0.out x10_1 p185 q185
                                  have hw185_6 := hx185_6
                                  have hw185_5 := hx185_5
                                  have hw185_4 := hx185_4
                                  have hw185_3 := hx185_3
                                  have hw185_2 := hx185_2
                                  have hw185_1 := hx185_1
                                  have hw185_0 := hx185_0
                                  obtain rfl : ad180 = ad185 := (by injection e185)
                                  replace hx185_0 := (HB.out.cell (World.block_lt_of_cell? w _ hx185_0)).trans hx185_0
                                  replace hx185_1 := (HB.out.cell (World.block_lt_of_cell? w _ hx185_1)).trans hx185_1
                                  replace hx185_2 := (HB.out.cell (World.block_lt_of_cell? w _ hx185_2)).trans hx185_2
                                  replace hx185_3 := (HB.out.cell (World.block_lt_of_cell? w _ hx185_3)).trans hx185_3
                                  replace hx185_4 := (HB.out.cell (World.block_lt_of_cell? w _ hx185_4)).trans hx185_4
                                  replace hx185_5 := (HB.out.cell (World.block_lt_of_cell? w _ hx185_5)).trans hx185_5
                                  replace hx185_6 := (HB.out.cell (World.block_lt_of_cell? w _ hx185_6)).trans hx185_6
                                  replace p185 := eq_true p185
                                  replace q185 := eq_true q185
                                  refine start_ (n := 22) (S := fun w' => w'.cell? (ad180.add ((x4_2).toNat * 7)) = some (.int .i64 ((rd_T31 l0 x4_2).f0)) ∧ w'.cell? ⟨(ad180.add ((x4_2).toNat * 7)).block, (ad180.add ((x4_2).toNat * 7)).off + 1, none⟩ = some (.int .i64 ((rd_T31 l0 x4_2).f1)) ∧ w'.cell? ⟨(ad180.add ((x4_2).toNat * 7)).block, (ad180.add ((x4_2).toNat * 7)).off + 2, none⟩ = some (.int .i64 ((rd_T31 l0 x4_2).f2)) ∧ w'.cell? ⟨(ad180.add ((x4_2).toNat * 7)).block, (ad180.add ((x4_2).toNat * 7)).off + 3, none⟩ = some (.int .i64 ((rd_T31 l0 x4_2).f3)) ∧ w'.cell? ⟨(ad180.add ((x4_2).toNat * 7)).block, (ad180.add ((x4_2).toNat * 7)).off + 4, none⟩ = some (.int .i64 ((rd_T31 l0 x4_2).f4)) ∧ w'.cell? ⟨(ad180.add ((x4_2).toNat * 7)).block, (ad180.add ((x4_2).toNat * 7)).off + 5, none⟩ = some (.bool ((rd_T31 l0 x4_2).f5)) ∧ w'.cell? ⟨(ad180.add ((x4_2).toNat * 7)).block, (ad180.add ((x4_2).toNat * 7)).off + 6, none⟩ = some (.bool ((rd_T31 l0 x4_2).f6)) ∧ w'.cell? (ad180.add ((x10_1).toNat * 7)) = some (.int .i64 ((rd_T31 l0 x10_1).f0)) ∧ w'.cell? ⟨(ad180.add ((x10_1).toNat * 7)).block, (ad180.add ((x10_1).toNat * 7)).off + 1, none⟩ = some (.int .i64 ((rd_T31 l0 x10_1).f1)) ∧ w'.cell? ⟨(ad180.add ((x10_1).toNat * 7)).block, (ad180.add ((x10_1).toNat * 7)).off + 2, none⟩ = some (.int .i64 ((rd_T31 l0 x10_1).f2)) ∧ w'.cell? ⟨(ad180.add ((x10_1).toNat * 7)).block, (ad180.add ((x10_1).toNat * 7)).off + 3, none⟩ = some (.int .i64 ((rd_T31 l0 x10_1).f3)) ∧ w'.cell? ⟨(ad180.add ((x10_1).toNat * 7)).block, (ad180.add ((x10_1).toNat * 7)).off + 4, none⟩ = some (.int .i64 ((rd_T31 l0 x10_1).f4)) ∧ w'.cell? ⟨(ad180.add ((x10_1).toNat * 7)).block, (ad180.add ((x10_1).toNat * 7)).off + 5, none⟩ = some (.bool ((rd_T31 l0 x10_1).f5)) ∧ w'.cell? ⟨(ad180.add ((x10_1).toNat * 7)).block, (ad180.add ((x10_1).toNat * 7)).off + 6, none⟩ = some (.bool ((rd_T31 l0 x10_1).f6)) ∧ w'.cell? (ad180.add ((x4_2).toNat * 7)) = some (.int .i64 ((rd_T31 l0 x4_2).f0)) ∧ w'.cell? ⟨(ad180.add ((x4_2).toNat * 7)).block, (ad180.add ((x4_2).toNat * 7)).off + 1, none⟩ = some (.int .i64 ((rd_T31 l0 x4_2).f1)) ∧ w'.cell? ⟨(ad180.add ((x4_2).toNat * 7)).block, (ad180.add ((x4_2).toNat * 7)).off + 2, none⟩ = some (.int .i64 ((rd_T31 l0 x4_2).f2)) ∧ w'.cell? ⟨(ad180.add ((x4_2).toNat * 7)).block, (ad180.add ((x4_2).toNat * 7)).off + 3, none⟩ = some (.int .i64 ((rd_T31 l0 x4_2).f3)) ∧ w'.cell? ⟨(ad180.add ((x4_2).toNat * 7)).block, (ad180.add ((x4_2).toNat * 7)).off + 4, none⟩ = some (.int .i64 ((rd_T31 l0 x4_2).f4)) ∧ w'.cell? ⟨(ad180.add ((x4_2).toNat * 7)).block, (ad180.add ((x4_2).toNat * 7)).off + 5, none⟩ = some (.bool ((rd_T31 l0 x4_2).f5)) ∧ w'.cell? ⟨(ad180.add ((x4_2).toNat * 7)).block, (ad180.add ((x4_2).toNat * 7)).off + 6, none⟩ = some (.bool ((rd_T31 l0 x4_2).f6)) ∧ w'.cell? (ad180.add ((x10_1).toNat * 7)) = some (.int .i64 ((rd_T31 l0 x10_1).f0)) ∧ w'.cell? ⟨(ad180.add ((x10_1).toNat * 7)).block, (ad180.add ((x10_1).toNat * 7)).off + 1, none⟩ = some (.int .i64 ((rd_T31 l0 x10_1).f1)) ∧ w'.cell? ⟨(ad180.add ((x10_1).toNat * 7)).block, (ad180.add ((x10_1).toNat * 7)).off + 2, none⟩ = some (.int .i64 ((rd_T31 l0 x10_1).f2)) ∧ w'.cell? ⟨(ad180.add ((x10_1).toNat * 7)).block, (ad180.add ((x10_1).toNat * 7)).off + 3, none⟩ = some (.int .i64 ((rd_T31 l0 x10_1).f3)) ∧ w'.cell? ⟨(ad180.add ((x10_1).toNat * 7)).block, (ad180.add ((x10_1).toNat * 7)).off + 4, none⟩ = some (.int .i64 ((rd_T31 l0 x10_1).f4)) ∧ w'.cell? ⟨(ad180.add ((x10_1).toNat * 7)).block, (ad180.add ((x10_1).toNat * 7)).off + 5, none⟩ = some (.bool ((rd_T31 l0 x10_1).f5)) ∧ w'.cell? ⟨(ad180.add ((x10_1).toNat * 7)).block, (ad180.add ((x10_1).toNat * 7)).off + 6, none⟩ = some (.bool ((rd_T31 l0 x10_1).f6))) (ds := []) #[false, false, false, false, false, false, false, false, false, false, false, false, false, false, false, false, false, false, false, false, false, false] (by kernel_rfl) rfl rfl ⟨((HB.out.cell (World.block_lt_of_cell? w _ hw182_0)).trans hw182_0), ((HB.out.cell (World.block_lt_of_cell? w _ hw182_1)).trans hw182_1), ((HB.out.cell (World.block_lt_of_cell? w _ hw182_2)).trans hw182_2), ((HB.out.cell (World.block_lt_of_cell? w _ hw182_3)).trans hw182_3), ((HB.out.cell (World.block_lt_of_cell? w _ hw182_4)).trans hw182_4), ((HB.out.cell (World.block_lt_of_cell? w _ hw182_5)).trans hw182_5), ((HB.out.cell (World.block_lt_of_cell? w _ hw182_6)).trans hw182_6), ((HB.out.cell (World.block_lt_of_cell? w _ hw183_0)).trans hw183_0), ((HB.out.cell (World.block_lt_of_cell? w _ hw183_1)).trans hw183_1), ((HB.out.cell (World.block_lt_of_cell? w _ hw183_2)).trans hw183_2), ((HB.out.cell (World.block_lt_of_cell? w _ hw183_3)).trans hw183_3), ((HB.out.cell (World.block_lt_of_cell? w _ hw183_4)).trans hw183_4), ((HB.out.cell (World.block_lt_of_cell? w _ hw183_5)).trans hw183_5), ((HB.out.cell (World.block_lt_of_cell? w _ hw183_6)).trans hw183_6), ((HB.out.cell (World.block_lt_of_cell? w _ hw184_0)).trans hw184_0), ((HB.out.cell (World.block_lt_of_cell? w _ hw184_1)).trans hw184_1), ((HB.out.cell (World.block_lt_of_cell? w _ hw184_2)).trans hw184_2), ((HB.out.cell (World.block_lt_of_cell? w _ hw184_3)).trans hw184_3), ((HB.out.cell (World.block_lt_of_cell? w _ hw184_4)).trans hw184_4), ((HB.out.cell (World.block_lt_of_cell? w _ hw184_5)).trans hw184_5), ((HB.out.cell (World.block_lt_of_cell? w _ hw184_6)).trans hw184_6), ((HB.out.cell (World.block_lt_of_cell? w _ hw185_0)).trans hw185_0), ((HB.out.cell (World.block_lt_of_cell? w _ hw185_1)).trans hw185_1), ((HB.out.cell (World.block_lt_of_cell? w _ hw185_2)).trans hw185_2), ((HB.out.cell (World.block_lt_of_cell? w _ hw185_3)).trans hw185_3), ((HB.out.cell (World.block_lt_of_cell? w _ hw185_4)).trans hw185_4), ((HB.out.cell (World.block_lt_of_cell? w _ hw185_5)).trans hw185_5), ((HB.out.cell (World.block_lt_of_cell? w _ hw185_6)).trans hw185_6)⟩ (fun hHeld => ?_); refine with_tabW gatehouseref05_Right.tab11 gatehouseref05_Right.bits11 (fun HT_ HW_ => ?_)
                                  generalize wr.drew = w20 at HB hx182_0 hx182_1 hx182_2 hx182_3 hx182_4 hx182_5 hx182_6 hx183_0 hx183_1 hx183_2 hx183_3 hx183_4 hx183_5 hx183_6 hx184_0 hx184_1 hx184_2 hx184_3 hx184_4 hx184_5 hx184_6 hx185_0 hx185_1 hx185_2 hx185_3 hx185_4 hx185_5 hx185_6 hHeld ⊢
                                  refine pure_ (i := 0) (N := some 24) (v := ?_) (a' := ?_) #[true, false, false, false, false, false, false, false, false, false, false, false, false, false, false, false, false, false, false, false, false, false] rfl rfl (any_of HT_.out (by kernel_rfl)) (fun _ _ _ h => h) (Or.inl ⟨by rfl, ?_⟩) ?_ ?_
                                  rotate_left
                                  · intro w'
                                    go_simp
                                    with_reducible rfl
                                  rotate_left
                                  · simp only [Act.put, List.setIfInBounds_toArray, List.set_cons_zero, List.set_cons_succ, i64_w, i32_w]
                                    rfl
                                  refine pure_ (i := 1) (N := some 25) (v := ?_) (a' := ?_) #[true, true, false, false, false, false, false, false, false, false, false, false, false, false, false, false, false, false, false, false, false, false] rfl rfl (any_of HT_.out (by kernel_rfl)) (fun _ _ _ h => h) (Or.inl ⟨by rfl, ?_⟩) ?_ ?_
                                  rotate_left
                                  · intro w'
                                    go_simp
                                    with_reducible rfl
                                  rotate_left
                                  · simp only [Act.put, List.setIfInBounds_toArray, List.set_cons_zero, List.set_cons_succ, i64_w, i32_w]
                                    rfl
                                  refine pure_ (i := 2) (N := some 26) (v := ?_) (a' := ?_) #[true, true, true, false, false, false, false, false, false, false, false, false, false, false, false, false, false, false, false, false, false, false] rfl rfl (any_of HT_.out (by kernel_rfl)) (fun _ _ _ h => h) (Or.inl ⟨by rfl, ?_⟩) ?_ ?_
                                  rotate_left
                                  · intro w'
                                    go_simp
                                    with_reducible rfl
                                  rotate_left
                                  · simp only [Act.put, List.setIfInBounds_toArray, List.set_cons_zero, List.set_cons_succ, i64_w, i32_w]
                                    rfl
                                  refine pure_ (i := 3) (N := some 27) (v := ?_) (a' := ?_) #[true, true, true, true, false, false, false, false, false, false, false, false, false, false, false, false, false, false, false, false, false, false] rfl rfl (any_of HT_.out (by kernel_rfl)) (fun _ _ _ h => h) (Or.inl ⟨by rfl, ?_⟩) ?_ ?_
                                  rotate_left
                                  · intro w'
                                    go_simp
                                    with_reducible rfl
                                  rotate_left
                                  · simp only [Act.put, List.setIfInBounds_toArray, List.set_cons_zero, List.set_cons_succ, i64_w, i32_w]
                                    rfl
                                  refine pure_ (i := 5) (N := some 29) (v := ?_) (a' := ?_) #[true, true, true, true, false, true, false, false, false, false, false, false, false, false, false, false, false, false, false, false, false, false] rfl rfl (any_of HT_.out (by kernel_rfl)) (fun _ _ _ h => h) (Or.inl ⟨by rfl, ?_⟩) ?_ ?_
                                  rotate_left
                                  · intro w'
                                    go_simp
                                    with_reducible rfl
                                  rotate_left
                                  · simp only [Act.put, List.setIfInBounds_toArray, List.set_cons_zero, List.set_cons_succ, i64_w, i32_w]
                                    rfl
                                  refine pure_ (i := 6) (N := some 30) (v := ?_) (a' := ?_) #[true, true, true, true, false, true, true, false, false, false, false, false, false, false, false, false, false, false, false, false, false, false] rfl rfl (any_of HT_.out (by kernel_rfl)) (fun _ _ _ h => h) (Or.inl ⟨by rfl, ?_⟩) ?_ ?_
                                  rotate_left
                                  · intro w'
                                    go_simp
                                    with_reducible rfl
                                  rotate_left
                                  · simp only [Act.put, List.setIfInBounds_toArray, List.set_cons_zero, List.set_cons_succ, i64_w, i32_w]
                                    rfl
                                  refine pure_ (i := 7) (N := some 31) (v := ?_) (a' := ?_) #[true, true, true, true, false, true, true, true, false, false, false, false, false, false, false, false, false, false, false, false, false, false] rfl rfl (any_of HT_.out (by kernel_rfl)) (fun _ _ _ h => h) (Or.inl ⟨by rfl, ?_⟩) ?_ ?_
                                  rotate_left
                                  · intro w'
                                    go_simp
                                    with_reducible rfl
                                  rotate_left
                                  · simp only [Act.put, List.setIfInBounds_toArray, List.set_cons_zero, List.set_cons_succ, i64_w, i32_w]
                                    rfl
                                  refine pure_ (i := 8) (N := some 32) (v := ?_) (a' := ?_) #[true, true, true, true, false, true, true, true, true, false, false, false, false, false, false, false, false, false, false, false, false, false] rfl rfl (any_of HT_.out (by kernel_rfl)) (fun _ _ _ h => h) (Or.inl ⟨by rfl, ?_⟩) ?_ ?_
                                  rotate_left
                                  · intro w'
                                    go_simp
                                    with_reducible rfl
                                  rotate_left
                                  · simp only [Act.put, List.setIfInBounds_toArray, List.set_cons_zero, List.set_cons_succ, i64_w, i32_w]
                                    rfl
                                  refine take_ (i := 4) (N := some 28) (v := ?_) (a' := ?_) #[true, true, true, true, true, true, true, true, true, false, false, false, false, false, false, false, false, false, false, false, false, false] rfl rfl (take_ofW HT_.out HW_.out (by kernel_rfl)) (fun _ _ _ h => h) (Or.inl ⟨by rfl, ?_⟩) hHeld ?_ ?_
                                  rotate_left
                                  · rintro w' ⟨s0, s1, s2, s3, s4, s5, s6, s7, s8, s9, s10, s11, s12, s13, s14, s15, s16, s17, s18, s19, s20, s21, s22, s23, s24, s25, s26, s27⟩
                                    go_simp
                                    with_reducible rfl
                                  rotate_left
                                  · simp only [Act.put, List.setIfInBounds_toArray, List.set_cons_zero, List.set_cons_succ, i64_w, i32_w]
                                    rfl
                                  refine take_ (i := 9) (N := some 33) (v := ?_) (a' := ?_) #[true, true, true, true, true, true, true, true, true, true, false, false, false, false, false, false, false, false, false, false, false, false] rfl rfl (take_ofW HT_.out HW_.out (by kernel_rfl)) (fun _ _ _ h => h) (Or.inl ⟨by rfl, ?_⟩) hHeld ?_ ?_
                                  rotate_left
                                  · rintro w' ⟨s0, s1, s2, s3, s4, s5, s6, s7, s8, s9, s10, s11, s12, s13, s14, s15, s16, s17, s18, s19, s20, s21, s22, s23, s24, s25, s26, s27⟩
                                    go_simp
                                    with_reducible rfl
                                  rotate_left
                                  · simp only [Act.put, List.setIfInBounds_toArray, List.set_cons_zero, List.set_cons_succ, i64_w, i32_w]
                                    rfl
                                  refine pure_ (i := 10) (N := some 34) (v := ?_) (a' := ?_) #[true, true, true, true, true, true, true, true, true, true, true, false, false, false, false, false, false, false, false, false, false, false] rfl rfl (any_of HT_.out (by kernel_rfl)) (fun _ _ _ h => h) (Or.inl ⟨by rfl, ?_⟩) ?_ ?_
                                  rotate_left
                                  · intro w'
                                    go_simp
                                    with_reducible rfl
                                  rotate_left
                                  · simp only [Act.put, List.setIfInBounds_toArray, List.set_cons_zero, List.set_cons_succ, i64_w, i32_w]
                                    rfl
                                  refine pure_ (i := 11) (N := some 35) (v := ?_) (a' := ?_) #[true, true, true, true, true, true, true, true, true, true, true, true, false, false, false, false, false, false, false, false, false, false] rfl rfl (any_of HT_.out (by kernel_rfl)) (fun _ _ _ h => h) (Or.inl ⟨by rfl, ?_⟩) ?_ ?_
                                  rotate_left
                                  · intro w'
                                    go_simp
                                    with_reducible rfl
                                  rotate_left
                                  · simp only [Act.put, List.setIfInBounds_toArray, List.set_cons_zero, List.set_cons_succ, i64_w, i32_w]
                                    rfl
                                  refine pure_ (i := 12) (N := some 36) (v := ?_) (a' := ?_) #[true, true, true, true, true, true, true, true, true, true, true, true, true, false, false, false, false, false, false, false, false, false] rfl rfl (any_of HT_.out (by kernel_rfl)) (fun _ _ _ h => h) (Or.inl ⟨by rfl, ?_⟩) ?_ ?_
                                  rotate_left
                                  · intro w'
                                    go_simp
                                    with_reducible rfl
                                  rotate_left
                                  · simp only [Act.put, List.setIfInBounds_toArray, List.set_cons_zero, List.set_cons_succ, i64_w, i32_w]
                                    rfl
                                  refine pure_ (i := 13) (N := some 37) (v := ?_) (a' := ?_) #[true, true, true, true, true, true, true, true, true, true, true, true, true, true, false, false, false, false, false, false, false, false] rfl rfl (any_of HT_.out (by kernel_rfl)) (fun _ _ _ h => h) (Or.inl ⟨by rfl, ?_⟩) ?_ ?_
                                  rotate_left
                                  · intro w'
                                    go_simp
                                    with_reducible rfl
                                  rotate_left
                                  · simp only [Act.put, List.setIfInBounds_toArray, List.set_cons_zero, List.set_cons_succ, i64_w, i32_w]
                                    rfl
                                  refine pure_ (i := 14) (N := some 38) (v := ?_) (a' := ?_) #[true, true, true, true, true, true, true, true, true, true, true, true, true, true, true, false, false, false, false, false, false, false] rfl rfl (any_of HT_.out (by kernel_rfl)) (fun _ _ _ h => h) (Or.inl ⟨by rfl, ?_⟩) ?_ ?_
                                  rotate_left
                                  · intro w'
                                    go_simp
                                    with_reducible rfl
                                  rotate_left
                                  · simp only [Act.put, List.setIfInBounds_toArray, List.set_cons_zero, List.set_cons_succ, i64_w, i32_w]
                                    rfl
                                  refine pure_ (i := 16) (N := some 40) (v := ?_) (a' := ?_) #[true, true, true, true, true, true, true, true, true, true, true, true, true, true, true, false, true, false, false, false, false, false] rfl rfl (any_of HT_.out (by kernel_rfl)) (fun _ _ _ h => h) (Or.inl ⟨by rfl, ?_⟩) ?_ ?_
                                  rotate_left
                                  · intro w'
                                    go_simp
                                    with_reducible rfl
                                  rotate_left
                                  · simp only [Act.put, List.setIfInBounds_toArray, List.set_cons_zero, List.set_cons_succ, i64_w, i32_w]
                                    rfl
                                  refine pure_ (i := 17) (N := some 41) (v := ?_) (a' := ?_) #[true, true, true, true, true, true, true, true, true, true, true, true, true, true, true, false, true, true, false, false, false, false] rfl rfl (any_of HT_.out (by kernel_rfl)) (fun _ _ _ h => h) (Or.inl ⟨by rfl, ?_⟩) ?_ ?_
                                  rotate_left
                                  · intro w'
                                    go_simp
                                    with_reducible rfl
                                  rotate_left
                                  · simp only [Act.put, List.setIfInBounds_toArray, List.set_cons_zero, List.set_cons_succ, i64_w, i32_w]
                                    rfl
                                  refine pure_ (i := 18) (N := some 42) (v := ?_) (a' := ?_) #[true, true, true, true, true, true, true, true, true, true, true, true, true, true, true, false, true, true, true, false, false, false] rfl rfl (any_of HT_.out (by kernel_rfl)) (fun _ _ _ h => h) (Or.inl ⟨by rfl, ?_⟩) ?_ ?_
                                  rotate_left
                                  · intro w'
                                    go_simp
                                    with_reducible rfl
                                  rotate_left
                                  · simp only [Act.put, List.setIfInBounds_toArray, List.set_cons_zero, List.set_cons_succ, i64_w, i32_w]
                                    rfl
                                  refine take_ (i := 15) (N := some 39) (v := ?_) (a' := ?_) #[true, true, true, true, true, true, true, true, true, true, true, true, true, true, true, true, true, true, true, false, false, false] rfl rfl (take_ofW HT_.out HW_.out (by kernel_rfl)) (fun _ _ _ h => h) (Or.inl ⟨by rfl, ?_⟩) hHeld ?_ ?_
                                  rotate_left
                                  · rintro w' ⟨s0, s1, s2, s3, s4, s5, s6, s7, s8, s9, s10, s11, s12, s13, s14, s15, s16, s17, s18, s19, s20, s21, s22, s23, s24, s25, s26, s27⟩
                                    go_simp
                                    with_reducible rfl
                                  rotate_left
                                  · simp only [Act.put, List.setIfInBounds_toArray, List.set_cons_zero, List.set_cons_succ, i64_w, i32_w]
                                    rfl
                                  refine take_ (i := 19) (N := some 43) (v := ?_) (a' := ?_) #[true, true, true, true, true, true, true, true, true, true, true, true, true, true, true, true, true, true, true, true, false, false] rfl rfl (take_ofW HT_.out HW_.out (by kernel_rfl)) (fun _ _ _ h => h) (Or.inl ⟨by rfl, ?_⟩) hHeld ?_ ?_
                                  rotate_left
                                  · rintro w' ⟨s0, s1, s2, s3, s4, s5, s6, s7, s8, s9, s10, s11, s12, s13, s14, s15, s16, s17, s18, s19, s20, s21, s22, s23, s24, s25, s26, s27⟩
                                    go_simp
                                    with_reducible rfl
                                  rotate_left
                                  · simp only [Act.put, List.setIfInBounds_toArray, List.set_cons_zero, List.set_cons_succ, i64_w, i32_w]
                                    rfl
                                  refine one_ (i := 20) (N := some 44) #[true, true, true, true, true, true, true, true, true, true, true, true, true, true, true, true, true, true, true, true, true, false] rfl rfl (one_of HT_.out (by kernel_rfl)) (by decide) (fun K hK => ?_)
                                  refine goes_ Try.func28 (by kernel_rfl) rfl #[.agg #[.int .i64 ((rd_T31 l0 x4_2).f0), .int .i64 ((rd_T31 l0 x4_2).f1), .int .i64 ((rd_T31 l0 x4_2).f2), .int .i64 ((rd_T31 l0 x4_2).f3), .int .i64 ((rd_T31 l0 x4_2).f4), .bool ((rd_T31 l0 x4_2).f5), .bool ((rd_T31 l0 x4_2).f6)], .agg #[.int .i64 ((rd_T31 l0 x10_1).f0), .int .i64 ((rd_T31 l0 x10_1).f1), .int .i64 ((rd_T31 l0 x10_1).f2), .int .i64 ((rd_T31 l0 x10_1).f3), .int .i64 ((rd_T31 l0 x10_1).f4), .bool ((rd_T31 l0 x10_1).f5), .bool ((rd_T31 l0 x10_1).f6)]] (by rfl) rfl rfl (by (try simp only [List.map_toArray, List.map_cons, List.map_nil]); first | done | rfl | (simp only [List.length_drop, List.length_take]; rfl)) ?_
                                  with_reducible refine (gatehouseref05_Meet.calls ((rd_T31 l0 x4_2).f0) ((rd_T31 l0 x4_2).f1) ((rd_T31 l0 x4_2).f2) ((rd_T31 l0 x4_2).f3) ((rd_T31 l0 x4_2).f4) ((rd_T31 l0 x4_2).f5) ((rd_T31 l0 x4_2).f6) ((rd_T31 l0 x10_1).f0) ((rd_T31 l0 x10_1).f1) ((rd_T31 l0 x10_1).f2) ((rd_T31 l0 x10_1).f3) ((rd_T31 l0 x10_1).f4) ((rd_T31 l0 x10_1).f5) ((rd_T31 l0 x10_1).f6) false _ A16.out).mono ?_
                                  rintro e w21 ⟨rfl, hb⟩
                                  refine ⟨_, rfl, ?_⟩
                                  have n0_ := Aside0.mk (below_step (by repeat (first | (with_reducible first | exact HB.out | apply below_alloc | apply pw_below_drewN | apply below_drew1) | exact HB.out)) hb)
                                  clear HB
                                  have HB := n0_
                                  clear n0_
                                  (try clear hb)
                                  (try clear hb2)
                                  (try clear hk)
                                  (try clear hi)
                                  refine hK.out _ _ ⟨((HB.out.cell (World.block_lt_of_cell? w _ hw182_0)).trans hw182_0), ((HB.out.cell (World.block_lt_of_cell? w _ hw182_1)).trans hw182_1), ((HB.out.cell (World.block_lt_of_cell? w _ hw182_2)).trans hw182_2), ((HB.out.cell (World.block_lt_of_cell? w _ hw182_3)).trans hw182_3), ((HB.out.cell (World.block_lt_of_cell? w _ hw182_4)).trans hw182_4), ((HB.out.cell (World.block_lt_of_cell? w _ hw182_5)).trans hw182_5), ((HB.out.cell (World.block_lt_of_cell? w _ hw182_6)).trans hw182_6), ((HB.out.cell (World.block_lt_of_cell? w _ hw183_0)).trans hw183_0), ((HB.out.cell (World.block_lt_of_cell? w _ hw183_1)).trans hw183_1), ((HB.out.cell (World.block_lt_of_cell? w _ hw183_2)).trans hw183_2), ((HB.out.cell (World.block_lt_of_cell? w _ hw183_3)).trans hw183_3), ((HB.out.cell (World.block_lt_of_cell? w _ hw183_4)).trans hw183_4), ((HB.out.cell (World.block_lt_of_cell? w _ hw183_5)).trans hw183_5), ((HB.out.cell (World.block_lt_of_cell? w _ hw183_6)).trans hw183_6), ((HB.out.cell (World.block_lt_of_cell? w _ hw184_0)).trans hw184_0), ((HB.out.cell (World.block_lt_of_cell? w _ hw184_1)).trans hw184_1), ((HB.out.cell (World.block_lt_of_cell? w _ hw184_2)).trans hw184_2), ((HB.out.cell (World.block_lt_of_cell? w _ hw184_3)).trans hw184_3), ((HB.out.cell (World.block_lt_of_cell? w _ hw184_4)).trans hw184_4), ((HB.out.cell (World.block_lt_of_cell? w _ hw184_5)).trans hw184_5), ((HB.out.cell (World.block_lt_of_cell? w _ hw184_6)).trans hw184_6), ((HB.out.cell (World.block_lt_of_cell? w _ hw185_0)).trans hw185_0), ((HB.out.cell (World.block_lt_of_cell? w _ hw185_1)).trans hw185_1), ((HB.out.cell (World.block_lt_of_cell? w _ hw185_2)).trans hw185_2), ((HB.out.cell (World.block_lt_of_cell? w _ hw185_3)).trans hw185_3), ((HB.out.cell (World.block_lt_of_cell? w _ hw185_4)).trans hw185_4), ((HB.out.cell (World.block_lt_of_cell? w _ hw185_5)).trans hw185_5), ((HB.out.cell (World.block_lt_of_cell? w _ hw185_6)).trans hw185_6)⟩ (fun hHeld => ?_)
                                  clear hK K
                                  refine norm_ (a' := ?_) ?_ ?_
                                  rotate_left
                                  · show Act.put _ (some 44) _ = _
                                    simp only [Act.put, List.setIfInBounds_toArray, List.set_cons_zero, List.set_cons_succ, i64_w, i32_w]
                                    rfl
                                  refine pure_ (i := 21) (N := some 45) (v := ?_) (a' := ?_) #[true, true, true, true, true, true, true, true, true, true, true, true, true, true, true, true, true, true, true, true, true, true] rfl rfl (any_of HT_.out (by kernel_rfl)) (fun _ _ _ h => h) (Or.inl ⟨by rfl, ?_⟩) ?_ ?_
                                  rotate_left
                                  · intro w'
                                    go_simp
                                    with_reducible rfl
                                  rotate_left
                                  · simp only [Act.put, List.setIfInBounds_toArray, List.set_cons_zero, List.set_cons_succ, i64_w, i32_w]
                                    rfl
                                  refine done_ (done_of HT_.out (by kernel_rfl)) ?_
                                  try go_wp2
                                  go_roundg k2
                                  case measure => have := HK1.out; have := HK2.out; omega
                                  case rel => exact ⟨(wrap64 (x4_2 + 1)), (by first | rfl | (simp; done) | (simp [*]; done)), H', ⟨by have := HK1.out; have := HK2.out; omega⟩, ⟨by repeat (first | (with_reducible first | exact HB.out | apply below_alloc | apply pw_below_drewN | apply below_drew1) | exact HB.out)⟩⟩
                            · rw [if_neg c13] at H
                              exact absurd H (by simp)
                          · rw [if_neg c12] at H
                            exact absurd H (by simp)
                        · rw [if_neg c11] at H
                          exact absurd H (by simp)
                      · rw [if_neg c10] at H
                        exact absurd H (by simp)
                    · rw [if_neg c9] at H
                      have c9b0 : decide (x4_2 < x10_1) = false := decide_eq_false c9
                      clear c9
                      have H' := Aside0.mk H
                      clear H
                      go_wp2
                      go_roundg k2
                      case measure => have := HK1.out; have := HK2.out; omega
                      case rel => exact ⟨(wrap64 (x10_1 + 1)), (by first | rfl | (simp; done) | (simp [*]; done)), H', ⟨by have := HK1.out; have := HK2.out; omega⟩, ⟨by repeat (first | (with_reducible first | exact HB.out | apply below_alloc | apply pw_below_drewN | apply below_drew1) | exact HB.out)⟩⟩
              · replace c7 := Bool.eq_false_iff.mpr c7
                subst c7
                have H1 : (some false) = some r := by rw [if_neg (show ¬ (false = true) by decide)] at H; exact H
                clear H
                have H := H1
                clear H1
                obtain rfl := Option.some.inj H
                have p180 : 0 ≤ (x10_1 : Int) := of_decide_eq_true (by first | (with_reducible assumption) | assumption)
                have q180 : x10_1 < (l0.length : Int) := of_decide_eq_true (by first | (with_reducible assumption) | assumption)
                obtain ⟨ad180, e180, hx180_0, hx180_1, hx180_2, hx180_3, hx180_4, hx180_5, hx180_6⟩ := at_T31 HR0.out x10_1 p180 q180
                cases e180
                replace hx180_0 := (HB.out.cell (World.block_lt_of_cell? w _ hx180_0)).trans hx180_0
                replace hx180_1 := (HB.out.cell (World.block_lt_of_cell? w _ hx180_1)).trans hx180_1
                replace hx180_2 := (HB.out.cell (World.block_lt_of_cell? w _ hx180_2)).trans hx180_2
                replace hx180_3 := (HB.out.cell (World.block_lt_of_cell? w _ hx180_3)).trans hx180_3
                replace hx180_4 := (HB.out.cell (World.block_lt_of_cell? w _ hx180_4)).trans hx180_4
                replace hx180_5 := (HB.out.cell (World.block_lt_of_cell? w _ hx180_5)).trans hx180_5
                replace hx180_6 := (HB.out.cell (World.block_lt_of_cell? w _ hx180_6)).trans hx180_6
                replace p180 := eq_true p180
                replace q180 := eq_true q180
                go_wp2_with (first | ((with_reducible refine gate_callee (f := 27) rfl ?_); refine goesL_ (some 17) rfl rfl Try.func27 (by kernel_rfl) rfl #[.agg #[.int .i64 ((rd_T31 l0 x10_1).f0), .int .i64 ((rd_T31 l0 x10_1).f1), .int .i64 ((rd_T31 l0 x10_1).f2), .int .i64 ((rd_T31 l0 x10_1).f3), .int .i64 ((rd_T31 l0 x10_1).f4), .bool ((rd_T31 l0 x10_1).f5), .bool ((rd_T31 l0 x10_1).f6)]] rfl (by (try simp only [List.map_toArray, List.map_cons, List.map_nil]); first | done | rfl | (simp only [List.length_drop, List.length_take]; rfl)) ?_; (with_reducible refine (gatehouseref05_Good.calls k1 ((rd_T31 l0 x10_1).f0) ((rd_T31 l0 x10_1).f1) ((rd_T31 l0 x10_1).f2) ((rd_T31 l0 x10_1).f3) ((rd_T31 l0 x10_1).f4) ((rd_T31 l0 x10_1).f5) ((rd_T31 l0 x10_1).f6) false _ A6.out).mono ?_); rintro e w22 ⟨rfl, hb⟩; refine ⟨_, rfl, ?_⟩; have n0_ := Aside0.mk (below_step (by repeat (first | (with_reducible first | exact HB.out | apply below_alloc | apply pw_below_drewN | apply below_drew1) | exact HB.out)) hb); clear HB; have HB := n0_; clear n0_; (try clear hb); (try clear hb2); (try clear hk); (try clear hi)))
                go_ret
                exact ⟨by first | rfl | (simp [errW_none, errW_some] <;> rfl) | (simp [*, errW_none, errW_some] <;> rfl), by repeat (first | (with_reducible first | exact HB.out | apply below_alloc | apply pw_below_drewN | apply below_drew1) | exact HB.out)⟩
            · rw [if_neg c5] at H
              exact absurd H (by simp)
          · rw [if_neg c4] at H
            exact absurd H (by simp)
        · rw [if_neg c3] at H
          have c3b0 : decide (x10_1 < (l0.length : Int)) = false := decide_eq_false c3
          clear c3
          obtain rfl := Option.some.inj H
          go_wp2
          go_ret
          exact ⟨by first | rfl | (simp [errW_none, errW_some] <;> rfl) | (simp [*, errW_none, errW_some] <;> rfl), by repeat (first | (with_reducible first | exact HB.out | apply below_alloc | apply pw_below_drewN | apply below_drew1) | exact HB.out)⟩

end Go.Proofs.YtcgmlcblcioaeaaZ
namespace Go.Proofs.YtcgmlcblcioaeaaP
open Go Go.RowKit Go.Proofs.YtcgmlcblcioaeaaZ Go.Proofs.YtcgmlcblcioaeaaW.PrintWords Go.Proofs.YtcgmlcblcioaeaaW.PrintLast Go.Proofs.YtcgmlcblcioaeaaW.PrintMore
open Go.Proofs.Ytcgmlcblcioaeaa (Mp Pc rightL rightFrom atI spanL spanFrom idOk putL cutL insL clash good_out right_good right_from right_order rightL_from atI_le takeWhile_at)

theorem rid_eq (n : Int) : gatehouseref05_id.f n = some (idOk n) := id_eq n
theorem rgood_eq (x : S31) (k : Nat) (hk : 0 < k) : gatehouseref05_Good.f k x.f0 x.f1 x.f2 x.f3 x.f4 x.f5 x.f6 = some x.m.good := by
  obtain ⟨k, rfl⟩ : ∃ q, k = q + 1 := ⟨k - 1, by omega⟩
  have no : ∀ h : ¬ (1 ≤ x.f1 ∧ x.f1 ≤ 64 ∧ 0 ≤ x.f0 ∧ x.f0 ≤ 67108864 - x.f1 ∧ 0 ≤ x.f4 ∧ x.f4 ≤ 64 - x.f1 ∧ idOk x.f2 = true ∧ idOk x.f3 = true), x.m.good = false := fun h => decide_eq_false h
  have yes : ∀ h : (1 ≤ x.f1 ∧ x.f1 ≤ 64 ∧ 0 ≤ x.f0 ∧ x.f0 ≤ 67108864 - x.f1 ∧ 0 ≤ x.f4 ∧ x.f4 ≤ 64 - x.f1 ∧ idOk x.f2 = true ∧ idOk x.f3 = true), x.m.good = true := fun h => decide_eq_true h
  have jt : gatehouseref05_Good.j0 (k + 1) true x.f0 x.f1 x.f2 x.f3 x.f4 x.f5 x.f6 = some false := by rw [gatehouseref05_Good.j0, if_pos rfl]
  unfold gatehouseref05_Good.f
  by_cases h1 : x.f1 < 1
  · rw [if_pos h1, jt, no (by omega)]
  · by_cases h2 : x.f1 > 64
    · rw [if_neg h1, if_pos h2, jt, no (by omega)]
    · by_cases h3 : x.f0 < 0
      · rw [if_neg h1, if_neg h2, if_pos h3, jt, no (by omega)]
      · by_cases h4 : x.f0 > 67108864
        · rw [if_neg h1, if_neg h2, if_neg h3, if_pos h4, jt, no (by omega)]
        · by_cases h5 : x.f4 < 0
          · rw [if_neg h1, if_neg h2, if_neg h3, if_neg h4, if_pos h5, jt, no (by omega)]
          · rw [if_neg h1, if_neg h2, if_neg h3, if_neg h4, if_neg h5]
            by_cases h6 : x.f4 > 64
            · rw [decide_eq_true h6, jt, no (by omega)]
            · rw [decide_eq_false h6, gatehouseref05_Good.j0, if_neg (by simp), wrap_in (x := x.f0 + x.f1) (by omega) (by omega), wrap_in (x := x.f4 + x.f1) (by omega) (by omega)]
              by_cases h7 : x.f0 + x.f1 ≤ 67108864
              · by_cases h8 : x.f4 + x.f1 ≤ 64
                · rw [if_pos h7, if_pos h8, rid_eq, rid_eq]
                  simp only [Option.bind_some]
                  cases hi : idOk x.f2
                  · rw [if_neg (by simp), no (by rintro ⟨_, _, _, _, _, _, h, _⟩; rw [hi] at h; cases h)]
                  · rw [if_pos rfl]
                    congr 1
                    cases hj : idOk x.f3
                    · rw [no (by rintro ⟨_, _, _, _, _, _, _, h⟩; rw [hj] at h; cases h)]
                    · exact (yes ⟨by omega, by omega, by omega, by omega, by omega, by omega, hi, hj⟩).symm
                · rw [if_pos h7, if_neg h8, no (by omega)]
              · rw [if_neg h7, no (by omega)]
theorem rmeet_eq (x y : S31) (hx : x.m.good = true) (hy : y.m.good = true) : gatehouseref05_Meet.f x.f0 x.f1 x.f2 x.f3 x.f4 x.f5 x.f6 y.f0 y.f1 y.f2 y.f3 y.f4 y.f5 y.f6 = some (decide (x.f0 < y.f0 + y.f1 ∧ y.f0 < x.f0 + x.f1)) := by
  obtain ⟨g1, g2, g3, g4, _⟩ := good_out hx
  obtain ⟨e1, e2, e3, e4, _⟩ := good_out hy
  simp only [S31.m] at g1 g2 g3 g4 e1 e2 e3 e4
  unfold gatehouseref05_Meet.f
  rw [wrap_in (x := y.f0 + y.f1) (by omega) (by omega), wrap_in (x := x.f0 + x.f1) (by omega) (by omega)]
  by_cases h : x.f0 < y.f0 + y.f1
  · rw [if_pos h]; congr 1; exact decide_eq_decide.2 ⟨fun h2 => ⟨h, h2⟩, fun h2 => h2.2⟩
  · rw [if_neg h, decide_eq_false (fun h2 => h h2.1)]

theorem rright_ok (l : List S31) (i : Nat) (hi : i < l.length) (hl : l.length ≤ 16) (hgi : (l[i]).m.good = true) (hq : ∀ q (h : q < i), (l[q]).m.good = true ∧ (l[q]).f0 + (l[q]).f1 ≤ (l[i]).f0) :
    ∀ (d k t : Nat), t + d = i → gatehouseref05_Right.l1 (k + d + 1) l i t l.length i = gatehouseref05_Right.l0 k l l.length ((i + 1 : Nat) : Int) := by
  intro d
  induction d with
  | zero =>
    intro k t ht
    rw [gatehouseref05_Right.l1, if_neg (by omega), wrap_in (by omega) (by omega), show ((i : Int) + 1) = ((i + 1 : Nat) : Int) by omega, Nat.add_zero]
  | succ d ih =>
    intro k t ht
    have htl : t < l.length := by omega
    obtain ⟨h1, h2⟩ := hq t (by omega)
    have g := good_out h1
    have g2 := good_out hgi
    simp only [S31.m] at g g2
    rw [show k + (d + 1) + 1 = (k + d + 1) + 1 by omega, gatehouseref05_Right.l1, if_pos (by omega), if_pos (by omega), if_pos (by omega), if_pos (by omega), if_pos (by omega), rd31 l t htl, rd31 l i hi, if_neg (by omega), rmeet_eq _ _ h1 hgi, decide_eq_false (by omega)]
    rw [Option.bind_some, if_neg (by simp), wrap_in (by omega) (by omega), show ((t : Int) + 1) = ((t + 1 : Nat) : Int) by omega]
    exact ih k (t + 1) (by omega)
theorem rright_bad (l : List S31) (i : Nat) (hi : i < l.length) (hl : l.length ≤ 16) (hgi : (l[i]).m.good = true) (hq : ∀ q (h : q < i), (l[q]).m.good = true) (hb : ∃ q, ∃ h : q < i, (l[i]).f0 < (l[q]).f0 + (l[q]).f1 ∧ q + 1 = i) :
    ∀ (d k t : Nat), t + d + 1 = i → gatehouseref05_Right.l1 (k + d + 1) l i t l.length i = some false := by
  obtain ⟨q, hqi, hb, hq1⟩ := hb
  intro d
  induction d with
  | zero =>
    intro k t ht
    obtain rfl : t = q := by omega
    have h1 := hq t hqi
    have g := good_out h1
    have g2 := good_out hgi
    simp only [S31.m] at g g2
    rw [gatehouseref05_Right.l1, if_pos (by omega), if_pos (by omega), if_pos (by omega), if_pos (by omega), if_pos (by omega), rd31 l t (by omega), rd31 l i hi]
    by_cases h : (l[t]).f0 ≥ (l[i]).f0
    · rw [if_pos h]
    · rw [if_neg h, rmeet_eq _ _ h1 hgi, decide_eq_true (by omega)]
      simp
  | succ d ih =>
    intro k t ht
    have h1 := hq t (by omega)
    rw [show k + (d + 1) + 1 = (k + d + 1) + 1 by omega, gatehouseref05_Right.l1, if_pos (by omega), if_pos (by omega), if_pos (by omega), if_pos (by omega), if_pos (by omega), rd31 l t (by omega), rd31 l i hi]
    by_cases h : (l[t]).f0 ≥ (l[i]).f0
    · rw [if_pos h]
    · rw [if_neg h, rmeet_eq _ _ h1 hgi]
      rw [Option.bind_some]
      by_cases h2 : (l[t]).f0 < (l[i]).f0 + (l[i]).f1 ∧ (l[i]).f0 < (l[t]).f0 + (l[t]).f1
      · rw [decide_eq_true h2, if_pos rfl]
      · rw [decide_eq_false h2, if_neg (by simp), wrap_in (by omega) (by omega), show ((t : Int) + 1) = ((t + 1 : Nat) : Int) by omega]
        exact ih k (t + 1) (by omega)
def endAt (l : List S31) (i : Nat) : Int := if h : 0 < i ∧ i ≤ l.length then (l[i - 1]).f0 + (l[i - 1]).f1 else 0
theorem rright_loop (l : List S31) (hl : l.length ≤ 16) : ∀ (d k i : Nat), i + d = l.length → (∀ q (_ : q < i) (h : q < l.length), (l[q]).m.good = true ∧ (l[q]).f0 + (l[q]).f1 ≤ endAt l i) → 20 * d < k →
    gatehouseref05_Right.l0 k l l.length i = some (rightFrom (endAt l i) ((l.map S31.m).drop i)) := by
  intro d
  induction d with
  | zero =>
    intro k i hi hq hk
    obtain ⟨k, rfl⟩ : ∃ m, k = m + 1 := ⟨k - 1, by omega⟩
    rw [gatehouseref05_Right.l0, if_neg (by omega), List.drop_eq_nil_of_le (by simp; omega), rightFrom]
  | succ d ih =>
    intro k i hi hq hk
    have hlt : i < l.length := by omega
    obtain ⟨k, rfl⟩ : ∃ m, k = m + i + 1 + 1 := ⟨k - i - 2, by omega⟩
    rw [gatehouseref05_Right.l0, if_pos (by omega), if_pos (by omega), if_pos (by omega), rd31 l i hlt, rgood_eq _ _ (by omega), drop31 l i hlt, rightFrom]
    simp only [Option.bind_some]
    cases hg : (l[i]).m.good
    · rw [if_neg (by simp)]; rfl
    · rw [if_pos rfl]
      have hend : endAt l (i + 1) = (l[i]).f0 + (l[i]).f1 := by unfold endAt; rw [dif_pos ⟨by omega, by omega⟩]; rfl
      have g := good_out hg
      simp only [S31.m] at g
      by_cases hf : endAt l i ≤ (l[i]).f0
      · have h1 := rright_ok l i hlt hl hg (fun q h => ⟨(hq q h (by omega)).1, by have := (hq q h (by omega)).2; omega⟩) i k 0 (by omega)
        rw [show ((0 : Nat) : Int) = 0 from rfl] at h1
        rw [h1, decide_eq_true (show endAt l i ≤ (l[i]).m.va from hf)]
        have := ih k (i + 1) (by omega) (fun q h h' => by
          rw [hend]
          rcases Nat.lt_or_ge q i with h2 | h2
          · exact ⟨(hq q h2 h').1, by have := (hq q h2 h').2; omega⟩
          · obtain rfl : q = i := by omega
            exact ⟨hg, Int.le_refl _⟩) (by omega)
        rw [this, hend]
        rfl
      · rw [decide_eq_false (show ¬ endAt l i ≤ (l[i]).m.va from hf)]
        have hi0 : 0 < i := by
          rcases Nat.eq_zero_or_pos i with h | h
          · subst h; exact absurd (show endAt l 0 ≤ (l[0]).f0 from by unfold endAt; rw [dif_neg (by omega)]; omega) hf
          · exact h
        have he : endAt l i = (l[i - 1]).f0 + (l[i - 1]).f1 := by unfold endAt; rw [dif_pos ⟨hi0, by omega⟩]
        have h1 := rright_bad l i hlt hl hg (fun q h => (hq q h (by omega)).1) ⟨i - 1, by omega, by omega, by omega⟩ (i - 1) (k + 1) 0 (by omega)
        rw [show k + 1 + (i - 1) + 1 = k + i + 1 by omega, show ((0 : Nat) : Int) = 0 from rfl] at h1
        rw [h1]
        rfl
theorem rright_f (l : List S31) (k : Nat) (hk : 400 < k) : gatehouseref05_Right.f k l = some (rightL (l.map S31.m)) := by
  unfold gatehouseref05_Right.f rightL
  rw [List.length_map]
  by_cases h : l.length ≤ 16
  · rw [if_neg (by omega), decide_eq_true h, Bool.and_true]
    have := rright_loop l h l.length k 0 (by omega) (fun q h _ => by omega) (by omega)
    rw [List.drop_zero] at this
    exact this
  · rw [if_pos (by omega), decide_eq_false h, Bool.and_false]

end Go.Proofs.YtcgmlcblcioaeaaP
-- Written by a program of this session (gprint.py, over the kit's printer).
namespace Go.Proofs.YtcgmlcblcioaeaaZ
open Go.RowKit Go.Proofs.YtcgmlcblcioaeaaW.PrintWords Go.Proofs.YtcgmlcblcioaeaaW.PrintLast Go.Proofs.YtcgmlcblcioaeaaW.PrintMore
attribute [local go_sem] max2_int min2_int max_two min_two max_three min_three max_four min_four   -- for this text's walks alone
set_option linter.unusedVariables false
set_option linter.unusedSimpArgs false

/-! ### gatehouseref05_Byte: function 26 -/
mutual
def gatehouseref05_Byte.l0 : Nat → Int → Int → List (S31) → Int → Int → Option (Int × Int)
  | 0, _, _, _, _, _ => none
  | k + 1, x1, x2, x11, x12, x13 => if x13 < x12 then (if 0 ≤ x13 then (if x13 < (x11.length : Int) then (if (IntKind.u64.wrap (Int.tdiv x1 64)) < (IntKind.u64.wrap ((rd_T31 x11 x13).f0)) then (gatehouseref05_Byte.j1 k x1 x2 x13 (IntKind.u64.wrap (Int.tdiv x1 64)) x11 x12 x13 true ((rd_T31 x11 x13).f0) ((rd_T31 x11 x13).f1) ((rd_T31 x11 x13).f2) ((rd_T31 x11 x13).f3) ((rd_T31 x11 x13).f4) ((rd_T31 x11 x13).f5) ((rd_T31 x11 x13).f6)) else (gatehouseref05_Byte.j1 k x1 x2 x13 (IntKind.u64.wrap (Int.tdiv x1 64)) x11 x12 x13 (decide ((IntKind.u64.wrap (Int.tdiv x1 64)) ≥ (IntKind.u64.wrap (wrap64 (((rd_T31 x11 x13).f0) + ((rd_T31 x11 x13).f1)))))) ((rd_T31 x11 x13).f0) ((rd_T31 x11 x13).f1) ((rd_T31 x11 x13).f2) ((rd_T31 x11 x13).f3) ((rd_T31 x11 x13).f4) ((rd_T31 x11 x13).f5) ((rd_T31 x11 x13).f6))) else (none)) else (none)) else (some ((-1), 0))
def gatehouseref05_Byte.j1 : Nat → Int → Int → Int → Int → List (S31) → Int → Int → Bool → Int → Int → Int → Int → Int → Bool → Bool → Option (Int × Int)
  | 0, _, _, _, _, _, _, _, _, _, _, _, _, _, _, _ => none
  | k + 1, x1, x2, x8, x10, x11, x12, x13, x34, x189000, x189001, x189002, x189003, x189004, x189005, x189006 => if x34 = true then (gatehouseref05_Byte.l0 k x1 x2 x11 x12 (wrap64 (x13 + 1))) else (if x2 = 1 then (if x189005 = true then (if x2 = 2 then (if x189006 = true then (some (x8, wrap64 ((wrap64 (64 * (wrap64 ((wrap64 (x189004 + (wrap64 (x10)))) - x189000)))) + (wrap64 (Int.tmod x1 64))))) else (some ((-1), 0))) else (some (x8, wrap64 ((wrap64 (64 * (wrap64 ((wrap64 (x189004 + (wrap64 (x10)))) - x189000)))) + (wrap64 (Int.tmod x1 64)))))) else (some ((-1), 0))) else (if x2 = 2 then (if x189006 = true then (some (x8, wrap64 ((wrap64 (64 * (wrap64 ((wrap64 (x189004 + (wrap64 (x10)))) - x189000)))) + (wrap64 (Int.tmod x1 64))))) else (some ((-1), 0))) else (some (x8, wrap64 ((wrap64 (64 * (wrap64 ((wrap64 (x189004 + (wrap64 (x10)))) - x189000)))) + (wrap64 (Int.tmod x1 64)))))))
end
def gatehouseref05_Byte.f (k : Nat) (l0 : List (S31)) (a1 : Int) (a2 : Int) : Option (Int × Int) := gatehouseref05_Byte.l0 k a1 a2 l0 (l0.length : Int) 0
theorem gatehouseref05_Byte.mono_l : ∀ k, (∀ y0 y1 y2 y3 y4, LeO (gatehouseref05_Byte.l0 k y0 y1 y2 y3 y4) (gatehouseref05_Byte.l0 (k + 1) y0 y1 y2 y3 y4)) ∧ (∀ y0 y1 y2 y3 y4 y5 y6 y7 y8 y9 y10 y11 y12 y13 y14, LeO (gatehouseref05_Byte.j1 k y0 y1 y2 y3 y4 y5 y6 y7 y8 y9 y10 y11 y12 y13 y14) (gatehouseref05_Byte.j1 (k + 1) y0 y1 y2 y3 y4 y5 y6 y7 y8 y9 y10 y11 y12 y13 y14))
  | 0 => ⟨fun _ _ _ _ _ r h => by simp [gatehouseref05_Byte.l0] at h, fun _ _ _ _ _ _ _ _ _ _ _ _ _ _ _ r h => by simp [gatehouseref05_Byte.j1] at h⟩
  | k + 1 => by
    obtain ⟨ih0, ih1⟩ := gatehouseref05_Byte.mono_l k
    refine ⟨?_, ?_⟩
    · intro y0 y1 y2 y3 y4
      unfold gatehouseref05_Byte.l0
      repeat' first
      | (with_reducible exact ih0 _ _ _ _ _)
      | (with_reducible exact ih1 _ _ _ _ _ _ _ _ _ _ _ _ _ _ _)
      | (with_reducible exact LeO.refl _)
      | (with_reducible exact LeO.none _)
      | (with_reducible refine LeO.ite ?_ ?_)
      | (with_reducible refine LeO.bind ?_ (fun _ => ?_))
      | exact ih0 _ _ _ _ _
      | exact ih1 _ _ _ _ _ _ _ _ _ _ _ _ _ _ _
      | exact LeO.none _
      | refine LeO.ite ?_ ?_
      | refine LeO.bind ?_ (fun _ => ?_)
    · intro y0 y1 y2 y3 y4 y5 y6 y7 y8 y9 y10 y11 y12 y13 y14
      unfold gatehouseref05_Byte.j1
      repeat' first
      | (with_reducible exact ih0 _ _ _ _ _)
      | (with_reducible exact ih1 _ _ _ _ _ _ _ _ _ _ _ _ _ _ _)
      | (with_reducible exact LeO.refl _)
      | (with_reducible exact LeO.none _)
      | (with_reducible refine LeO.ite ?_ ?_)
      | (with_reducible refine LeO.bind ?_ (fun _ => ?_))
      | exact ih0 _ _ _ _ _
      | exact ih1 _ _ _ _ _ _ _ _ _ _ _ _ _ _ _
      | exact LeO.none _
      | refine LeO.ite ?_ ?_
      | refine LeO.bind ?_ (fun _ => ?_)
theorem gatehouseref05_Byte.mono : ∀ a0 a1 a2 k, LeO (gatehouseref05_Byte.f k a0 a1 a2) (gatehouseref05_Byte.f (k + 1) a0 a1 a2) := by
  intro a0 a1 a2 k
  obtain ⟨ih0, ih1⟩ := gatehouseref05_Byte.mono_l k
  unfold gatehouseref05_Byte.f
  repeat' first
      | (with_reducible exact ih0 _ _ _ _ _)
      | (with_reducible exact ih1 _ _ _ _ _ _ _ _ _ _ _ _ _ _ _)
      | (with_reducible exact LeO.refl _)
      | (with_reducible exact LeO.none _)
      | (with_reducible refine LeO.ite ?_ ?_)
      | (with_reducible refine LeO.bind ?_ (fun _ => ?_))
      | exact ih0 _ _ _ _ _
      | exact ih1 _ _ _ _ _ _ _ _ _ _ _ _ _ _ _
      | exact LeO.none _
      | refine LeO.ite ?_ ?_
      | refine LeO.bind ?_ (fun _ => ?_)
set_option maxHeartbeats 8000000 in
set_option maxRecDepth 100000 in
theorem gatehouseref05_Byte.calls (k : Nat) (A0 : Option Addr) (c0 : Nat) (l0 : List (S31)) (a1 : Int) (a2 : Int) (r1 : Int) (r2 : Int) (w : World) (hr0 : Kd.C k31 w A0 l0.length l0) (hc0 : l0.length ≤ c0) (h : gatehouseref05_Byte.f k l0 a1 a2 = some (r1, r2)) :
    Calls Try.prog 26 #[.slice A0 l0.length c0, .int .u64 a1, .int .i64 a2] w fun e w' => e = .returned (.tuple #[.int .i64 r1, .int .i64 r2]) ∧ Below w.heap.size w w' := by
  have hu31 := Try.underlying31
  have HR0 := Aside0.mk hr0
  have HC0 := Aside0.mk hc0
  clear hr0 hc0
  have HB := Aside0.mk (Below.refl w.heap.size w)
  have H : (gatehouseref05_Byte.l0 k a1 a2 l0 (l0.length : Int) 0) = some (r1, r2) := h
  clear h
  have H' := Aside0.mk H
  clear H
  go_enter Try.func26, Try.ntmps26
  go_wp2
  repeat (go_quiet (fail); try go_wp2)
  go_loopg [13] k (fun kq v13 w' => ∃ (x13_1 : Int), v13 = .int .i64 x13_1 ∧ Aside0 (gatehouseref05_Byte.l0 kq a1 a2 l0 (l0.length : Int) x13_1 = some (r1, r2)) ∧ Aside0 (kq ≤ k) ∧ Aside0 (Below w.heap.size w w'))
  case atStart => exact ⟨(0), (by first | rfl | (simp; done) | (simp [*]; done)), H', ⟨Nat.le_refl _⟩, ⟨by repeat (first | (with_reducible first | exact HB.out | apply below_alloc | apply pw_below_drewN | apply below_drew1) | exact HB.out)⟩⟩
  case round =>
    clear H'
    try clear c2
    try clear p2
    obtain ⟨x13_1, rfl, HA, HK1, HB⟩ := hrel
    cases gk with
    | zero => exact absurd HA.out (by simp [gatehouseref05_Byte.l0])
    | succ k1 =>
      have H := HA.out
      clear HA
      simp only [gatehouseref05_Byte.l0] at H
      by_cases c4 : x13_1 < (l0.length : Int)
      · rw [if_pos c4] at H
        have c4b0 : decide (x13_1 < (l0.length : Int)) = true := decide_eq_true c4
        clear c4
        by_cases c5 : 0 ≤ x13_1
        · rw [if_pos c5] at H
          have c5b0 : decide (0 ≤ x13_1) = true := decide_eq_true c5
          clear c5
          by_cases c6 : x13_1 < (l0.length : Int)
          · rw [if_pos c6] at H
            have c6b0 : decide (x13_1 < (l0.length : Int)) = true := decide_eq_true c6
            clear c6
            have HC7 := Aside0.mk H
            clear H
            have p187 : 0 ≤ (x13_1 : Int) := of_decide_eq_true (by first | (with_reducible assumption) | assumption)
            have q187 : x13_1 < (l0.length : Int) := of_decide_eq_true (by first | (with_reducible assumption) | assumption)
            obtain ⟨ad187, e187, hx187_0, hx187_1, hx187_2, hx187_3, hx187_4, hx187_5, hx187_6⟩ := at_T31 HR0.out x13_1 p187 q187
            cases e187
            replace hx187_0 := (HB.out.cell (World.block_lt_of_cell? w _ hx187_0)).trans hx187_0
            replace hx187_1 := (HB.out.cell (World.block_lt_of_cell? w _ hx187_1)).trans hx187_1
            replace hx187_2 := (HB.out.cell (World.block_lt_of_cell? w _ hx187_2)).trans hx187_2
            replace hx187_3 := (HB.out.cell (World.block_lt_of_cell? w _ hx187_3)).trans hx187_3
            replace hx187_4 := (HB.out.cell (World.block_lt_of_cell? w _ hx187_4)).trans hx187_4
            replace hx187_5 := (HB.out.cell (World.block_lt_of_cell? w _ hx187_5)).trans hx187_5
            replace hx187_6 := (HB.out.cell (World.block_lt_of_cell? w _ hx187_6)).trans hx187_6
            replace p187 := eq_true p187
            replace q187 := eq_true q187
            go_upto_region 5 with (first | ((with_reducible refine gate_dst (N := 9) rfl ?_); refine box_event ?hg (N := 9) ?hd (cs := #[.int .i64 0, .int .i64 0, .int .i64 0, .int .i64 0, .int .i64 0, .bool false, .bool false]) (t := 31) ?hr ?_; (case hd => rfl); (case hg => rfl); (case hr => first | (go_simp; done) | (go_simp; rfl)); intro gb188 hg w8 hbox hb; have n0_ := Aside0.mk (below_step (by repeat (first | (with_reducible first | exact HB.out | apply below_alloc | apply pw_below_drewN | apply below_drew1) | exact HB.out)) hb); have n1_ := Aside0.mk (hbox); have n2_ := Aside0.mk ((by rw [hg]; exact (below_size (by repeat (first | (with_reducible first | exact HB.out | apply below_alloc | apply pw_below_drewN | apply below_drew1) | exact HB.out))) : w.heap.size ≤ gb188)); have n3_ := Aside0.mk ((by rw [hg]; exact (below_size (by repeat (first | (with_reducible first | exact HB.out | apply below_alloc | apply pw_below_drewN | apply below_drew1) | exact HB.out))) : w.heap.size ≤ gb188)); clear HB; have HB := n0_; have BK188 := n1_; have GW188 := n2_; have GE188 := n3_; clear n0_ n1_ n2_ n3_; clear hb hbox hg; have hcz9_0 : w8.cell? ⟨gb188, 0, none⟩ = some (.int .i64 0) := (blk_cell BK188.out 0).trans rfl; have hcz9_1 : w8.cell? ⟨gb188, 1, none⟩ = some (.int .i64 0) := (blk_cell BK188.out 1).trans rfl; have hcz9_2 : w8.cell? ⟨gb188, 2, none⟩ = some (.int .i64 0) := (blk_cell BK188.out 2).trans rfl; have hcz9_3 : w8.cell? ⟨gb188, 3, none⟩ = some (.int .i64 0) := (blk_cell BK188.out 3).trans rfl; have hcz9_4 : w8.cell? ⟨gb188, 4, none⟩ = some (.int .i64 0) := (blk_cell BK188.out 4).trans rfl; have hcz9_5 : w8.cell? ⟨gb188, 5, none⟩ = some (.bool false) := (blk_cell BK188.out 5).trans rfl; have hcz9_6 : w8.cell? ⟨gb188, 6, none⟩ = some (.bool false) := (blk_cell BK188.out 6).trans rfl; have hfz9_0 := blk_frozen BK188.out 0; have hfz9_1 := blk_frozen BK188.out 1; have hfz9_2 := blk_frozen BK188.out 2; have hfz9_3 := blk_frozen BK188.out 3; have hfz9_4 := blk_frozen BK188.out 4; have hfz9_5 := blk_frozen BK188.out 5; have hfz9_6 := blk_frozen BK188.out 6))
            repeat (go_quiet (first | ((with_reducible refine gate_dst (N := 9) rfl ?_); refine box_event ?hg (N := 9) ?hd (cs := #[.int .i64 0, .int .i64 0, .int .i64 0, .int .i64 0, .int .i64 0, .bool false, .bool false]) (t := 31) ?hr ?_; (case hd => rfl); (case hg => rfl); (case hr => first | (go_simp; done) | (go_simp; rfl)); intro gb188 hg w8 hbox hb; have n0_ := Aside0.mk (below_step (by repeat (first | (with_reducible first | exact HB.out | apply below_alloc | apply pw_below_drewN | apply below_drew1) | exact HB.out)) hb); have n1_ := Aside0.mk (hbox); have n2_ := Aside0.mk ((by rw [hg]; exact (below_size (by repeat (first | (with_reducible first | exact HB.out | apply below_alloc | apply pw_below_drewN | apply below_drew1) | exact HB.out))) : w.heap.size ≤ gb188)); have n3_ := Aside0.mk ((by rw [hg]; exact (below_size (by repeat (first | (with_reducible first | exact HB.out | apply below_alloc | apply pw_below_drewN | apply below_drew1) | exact HB.out))) : w.heap.size ≤ gb188)); clear HB; have HB := n0_; have BK188 := n1_; have GW188 := n2_; have GE188 := n3_; clear n0_ n1_ n2_ n3_; clear hb hbox hg; have hcz9_0 : w8.cell? ⟨gb188, 0, none⟩ = some (.int .i64 0) := (blk_cell BK188.out 0).trans rfl; have hcz9_1 : w8.cell? ⟨gb188, 1, none⟩ = some (.int .i64 0) := (blk_cell BK188.out 1).trans rfl; have hcz9_2 : w8.cell? ⟨gb188, 2, none⟩ = some (.int .i64 0) := (blk_cell BK188.out 2).trans rfl; have hcz9_3 : w8.cell? ⟨gb188, 3, none⟩ = some (.int .i64 0) := (blk_cell BK188.out 3).trans rfl; have hcz9_4 : w8.cell? ⟨gb188, 4, none⟩ = some (.int .i64 0) := (blk_cell BK188.out 4).trans rfl; have hcz9_5 : w8.cell? ⟨gb188, 5, none⟩ = some (.bool false) := (blk_cell BK188.out 5).trans rfl; have hcz9_6 : w8.cell? ⟨gb188, 6, none⟩ = some (.bool false) := (blk_cell BK188.out 6).trans rfl; have hfz9_0 := blk_frozen BK188.out 0; have hfz9_1 := blk_frozen BK188.out 1; have hfz9_2 := blk_frozen BK188.out 2; have hfz9_3 := blk_frozen BK188.out 3; have hfz9_4 := blk_frozen BK188.out 4; have hfz9_5 := blk_frozen BK188.out 5; have hfz9_6 := blk_frozen BK188.out 6)); go_upto_region 5 with (first | ((with_reducible refine gate_dst (N := 9) rfl ?_); refine box_event ?hg (N := 9) ?hd (cs := #[.int .i64 0, .int .i64 0, .int .i64 0, .int .i64 0, .int .i64 0, .bool false, .bool false]) (t := 31) ?hr ?_; (case hd => rfl); (case hg => rfl); (case hr => first | (go_simp; done) | (go_simp; rfl)); intro gb188 hg w8 hbox hb; have n0_ := Aside0.mk (below_step (by repeat (first | (with_reducible first | exact HB.out | apply below_alloc | apply pw_below_drewN | apply below_drew1) | exact HB.out)) hb); have n1_ := Aside0.mk (hbox); have n2_ := Aside0.mk ((by rw [hg]; exact (below_size (by repeat (first | (with_reducible first | exact HB.out | apply below_alloc | apply pw_below_drewN | apply below_drew1) | exact HB.out))) : w.heap.size ≤ gb188)); have n3_ := Aside0.mk ((by rw [hg]; exact (below_size (by repeat (first | (with_reducible first | exact HB.out | apply below_alloc | apply pw_below_drewN | apply below_drew1) | exact HB.out))) : w.heap.size ≤ gb188)); clear HB; have HB := n0_; have BK188 := n1_; have GW188 := n2_; have GE188 := n3_; clear n0_ n1_ n2_ n3_; clear hb hbox hg; have hcz9_0 : w8.cell? ⟨gb188, 0, none⟩ = some (.int .i64 0) := (blk_cell BK188.out 0).trans rfl; have hcz9_1 : w8.cell? ⟨gb188, 1, none⟩ = some (.int .i64 0) := (blk_cell BK188.out 1).trans rfl; have hcz9_2 : w8.cell? ⟨gb188, 2, none⟩ = some (.int .i64 0) := (blk_cell BK188.out 2).trans rfl; have hcz9_3 : w8.cell? ⟨gb188, 3, none⟩ = some (.int .i64 0) := (blk_cell BK188.out 3).trans rfl; have hcz9_4 : w8.cell? ⟨gb188, 4, none⟩ = some (.int .i64 0) := (blk_cell BK188.out 4).trans rfl; have hcz9_5 : w8.cell? ⟨gb188, 5, none⟩ = some (.bool false) := (blk_cell BK188.out 5).trans rfl; have hcz9_6 : w8.cell? ⟨gb188, 6, none⟩ = some (.bool false) := (blk_cell BK188.out 6).trans rfl; have hfz9_0 := blk_frozen BK188.out 0; have hfz9_1 := blk_frozen BK188.out 1; have hfz9_2 := blk_frozen BK188.out 2; have hfz9_3 := blk_frozen BK188.out 3; have hfz9_4 := blk_frozen BK188.out 4; have hfz9_5 := blk_frozen BK188.out 5; have hfz9_6 := blk_frozen BK188.out 6)))
            (try simp only [Act.put, List.setIfInBounds_toArray, List.set_cons_zero, List.set_cons_succ])
            go_cut [34] (fun v34 wc => ∃ (kq : Nat) (x34_6 : Bool), v34 = .bool x34_6 ∧ Aside0 (gatehouseref05_Byte.j1 kq a1 a2 x13_1 (IntKind.u64.wrap (Int.tdiv a1 64)) l0 (l0.length : Int) x13_1 x34_6 ((rd_T31 l0 x13_1).f0) ((rd_T31 l0 x13_1).f1) ((rd_T31 l0 x13_1).f2) ((rd_T31 l0 x13_1).f3) ((rd_T31 l0 x13_1).f4) ((rd_T31 l0 x13_1).f5) ((rd_T31 l0 x13_1).f6) = some (r1, r2)) ∧ Aside0 (kq ≤ k1) ∧ Aside0 (wc.heap[gb188]? = some (.cells #[.int .i64 ((rd_T31 l0 x13_1).f0), .int .i64 ((rd_T31 l0 x13_1).f1), .int .i64 ((rd_T31 l0 x13_1).f2), .int .i64 ((rd_T31 l0 x13_1).f3), .int .i64 ((rd_T31 l0 x13_1).f4), .bool ((rd_T31 l0 x13_1).f5), .bool ((rd_T31 l0 x13_1).f6)] 31 (0, 0))) ∧ Aside0 (Below w.heap.size w wc))
            case first =>
              have H := HC7.out
              clear HC7
              by_cases c10 : (IntKind.u64.wrap (Int.tdiv a1 64)) < (IntKind.u64.wrap ((rd_T31 l0 x13_1).f0))
              · rw [if_pos c10] at H
                have c10b0 : decide ((IntKind.u64.wrap (Int.tdiv a1 64)) < (IntKind.u64.wrap ((rd_T31 l0 x13_1).f0))) = true := decide_eq_true c10
                clear c10
                (first | rw [c10b0] | (simp only [i64_w, i32_w]; rw [c10b0]) | skip)
                have H' := Aside0.mk H
                clear H
                have hcz11_0 : w8.cell? ⟨gb188, 0, none⟩ = some (.int .i64 0) := (blk_cell BK188.out 0).trans rfl
                have hcz11_1 : w8.cell? ⟨gb188, 1, none⟩ = some (.int .i64 0) := (blk_cell BK188.out 1).trans rfl
                have hcz11_2 : w8.cell? ⟨gb188, 2, none⟩ = some (.int .i64 0) := (blk_cell BK188.out 2).trans rfl
                have hcz11_3 : w8.cell? ⟨gb188, 3, none⟩ = some (.int .i64 0) := (blk_cell BK188.out 3).trans rfl
                have hcz11_4 : w8.cell? ⟨gb188, 4, none⟩ = some (.int .i64 0) := (blk_cell BK188.out 4).trans rfl
                have hcz11_5 : w8.cell? ⟨gb188, 5, none⟩ = some (.bool false) := (blk_cell BK188.out 5).trans rfl
                have hcz11_6 : w8.cell? ⟨gb188, 6, none⟩ = some (.bool false) := (blk_cell BK188.out 6).trans rfl
                have hfz11_0 := blk_frozen BK188.out 0
                have hfz11_1 := blk_frozen BK188.out 1
                have hfz11_2 := blk_frozen BK188.out 2
                have hfz11_3 := blk_frozen BK188.out 3
                have hfz11_4 := blk_frozen BK188.out 4
                have hfz11_5 := blk_frozen BK188.out 5
                have hfz11_6 := blk_frozen BK188.out 6
                go_wp2
                repeat (go_quiet (fail); try go_wp2)
                go_meet
                case rel => exact ⟨_, (true), (by first | rfl | (simp; done) | (simp [*]; done)), H', ⟨by have := HK1.out; first | omega | exact Nat.le_refl _⟩, ⟨by (with_reducible repeat (first | refine blk_drewN ?_ _ | refine blk_drew ?_ | refine blk_alloc ?_ _)); refine blk_put (cs := #[.int .i64 ((rd_T31 l0 x13_1).f0), .int .i64 ((rd_T31 l0 x13_1).f1), .int .i64 ((rd_T31 l0 x13_1).f2), .int .i64 ((rd_T31 l0 x13_1).f3), .int .i64 ((rd_T31 l0 x13_1).f4), .bool ((rd_T31 l0 x13_1).f5), .bool false]) ?_ 6 _ rfl; (with_reducible repeat (first | refine blk_drewN ?_ _ | refine blk_drew ?_ | refine blk_alloc ?_ _)); refine blk_put (cs := #[.int .i64 ((rd_T31 l0 x13_1).f0), .int .i64 ((rd_T31 l0 x13_1).f1), .int .i64 ((rd_T31 l0 x13_1).f2), .int .i64 ((rd_T31 l0 x13_1).f3), .int .i64 ((rd_T31 l0 x13_1).f4), .bool false, .bool false]) ?_ 5 _ rfl; (with_reducible repeat (first | refine blk_drewN ?_ _ | refine blk_drew ?_ | refine blk_alloc ?_ _)); refine blk_put (cs := #[.int .i64 ((rd_T31 l0 x13_1).f0), .int .i64 ((rd_T31 l0 x13_1).f1), .int .i64 ((rd_T31 l0 x13_1).f2), .int .i64 ((rd_T31 l0 x13_1).f3), .int .i64 0, .bool false, .bool false]) ?_ 4 _ rfl; (with_reducible repeat (first | refine blk_drewN ?_ _ | refine blk_drew ?_ | refine blk_alloc ?_ _)); refine blk_put (cs := #[.int .i64 ((rd_T31 l0 x13_1).f0), .int .i64 ((rd_T31 l0 x13_1).f1), .int .i64 ((rd_T31 l0 x13_1).f2), .int .i64 0, .int .i64 0, .bool false, .bool false]) ?_ 3 _ rfl; (with_reducible repeat (first | refine blk_drewN ?_ _ | refine blk_drew ?_ | refine blk_alloc ?_ _)); refine blk_put (cs := #[.int .i64 ((rd_T31 l0 x13_1).f0), .int .i64 ((rd_T31 l0 x13_1).f1), .int .i64 0, .int .i64 0, .int .i64 0, .bool false, .bool false]) ?_ 2 _ rfl; (with_reducible repeat (first | refine blk_drewN ?_ _ | refine blk_drew ?_ | refine blk_alloc ?_ _)); refine blk_put (cs := #[.int .i64 ((rd_T31 l0 x13_1).f0), .int .i64 0, .int .i64 0, .int .i64 0, .int .i64 0, .bool false, .bool false]) ?_ 1 _ rfl; (with_reducible repeat (first | refine blk_drewN ?_ _ | refine blk_drew ?_ | refine blk_alloc ?_ _)); refine blk_put (cs := #[.int .i64 0, .int .i64 0, .int .i64 0, .int .i64 0, .int .i64 0, .bool false, .bool false]) ?_ 0 _ rfl; (with_reducible repeat (first | refine blk_drewN ?_ _ | refine blk_drew ?_ | refine blk_alloc ?_ _)); exact BK188.out⟩, ⟨by repeat (first | (with_reducible first | exact HB.out | apply below_alloc | apply pw_below_drewN | apply below_drew1 | refine below_set ?_ GE188.out) | exact HB.out)⟩⟩
              · rw [if_neg c10] at H
                have c10b0 : decide ((IntKind.u64.wrap (Int.tdiv a1 64)) < (IntKind.u64.wrap ((rd_T31 l0 x13_1).f0))) = false := decide_eq_false c10
                clear c10
                (first | rw [c10b0] | (simp only [i64_w, i32_w]; rw [c10b0]) | skip)
                have H' := Aside0.mk H
                clear H
                have hcz12_0 : w8.cell? ⟨gb188, 0, none⟩ = some (.int .i64 0) := (blk_cell BK188.out 0).trans rfl
                have hcz12_1 : w8.cell? ⟨gb188, 1, none⟩ = some (.int .i64 0) := (blk_cell BK188.out 1).trans rfl
                have hcz12_2 : w8.cell? ⟨gb188, 2, none⟩ = some (.int .i64 0) := (blk_cell BK188.out 2).trans rfl
                have hcz12_3 : w8.cell? ⟨gb188, 3, none⟩ = some (.int .i64 0) := (blk_cell BK188.out 3).trans rfl
                have hcz12_4 : w8.cell? ⟨gb188, 4, none⟩ = some (.int .i64 0) := (blk_cell BK188.out 4).trans rfl
                have hcz12_5 : w8.cell? ⟨gb188, 5, none⟩ = some (.bool false) := (blk_cell BK188.out 5).trans rfl
                have hcz12_6 : w8.cell? ⟨gb188, 6, none⟩ = some (.bool false) := (blk_cell BK188.out 6).trans rfl
                have hfz12_0 := blk_frozen BK188.out 0
                have hfz12_1 := blk_frozen BK188.out 1
                have hfz12_2 := blk_frozen BK188.out 2
                have hfz12_3 := blk_frozen BK188.out 3
                have hfz12_4 := blk_frozen BK188.out 4
                have hfz12_5 := blk_frozen BK188.out 5
                have hfz12_6 := blk_frozen BK188.out 6
                go_wp2
                repeat (go_quiet (fail); try go_wp2)
                go_meet
                case rel => exact ⟨_, (decide ((IntKind.u64.wrap (Int.tdiv a1 64)) ≥ (IntKind.u64.wrap (wrap64 (((rd_T31 l0 x13_1).f0) + ((rd_T31 l0 x13_1).f1)))))), (by first | rfl | (simp; done) | (simp [*]; done)), H', ⟨by have := HK1.out; first | omega | exact Nat.le_refl _⟩, ⟨by (with_reducible repeat (first | refine blk_drewN ?_ _ | refine blk_drew ?_ | refine blk_alloc ?_ _)); refine blk_put (cs := #[.int .i64 ((rd_T31 l0 x13_1).f0), .int .i64 ((rd_T31 l0 x13_1).f1), .int .i64 ((rd_T31 l0 x13_1).f2), .int .i64 ((rd_T31 l0 x13_1).f3), .int .i64 ((rd_T31 l0 x13_1).f4), .bool ((rd_T31 l0 x13_1).f5), .bool false]) ?_ 6 _ rfl; (with_reducible repeat (first | refine blk_drewN ?_ _ | refine blk_drew ?_ | refine blk_alloc ?_ _)); refine blk_put (cs := #[.int .i64 ((rd_T31 l0 x13_1).f0), .int .i64 ((rd_T31 l0 x13_1).f1), .int .i64 ((rd_T31 l0 x13_1).f2), .int .i64 ((rd_T31 l0 x13_1).f3), .int .i64 ((rd_T31 l0 x13_1).f4), .bool false, .bool false]) ?_ 5 _ rfl; (with_reducible repeat (first | refine blk_drewN ?_ _ | refine blk_drew ?_ | refine blk_alloc ?_ _)); refine blk_put (cs := #[.int .i64 ((rd_T31 l0 x13_1).f0), .int .i64 ((rd_T31 l0 x13_1).f1), .int .i64 ((rd_T31 l0 x13_1).f2), .int .i64 ((rd_T31 l0 x13_1).f3), .int .i64 0, .bool false, .bool false]) ?_ 4 _ rfl; (with_reducible repeat (first | refine blk_drewN ?_ _ | refine blk_drew ?_ | refine blk_alloc ?_ _)); refine blk_put (cs := #[.int .i64 ((rd_T31 l0 x13_1).f0), .int .i64 ((rd_T31 l0 x13_1).f1), .int .i64 ((rd_T31 l0 x13_1).f2), .int .i64 0, .int .i64 0, .bool false, .bool false]) ?_ 3 _ rfl; (with_reducible repeat (first | refine blk_drewN ?_ _ | refine blk_drew ?_ | refine blk_alloc ?_ _)); refine blk_put (cs := #[.int .i64 ((rd_T31 l0 x13_1).f0), .int .i64 ((rd_T31 l0 x13_1).f1), .int .i64 0, .int .i64 0, .int .i64 0, .bool false, .bool false]) ?_ 2 _ rfl; (with_reducible repeat (first | refine blk_drewN ?_ _ | refine blk_drew ?_ | refine blk_alloc ?_ _)); refine blk_put (cs := #[.int .i64 ((rd_T31 l0 x13_1).f0), .int .i64 0, .int .i64 0, .int .i64 0, .int .i64 0, .bool false, .bool false]) ?_ 1 _ rfl; (with_reducible repeat (first | refine blk_drewN ?_ _ | refine blk_drew ?_ | refine blk_alloc ?_ _)); refine blk_put (cs := #[.int .i64 0, .int .i64 0, .int .i64 0, .int .i64 0, .int .i64 0, .bool false, .bool false]) ?_ 0 _ rfl; (with_reducible repeat (first | refine blk_drewN ?_ _ | refine blk_drew ?_ | refine blk_alloc ?_ _)); exact BK188.out⟩, ⟨by repeat (first | (with_reducible first | exact HB.out | apply below_alloc | apply pw_below_drewN | apply below_drew1 | refine below_set ?_ GE188.out) | exact HB.out)⟩⟩
            case rest =>
              clear HC7
              try clear c1
              try clear p1
              try clear q1
              try clear hx1
              try clear c2
              try clear p2
              try clear c4
              try clear c4b0
              try clear c5
              try clear c5b0
              try clear c6
              try clear c6b0
              try clear p6
              try clear c10
              try clear c10b0
              try clear hcz11_0
              try clear hcz11_1
              try clear hcz11_2
              try clear hcz11_3
              try clear hcz11_4
              try clear hcz11_5
              try clear hcz11_6
              try clear hcz12_0
              try clear hcz12_1
              try clear hcz12_2
              try clear hcz12_3
              try clear hcz12_4
              try clear hcz12_5
              try clear hcz12_6
              try clear hcz9_0
              try clear hcz9_1
              try clear hcz9_2
              try clear hcz9_3
              try clear hcz9_4
              try clear hcz9_5
              try clear hcz9_6
              try clear hfz11_0
              try clear hfz11_1
              try clear hfz11_2
              try clear hfz11_3
              try clear hfz11_4
              try clear hfz11_5
              try clear hfz11_6
              try clear hfz12_0
              try clear hfz12_1
              try clear hfz12_2
              try clear hfz12_3
              try clear hfz12_4
              try clear hfz12_5
              try clear hfz12_6
              try clear hfz9_0
              try clear hfz9_1
              try clear hfz9_2
              try clear hfz9_3
              try clear hfz9_4
              try clear hfz9_5
              try clear hfz9_6
              try clear hx187_0
              try clear hx187_1
              try clear hx187_2
              try clear hx187_3
              try clear hx187_4
              try clear hx187_5
              try clear hx187_6
              try clear p187
              try clear p2
              try clear q187
              obtain ⟨kq, x34_6, rfl, HA, HJ6, BK188, HB⟩ := hcut
              cases kq with
              | zero => exact absurd HA.out (by simp [gatehouseref05_Byte.j1])
              | succ kj6 =>
                have H := HA.out
                clear HA
                simp only [gatehouseref05_Byte.j1] at H
                by_cases c13 : x34_6 = true
                · subst c13
                  have H1 : (gatehouseref05_Byte.l0 kj6 a1 a2 l0 (l0.length : Int) (wrap64 (x13_1 + 1))) = some (r1, r2) := by rw [if_pos rfl] at H; exact H
                  clear H
                  have H := H1
                  clear H1
                  have H' := Aside0.mk H
                  clear H
                  go_wp2
                  repeat (go_quiet (fail); try go_wp2)
                  go_roundg kj6
                  case measure => have := HK1.out; have := HJ6.out; omega
                  case rel => exact ⟨(wrap64 (x13_1 + 1)), (by first | rfl | (simp; done) | (simp [*]; done)), H', ⟨by have := HK1.out; have := HJ6.out; omega⟩, ⟨by repeat (first | (with_reducible first | exact HB.out | apply below_alloc | apply pw_below_drewN | apply below_drew1 | refine below_set ?_ GE188.out) | exact HB.out)⟩⟩
                · replace c13 := Bool.eq_false_iff.mpr c13
                  subst c13
                  have H1 : (if a2 = 1 then (if ((rd_T31 l0 x13_1).f5) = true then (if a2 = 2 then (if ((rd_T31 l0 x13_1).f6) = true then (some (x13_1, wrap64 ((wrap64 (64 * (wrap64 ((wrap64 (((rd_T31 l0 x13_1).f4) + (wrap64 ((IntKind.u64.wrap (Int.tdiv a1 64)))))) - ((rd_T31 l0 x13_1).f0))))) + (wrap64 (Int.tmod a1 64))))) else (some ((-1), 0))) else (some (x13_1, wrap64 ((wrap64 (64 * (wrap64 ((wrap64 (((rd_T31 l0 x13_1).f4) + (wrap64 ((IntKind.u64.wrap (Int.tdiv a1 64)))))) - ((rd_T31 l0 x13_1).f0))))) + (wrap64 (Int.tmod a1 64)))))) else (some ((-1), 0))) else (if a2 = 2 then (if ((rd_T31 l0 x13_1).f6) = true then (some (x13_1, wrap64 ((wrap64 (64 * (wrap64 ((wrap64 (((rd_T31 l0 x13_1).f4) + (wrap64 ((IntKind.u64.wrap (Int.tdiv a1 64)))))) - ((rd_T31 l0 x13_1).f0))))) + (wrap64 (Int.tmod a1 64))))) else (some ((-1), 0))) else (some (x13_1, wrap64 ((wrap64 (64 * (wrap64 ((wrap64 (((rd_T31 l0 x13_1).f4) + (wrap64 ((IntKind.u64.wrap (Int.tdiv a1 64)))))) - ((rd_T31 l0 x13_1).f0))))) + (wrap64 (Int.tmod a1 64))))))) = some (r1, r2) := by rw [if_neg (show ¬ (false = true) by decide)] at H; exact H
                  clear H
                  have H := H1
                  clear H1
                  by_cases c14 : a2 = 1
                  · rw [if_pos c14] at H
                    have c14b0 : (a2 == 1) = true := beq_iff_eq.mpr c14
                    have c14b1 : (a2 != 1) = false := bne_eq_false_iff_eq.mpr c14
                    clear c14
                    by_cases c15 : ((rd_T31 l0 x13_1).f5) = true
                    · rw [if_pos c15] at H
                      have c15b0 : ((rd_T31 l0 x13_1).f5) = true := c15
                      clear c15
                      by_cases c16 : a2 = 2
                      · rw [if_pos c16] at H
                        have c16b0 : (a2 == 2) = true := beq_iff_eq.mpr c16
                        have c16b1 : (a2 != 2) = false := bne_eq_false_iff_eq.mpr c16
                        clear c16
                        by_cases c17 : ((rd_T31 l0 x13_1).f6) = true
                        · rw [if_pos c17] at H
                          have c17b0 : ((rd_T31 l0 x13_1).f6) = true := c17
                          clear c17
                          simp only [Option.some.injEq, Prod.mk.injEq] at H
                          obtain ⟨rfl, rfl⟩ := H
                          have hcz18_0 : wc.cell? ⟨gb188, 0, none⟩ = some (.int .i64 ((rd_T31 l0 x13_1).f0)) := (blk_cell BK188.out 0).trans rfl
                          have hcz18_1 : wc.cell? ⟨gb188, 1, none⟩ = some (.int .i64 ((rd_T31 l0 x13_1).f1)) := (blk_cell BK188.out 1).trans rfl
                          have hcz18_2 : wc.cell? ⟨gb188, 2, none⟩ = some (.int .i64 ((rd_T31 l0 x13_1).f2)) := (blk_cell BK188.out 2).trans rfl
                          have hcz18_3 : wc.cell? ⟨gb188, 3, none⟩ = some (.int .i64 ((rd_T31 l0 x13_1).f3)) := (blk_cell BK188.out 3).trans rfl
                          have hcz18_4 : wc.cell? ⟨gb188, 4, none⟩ = some (.int .i64 ((rd_T31 l0 x13_1).f4)) := (blk_cell BK188.out 4).trans rfl
                          have hcz18_5 : wc.cell? ⟨gb188, 5, none⟩ = some (.bool ((rd_T31 l0 x13_1).f5)) := (blk_cell BK188.out 5).trans rfl
                          have hcz18_6 : wc.cell? ⟨gb188, 6, none⟩ = some (.bool ((rd_T31 l0 x13_1).f6)) := (blk_cell BK188.out 6).trans rfl
                          have hfz18_0 := blk_frozen BK188.out 0
                          have hfz18_1 := blk_frozen BK188.out 1
                          have hfz18_2 := blk_frozen BK188.out 2
                          have hfz18_3 := blk_frozen BK188.out 3
                          have hfz18_4 := blk_frozen BK188.out 4
                          have hfz18_5 := blk_frozen BK188.out 5
                          have hfz18_6 := blk_frozen BK188.out 6
                          go_wp2
                          repeat (go_quiet (fail); try go_wp2)
                          go_ret2
                          exact ⟨by first | rfl | (simp [errW_none, errW_some] <;> rfl) | (simp [*, errW_none, errW_some] <;> rfl), by repeat (first | (with_reducible first | exact HB.out | apply below_alloc | apply pw_below_drewN | apply below_drew1 | refine below_set ?_ GE188.out) | exact HB.out)⟩
                        · rw [if_neg c17] at H
                          have c17b0 : ((rd_T31 l0 x13_1).f6) = false := by simpa using c17
                          clear c17
                          simp only [Option.some.injEq, Prod.mk.injEq] at H
                          obtain ⟨rfl, rfl⟩ := H
                          have hcz19_0 : wc.cell? ⟨gb188, 0, none⟩ = some (.int .i64 ((rd_T31 l0 x13_1).f0)) := (blk_cell BK188.out 0).trans rfl
                          have hcz19_1 : wc.cell? ⟨gb188, 1, none⟩ = some (.int .i64 ((rd_T31 l0 x13_1).f1)) := (blk_cell BK188.out 1).trans rfl
                          have hcz19_2 : wc.cell? ⟨gb188, 2, none⟩ = some (.int .i64 ((rd_T31 l0 x13_1).f2)) := (blk_cell BK188.out 2).trans rfl
                          have hcz19_3 : wc.cell? ⟨gb188, 3, none⟩ = some (.int .i64 ((rd_T31 l0 x13_1).f3)) := (blk_cell BK188.out 3).trans rfl
                          have hcz19_4 : wc.cell? ⟨gb188, 4, none⟩ = some (.int .i64 ((rd_T31 l0 x13_1).f4)) := (blk_cell BK188.out 4).trans rfl
                          have hcz19_5 : wc.cell? ⟨gb188, 5, none⟩ = some (.bool ((rd_T31 l0 x13_1).f5)) := (blk_cell BK188.out 5).trans rfl
                          have hcz19_6 : wc.cell? ⟨gb188, 6, none⟩ = some (.bool ((rd_T31 l0 x13_1).f6)) := (blk_cell BK188.out 6).trans rfl
                          have hfz19_0 := blk_frozen BK188.out 0
                          have hfz19_1 := blk_frozen BK188.out 1
                          have hfz19_2 := blk_frozen BK188.out 2
                          have hfz19_3 := blk_frozen BK188.out 3
                          have hfz19_4 := blk_frozen BK188.out 4
                          have hfz19_5 := blk_frozen BK188.out 5
                          have hfz19_6 := blk_frozen BK188.out 6
                          go_wp2
                          repeat (go_quiet (fail); try go_wp2)
                          go_ret2
                          exact ⟨by first | rfl | (simp [errW_none, errW_some] <;> rfl) | (simp [*, errW_none, errW_some] <;> rfl), by repeat (first | (with_reducible first | exact HB.out | apply below_alloc | apply pw_below_drewN | apply below_drew1 | refine below_set ?_ GE188.out) | exact HB.out)⟩
                      · rw [if_neg c16] at H
                        have c16b0 : (a2 == 2) = false := beq_eq_false_iff_ne.mpr c16
                        have c16b1 : (a2 != 2) = true := bne_iff_ne.mpr c16
                        simp only [Option.some.injEq, Prod.mk.injEq] at H
                        obtain ⟨rfl, rfl⟩ := H
                        have hcz20_0 : wc.cell? ⟨gb188, 0, none⟩ = some (.int .i64 ((rd_T31 l0 x13_1).f0)) := (blk_cell BK188.out 0).trans rfl
                        have hcz20_1 : wc.cell? ⟨gb188, 1, none⟩ = some (.int .i64 ((rd_T31 l0 x13_1).f1)) := (blk_cell BK188.out 1).trans rfl
                        have hcz20_2 : wc.cell? ⟨gb188, 2, none⟩ = some (.int .i64 ((rd_T31 l0 x13_1).f2)) := (blk_cell BK188.out 2).trans rfl
                        have hcz20_3 : wc.cell? ⟨gb188, 3, none⟩ = some (.int .i64 ((rd_T31 l0 x13_1).f3)) := (blk_cell BK188.out 3).trans rfl
                        have hcz20_4 : wc.cell? ⟨gb188, 4, none⟩ = some (.int .i64 ((rd_T31 l0 x13_1).f4)) := (blk_cell BK188.out 4).trans rfl
                        have hcz20_5 : wc.cell? ⟨gb188, 5, none⟩ = some (.bool ((rd_T31 l0 x13_1).f5)) := (blk_cell BK188.out 5).trans rfl
                        have hcz20_6 : wc.cell? ⟨gb188, 6, none⟩ = some (.bool ((rd_T31 l0 x13_1).f6)) := (blk_cell BK188.out 6).trans rfl
                        have hfz20_0 := blk_frozen BK188.out 0
                        have hfz20_1 := blk_frozen BK188.out 1
                        have hfz20_2 := blk_frozen BK188.out 2
                        have hfz20_3 := blk_frozen BK188.out 3
                        have hfz20_4 := blk_frozen BK188.out 4
                        have hfz20_5 := blk_frozen BK188.out 5
                        have hfz20_6 := blk_frozen BK188.out 6
                        go_wp2
                        repeat (go_quiet (fail); try go_wp2)
                        go_ret2
                        exact ⟨by first | rfl | (simp [errW_none, errW_some] <;> rfl) | (simp [*, errW_none, errW_some] <;> rfl), by repeat (first | (with_reducible first | exact HB.out | apply below_alloc | apply pw_below_drewN | apply below_drew1 | refine below_set ?_ GE188.out) | exact HB.out)⟩
                    · rw [if_neg c15] at H
                      have c15b0 : ((rd_T31 l0 x13_1).f5) = false := by simpa using c15
                      clear c15
                      simp only [Option.some.injEq, Prod.mk.injEq] at H
                      obtain ⟨rfl, rfl⟩ := H
                      have hcz21_0 : wc.cell? ⟨gb188, 0, none⟩ = some (.int .i64 ((rd_T31 l0 x13_1).f0)) := (blk_cell BK188.out 0).trans rfl
                      have hcz21_1 : wc.cell? ⟨gb188, 1, none⟩ = some (.int .i64 ((rd_T31 l0 x13_1).f1)) := (blk_cell BK188.out 1).trans rfl
                      have hcz21_2 : wc.cell? ⟨gb188, 2, none⟩ = some (.int .i64 ((rd_T31 l0 x13_1).f2)) := (blk_cell BK188.out 2).trans rfl
                      have hcz21_3 : wc.cell? ⟨gb188, 3, none⟩ = some (.int .i64 ((rd_T31 l0 x13_1).f3)) := (blk_cell BK188.out 3).trans rfl
                      have hcz21_4 : wc.cell? ⟨gb188, 4, none⟩ = some (.int .i64 ((rd_T31 l0 x13_1).f4)) := (blk_cell BK188.out 4).trans rfl
                      have hcz21_5 : wc.cell? ⟨gb188, 5, none⟩ = some (.bool ((rd_T31 l0 x13_1).f5)) := (blk_cell BK188.out 5).trans rfl
                      have hcz21_6 : wc.cell? ⟨gb188, 6, none⟩ = some (.bool ((rd_T31 l0 x13_1).f6)) := (blk_cell BK188.out 6).trans rfl
                      have hfz21_0 := blk_frozen BK188.out 0
                      have hfz21_1 := blk_frozen BK188.out 1
                      have hfz21_2 := blk_frozen BK188.out 2
                      have hfz21_3 := blk_frozen BK188.out 3
                      have hfz21_4 := blk_frozen BK188.out 4
                      have hfz21_5 := blk_frozen BK188.out 5
                      have hfz21_6 := blk_frozen BK188.out 6
                      go_wp2
                      repeat (go_quiet (fail); try go_wp2)
                      go_ret2
                      exact ⟨by first | rfl | (simp [errW_none, errW_some] <;> rfl) | (simp [*, errW_none, errW_some] <;> rfl), by repeat (first | (with_reducible first | exact HB.out | apply below_alloc | apply pw_below_drewN | apply below_drew1 | refine below_set ?_ GE188.out) | exact HB.out)⟩
                  · rw [if_neg c14] at H
                    have c14b0 : (a2 == 1) = false := beq_eq_false_iff_ne.mpr c14
                    have c14b1 : (a2 != 1) = true := bne_iff_ne.mpr c14
                    by_cases c22 : a2 = 2
                    · rw [if_pos c22] at H
                      have c22b0 : (a2 == 2) = true := beq_iff_eq.mpr c22
                      have c22b1 : (a2 != 2) = false := bne_eq_false_iff_eq.mpr c22
                      clear c22
                      by_cases c23 : ((rd_T31 l0 x13_1).f6) = true
                      · rw [if_pos c23] at H
                        have c23b0 : ((rd_T31 l0 x13_1).f6) = true := c23
                        clear c23
                        simp only [Option.some.injEq, Prod.mk.injEq] at H
                        obtain ⟨rfl, rfl⟩ := H
                        have hcz24_0 : wc.cell? ⟨gb188, 0, none⟩ = some (.int .i64 ((rd_T31 l0 x13_1).f0)) := (blk_cell BK188.out 0).trans rfl
                        have hcz24_1 : wc.cell? ⟨gb188, 1, none⟩ = some (.int .i64 ((rd_T31 l0 x13_1).f1)) := (blk_cell BK188.out 1).trans rfl
                        have hcz24_2 : wc.cell? ⟨gb188, 2, none⟩ = some (.int .i64 ((rd_T31 l0 x13_1).f2)) := (blk_cell BK188.out 2).trans rfl
                        have hcz24_3 : wc.cell? ⟨gb188, 3, none⟩ = some (.int .i64 ((rd_T31 l0 x13_1).f3)) := (blk_cell BK188.out 3).trans rfl
                        have hcz24_4 : wc.cell? ⟨gb188, 4, none⟩ = some (.int .i64 ((rd_T31 l0 x13_1).f4)) := (blk_cell BK188.out 4).trans rfl
                        have hcz24_5 : wc.cell? ⟨gb188, 5, none⟩ = some (.bool ((rd_T31 l0 x13_1).f5)) := (blk_cell BK188.out 5).trans rfl
                        have hcz24_6 : wc.cell? ⟨gb188, 6, none⟩ = some (.bool ((rd_T31 l0 x13_1).f6)) := (blk_cell BK188.out 6).trans rfl
                        have hfz24_0 := blk_frozen BK188.out 0
                        have hfz24_1 := blk_frozen BK188.out 1
                        have hfz24_2 := blk_frozen BK188.out 2
                        have hfz24_3 := blk_frozen BK188.out 3
                        have hfz24_4 := blk_frozen BK188.out 4
                        have hfz24_5 := blk_frozen BK188.out 5
                        have hfz24_6 := blk_frozen BK188.out 6
                        go_wp2
                        repeat (go_quiet (fail); try go_wp2)
                        go_ret2
                        exact ⟨by first | rfl | (simp [errW_none, errW_some] <;> rfl) | (simp [*, errW_none, errW_some] <;> rfl), by repeat (first | (with_reducible first | exact HB.out | apply below_alloc | apply pw_below_drewN | apply below_drew1 | refine below_set ?_ GE188.out) | exact HB.out)⟩
                      · rw [if_neg c23] at H
                        have c23b0 : ((rd_T31 l0 x13_1).f6) = false := by simpa using c23
                        clear c23
                        simp only [Option.some.injEq, Prod.mk.injEq] at H
                        obtain ⟨rfl, rfl⟩ := H
                        have hcz25_0 : wc.cell? ⟨gb188, 0, none⟩ = some (.int .i64 ((rd_T31 l0 x13_1).f0)) := (blk_cell BK188.out 0).trans rfl
                        have hcz25_1 : wc.cell? ⟨gb188, 1, none⟩ = some (.int .i64 ((rd_T31 l0 x13_1).f1)) := (blk_cell BK188.out 1).trans rfl
                        have hcz25_2 : wc.cell? ⟨gb188, 2, none⟩ = some (.int .i64 ((rd_T31 l0 x13_1).f2)) := (blk_cell BK188.out 2).trans rfl
                        have hcz25_3 : wc.cell? ⟨gb188, 3, none⟩ = some (.int .i64 ((rd_T31 l0 x13_1).f3)) := (blk_cell BK188.out 3).trans rfl
                        have hcz25_4 : wc.cell? ⟨gb188, 4, none⟩ = some (.int .i64 ((rd_T31 l0 x13_1).f4)) := (blk_cell BK188.out 4).trans rfl
                        have hcz25_5 : wc.cell? ⟨gb188, 5, none⟩ = some (.bool ((rd_T31 l0 x13_1).f5)) := (blk_cell BK188.out 5).trans rfl
                        have hcz25_6 : wc.cell? ⟨gb188, 6, none⟩ = some (.bool ((rd_T31 l0 x13_1).f6)) := (blk_cell BK188.out 6).trans rfl
                        have hfz25_0 := blk_frozen BK188.out 0
                        have hfz25_1 := blk_frozen BK188.out 1
                        have hfz25_2 := blk_frozen BK188.out 2
                        have hfz25_3 := blk_frozen BK188.out 3
                        have hfz25_4 := blk_frozen BK188.out 4
                        have hfz25_5 := blk_frozen BK188.out 5
                        have hfz25_6 := blk_frozen BK188.out 6
                        go_wp2
                        repeat (go_quiet (fail); try go_wp2)
                        go_ret2
                        exact ⟨by first | rfl | (simp [errW_none, errW_some] <;> rfl) | (simp [*, errW_none, errW_some] <;> rfl), by repeat (first | (with_reducible first | exact HB.out | apply below_alloc | apply pw_below_drewN | apply below_drew1 | refine below_set ?_ GE188.out) | exact HB.out)⟩
                    · rw [if_neg c22] at H
                      have c22b0 : (a2 == 2) = false := beq_eq_false_iff_ne.mpr c22
                      have c22b1 : (a2 != 2) = true := bne_iff_ne.mpr c22
                      simp only [Option.some.injEq, Prod.mk.injEq] at H
                      obtain ⟨rfl, rfl⟩ := H
                      have hcz26_0 : wc.cell? ⟨gb188, 0, none⟩ = some (.int .i64 ((rd_T31 l0 x13_1).f0)) := (blk_cell BK188.out 0).trans rfl
                      have hcz26_1 : wc.cell? ⟨gb188, 1, none⟩ = some (.int .i64 ((rd_T31 l0 x13_1).f1)) := (blk_cell BK188.out 1).trans rfl
                      have hcz26_2 : wc.cell? ⟨gb188, 2, none⟩ = some (.int .i64 ((rd_T31 l0 x13_1).f2)) := (blk_cell BK188.out 2).trans rfl
                      have hcz26_3 : wc.cell? ⟨gb188, 3, none⟩ = some (.int .i64 ((rd_T31 l0 x13_1).f3)) := (blk_cell BK188.out 3).trans rfl
                      have hcz26_4 : wc.cell? ⟨gb188, 4, none⟩ = some (.int .i64 ((rd_T31 l0 x13_1).f4)) := (blk_cell BK188.out 4).trans rfl
                      have hcz26_5 : wc.cell? ⟨gb188, 5, none⟩ = some (.bool ((rd_T31 l0 x13_1).f5)) := (blk_cell BK188.out 5).trans rfl
                      have hcz26_6 : wc.cell? ⟨gb188, 6, none⟩ = some (.bool ((rd_T31 l0 x13_1).f6)) := (blk_cell BK188.out 6).trans rfl
                      have hfz26_0 := blk_frozen BK188.out 0
                      have hfz26_1 := blk_frozen BK188.out 1
                      have hfz26_2 := blk_frozen BK188.out 2
                      have hfz26_3 := blk_frozen BK188.out 3
                      have hfz26_4 := blk_frozen BK188.out 4
                      have hfz26_5 := blk_frozen BK188.out 5
                      have hfz26_6 := blk_frozen BK188.out 6
                      go_wp2
                      repeat (go_quiet (fail); try go_wp2)
                      go_ret2
                      exact ⟨by first | rfl | (simp [errW_none, errW_some] <;> rfl) | (simp [*, errW_none, errW_some] <;> rfl), by repeat (first | (with_reducible first | exact HB.out | apply below_alloc | apply pw_below_drewN | apply below_drew1 | refine below_set ?_ GE188.out) | exact HB.out)⟩
          · rw [if_neg c6] at H
            exact absurd H (by simp)
        · rw [if_neg c5] at H
          exact absurd H (by simp)
      · rw [if_neg c4] at H
        have c4b0 : decide (x13_1 < (l0.length : Int)) = false := decide_eq_false c4
        clear c4
        simp only [Option.some.injEq, Prod.mk.injEq] at H
        obtain ⟨rfl, rfl⟩ := H
        go_wp2
        repeat (go_quiet (fail); try go_wp2)
        go_ret2
        exact ⟨by first | rfl | (simp [errW_none, errW_some] <;> rfl) | (simp [*, errW_none, errW_some] <;> rfl), by repeat (first | (with_reducible first | exact HB.out | apply below_alloc | apply pw_below_drewN | apply below_drew1) | exact HB.out)⟩

end Go.Proofs.YtcgmlcblcioaeaaZ
-- Written by a program of this session (gprint.py, over the kit's printer).
namespace Go.Proofs.YtcgmlcblcioaeaaZ
open Go.RowKit Go.Proofs.YtcgmlcblcioaeaaW.PrintWords Go.Proofs.YtcgmlcblcioaeaaW.PrintLast Go.Proofs.YtcgmlcblcioaeaaW.PrintMore
attribute [local go_sem] max2_int min2_int max_two min_two max_three min_three max_four min_four   -- for this text's walks alone
set_option linter.unusedVariables false
set_option linter.unusedSimpArgs false

/-! ### gatehouseref05_Span: function 13 -/
mutual
def gatehouseref05_Span.j0 : Nat → List (S31) → Int → Int → Int → Bool → Option ((List (S41)) × Int)
  | 0, _, _, _, _, _ => none
  | k + 1, x0, x1, x2, x3, x34 => if x34 = true then (some (([] : List (S41)), 1)) else (gatehouseref05_Span.l0 k x0 x1 x2 x3 (([] : List (S41))) (-1) 0)
def gatehouseref05_Span.l0 : Nat → List (S31) → Int → Int → Int → List (S41) → Int → Int → Option ((List (S41)) × Int)
  | 0, _, _, _, _, _, _, _ => none
  | k + 1, x0, x1, x2, x3, x10, x11, x12 => if x12 < x2 then (if (IntKind.u64.wrap (x1 + (IntKind.u64.wrap (x12)))) < x1 then (some (([] : List (S41)), 9)) else ((gatehouseref05_Byte.f k x0 (IntKind.u64.wrap (x1 + (IntKind.u64.wrap (x12)))) x3).bind fun bt193 => (if bt193.1 < 0 then (some (([] : List (S41)), 9)) else (if bt193.1 = x11 then (if 0 ≤ (wrap64 ((x10.length : Int) - 1)) then (if (wrap64 ((x10.length : Int) - 1)) < (x10.length : Int) then (gatehouseref05_Span.l0 k x0 x1 x2 x3 (x10.set ((wrap64 ((x10.length : Int) - 1)) : Int).toNat (⟨(rd_T41 x10 (wrap64 ((x10.length : Int) - 1))).f0, (rd_T41 x10 (wrap64 ((x10.length : Int) - 1))).f1, (rd_T41 x10 (wrap64 ((x10.length : Int) - 1))).f2, wrap64 (((rd_T41 x10 (wrap64 ((x10.length : Int) - 1))).f3) + 1)⟩ : S41)) bt193.1 (wrap64 (x12 + 1))) else (none)) else (none)) else (if 0 ≤ bt193.1 then (if bt193.1 < (x0.length : Int) then (if x10.length < 4398046511104 then (gatehouseref05_Span.l0 k x0 x1 x2 x3 (x10 ++ [(⟨(rd_T31 x0 bt193.1).f2, (rd_T31 x0 bt193.1).f3, bt193.2, 1⟩ : S41)]) bt193.1 (wrap64 (x12 + 1))) else (none)) else (none)) else (none)))))) else (some (x10, 0))
end
def gatehouseref05_Span.f (k : Nat) (l0 : List (S31)) (a1 : Int) (a2 : Int) (a3 : Int) : Option ((List (S41)) × Int) := (gatehouseref05_Right.f k l0).bind fun t189 => (if t189 = true then (if a2 < 1 then (gatehouseref05_Span.j0 k l0 a1 a2 a3 true) else (if a2 > 4096 then (gatehouseref05_Span.j0 k l0 a1 a2 a3 true) else (if a3 < 0 then (gatehouseref05_Span.j0 k l0 a1 a2 a3 true) else (gatehouseref05_Span.j0 k l0 a1 a2 a3 (decide (a3 > 2)))))) else (gatehouseref05_Span.j0 k l0 a1 a2 a3 true))
theorem gatehouseref05_Span.mono_l : ∀ k, (∀ y0 y1 y2 y3 y4, LeO (gatehouseref05_Span.j0 k y0 y1 y2 y3 y4) (gatehouseref05_Span.j0 (k + 1) y0 y1 y2 y3 y4)) ∧ (∀ y0 y1 y2 y3 y4 y5 y6, LeO (gatehouseref05_Span.l0 k y0 y1 y2 y3 y4 y5 y6) (gatehouseref05_Span.l0 (k + 1) y0 y1 y2 y3 y4 y5 y6))
  | 0 => ⟨fun _ _ _ _ _ r h => by simp [gatehouseref05_Span.j0] at h, fun _ _ _ _ _ _ _ r h => by simp [gatehouseref05_Span.l0] at h⟩
  | k + 1 => by
    obtain ⟨ih0, ih1⟩ := gatehouseref05_Span.mono_l k
    refine ⟨?_, ?_⟩
    · intro y0 y1 y2 y3 y4
      unfold gatehouseref05_Span.j0
      repeat' first
      | (with_reducible exact ih0 _ _ _ _ _)
      | (with_reducible exact ih1 _ _ _ _ _ _ _)
      | (with_reducible exact gatehouseref05_Byte.mono _ _ _ _)
      | (with_reducible exact gatehouseref05_Right.mono _ _)
      | (with_reducible exact LeO.refl _)
      | (with_reducible exact LeO.none _)
      | (with_reducible refine LeO.ite ?_ ?_)
      | (with_reducible refine LeO.bind ?_ (fun _ => ?_))
      | exact ih0 _ _ _ _ _
      | exact ih1 _ _ _ _ _ _ _
      | exact gatehouseref05_Byte.mono _ _ _ _
      | exact gatehouseref05_Right.mono _ _
      | exact LeO.none _
      | refine LeO.ite ?_ ?_
      | refine LeO.bind ?_ (fun _ => ?_)
    · intro y0 y1 y2 y3 y4 y5 y6
      unfold gatehouseref05_Span.l0
      repeat' first
      | (with_reducible exact ih0 _ _ _ _ _)
      | (with_reducible exact ih1 _ _ _ _ _ _ _)
      | (with_reducible exact gatehouseref05_Byte.mono _ _ _ _)
      | (with_reducible exact gatehouseref05_Right.mono _ _)
      | (with_reducible exact LeO.refl _)
      | (with_reducible exact LeO.none _)
      | (with_reducible refine LeO.ite ?_ ?_)
      | (with_reducible refine LeO.bind ?_ (fun _ => ?_))
      | exact ih0 _ _ _ _ _
      | exact ih1 _ _ _ _ _ _ _
      | exact gatehouseref05_Byte.mono _ _ _ _
      | exact gatehouseref05_Right.mono _ _
      | exact LeO.none _
      | refine LeO.ite ?_ ?_
      | refine LeO.bind ?_ (fun _ => ?_)
theorem gatehouseref05_Span.mono : ∀ a0 a1 a2 a3 k, LeO (gatehouseref05_Span.f k a0 a1 a2 a3) (gatehouseref05_Span.f (k + 1) a0 a1 a2 a3) := by
  intro a0 a1 a2 a3 k
  obtain ⟨ih0, ih1⟩ := gatehouseref05_Span.mono_l k
  unfold gatehouseref05_Span.f
  repeat' first
      | (with_reducible exact ih0 _ _ _ _ _)
      | (with_reducible exact ih1 _ _ _ _ _ _ _)
      | (with_reducible exact gatehouseref05_Byte.mono _ _ _ _)
      | (with_reducible exact gatehouseref05_Right.mono _ _)
      | (with_reducible exact LeO.refl _)
      | (with_reducible exact LeO.none _)
      | (with_reducible refine LeO.ite ?_ ?_)
      | (with_reducible refine LeO.bind ?_ (fun _ => ?_))
      | exact ih0 _ _ _ _ _
      | exact ih1 _ _ _ _ _ _ _
      | exact gatehouseref05_Byte.mono _ _ _ _
      | exact gatehouseref05_Right.mono _ _
      | exact LeO.none _
      | refine LeO.ite ?_ ?_
      | refine LeO.bind ?_ (fun _ => ?_)
def gatehouseref05_Span.T16 : Bool × List (List Nat × List Nat) := (true, [([], []), ([], []), ([], []), ([1, 2], [1, 2]), ([3], [3]), ([4], [4]), ([], []), ([], []), ([6, 7], [6, 7]), ([8], [8]), ([9], [9]), ([], []), ([5, 10, 11], [5, 10, 11]), ([12], [12]), ([0, 13], [0, 13]), ([14, 14, 0, 1, 2, 3, 4, 5, 6, 7, 8, 9, 10, 11, 12, 13, 14], [0, 14])])
def gatehouseref05_Span.B16 : List Nat := [0, 0, 0, 6, 14, 30, 0, 0, 192, 448, 960, 0, 4094, 8190, 16383, 32767]
theorem gatehouseref05_Span.tab16 : rtab .any (opsOf Try.f13 16) = gatehouseref05_Span.T16 := by kernel_rfl
theorem gatehouseref05_Span.bits16 : waitsOk gatehouseref05_Span.T16.2 gatehouseref05_Span.B16 = true := by kernel_rfl
set_option maxHeartbeats 8000000 in
set_option maxRecDepth 100000 in
theorem gatehouseref05_Span.calls (k : Nat) (A0 : Option Addr) (c0 : Nat) (l0 : List (S31)) (a1 : Int) (a2 : Int) (a3 : Int) (r1 : List (S41)) (r2 : Int) (w : World) (hr0 : Kd.C k31 w A0 l0.length l0) (hc0 : l0.length ≤ c0) (h : gatehouseref05_Span.f k l0 a1 a2 a3 = some (r1, r2)) :
    Calls Try.prog 13 #[.slice A0 l0.length c0, .int .u64 a1, .int .i64 a2, .int .i64 a3] w fun e w' => ∃ v0_ : Value, e = .returned (.tuple #[v0_, .int .i64 r2]) ∧ Kd.R k41 41 w' w.heap.size (fun _ => True) v0_ r1 ∧ Below w.heap.size w w' := by
  have hu41 := Try.underlying41
  have HR0 := Aside0.mk hr0
  have HC0 := Aside0.mk hc0
  clear hr0 hc0
  have HB := Aside0.mk (Below.refl w.heap.size w)
  have H : ((gatehouseref05_Right.f k l0).bind fun t189 => (if t189 = true then (if a2 < 1 then (gatehouseref05_Span.j0 k l0 a1 a2 a3 true) else (if a2 > 4096 then (gatehouseref05_Span.j0 k l0 a1 a2 a3 true) else (if a3 < 0 then (gatehouseref05_Span.j0 k l0 a1 a2 a3 true) else (gatehouseref05_Span.j0 k l0 a1 a2 a3 (decide (a3 > 2)))))) else (gatehouseref05_Span.j0 k l0 a1 a2 a3 true))) = some (r1, r2) := h
  clear h
  have HC5 := Aside0.mk H
  clear H
  go_enter Try.func13, Try.ntmps13
  go_upto_region 1 with (fail)
  go_cut [34] (fun v34 wc => ∃ (kq : Nat) (x34_4 : Bool), v34 = .bool x34_4 ∧ Aside0 (gatehouseref05_Span.j0 kq l0 a1 a2 a3 x34_4 = some (r1, r2)) ∧ Aside0 (kq ≤ k) ∧ Aside0 (Below w.heap.size w wc))
  case first =>
    have H := HC5.out
    clear HC5
    replace H := Option.bind_eq_some_iff.mp H
    obtain ⟨t189, A60, H⟩ := H
    replace H : (if t189 = true then (if a2 < 1 then (gatehouseref05_Span.j0 k l0 a1 a2 a3 true) else (if a2 > 4096 then (gatehouseref05_Span.j0 k l0 a1 a2 a3 true) else (if a3 < 0 then (gatehouseref05_Span.j0 k l0 a1 a2 a3 true) else (gatehouseref05_Span.j0 k l0 a1 a2 a3 (decide (a3 > 2)))))) else (gatehouseref05_Span.j0 k l0 a1 a2 a3 true)) = some (r1, r2) := H
    have A6 := Aside0.mk A60
    clear A60
    by_cases c7 : t189 = true
    · subst c7
      have H1 : (if a2 < 1 then (gatehouseref05_Span.j0 k l0 a1 a2 a3 true) else (if a2 > 4096 then (gatehouseref05_Span.j0 k l0 a1 a2 a3 true) else (if a3 < 0 then (gatehouseref05_Span.j0 k l0 a1 a2 a3 true) else (gatehouseref05_Span.j0 k l0 a1 a2 a3 (decide (a3 > 2)))))) = some (r1, r2) := by rw [if_pos rfl] at H; exact H
      clear H
      have H := H1
      clear H1
      by_cases c8 : a2 < 1
      · rw [if_pos c8] at H
        have c8b0 : decide (a2 < 1) = true := decide_eq_true c8
        clear c8
        (first | rw [c8b0] | (simp only [i64_w, i32_w]; rw [c8b0]) | skip)
        have H' := Aside0.mk H
        clear H
        go_wp2_with (first | ((with_reducible refine gate_callee (f := 19) rfl ?_); refine goesL_ (some 17) rfl rfl Try.func19 (by kernel_rfl) rfl #[.slice A0 l0.length c0] rfl (by (try simp only [List.map_toArray, List.map_cons, List.map_nil]); first | done | rfl | (simp only [List.length_drop, List.length_take]; rfl)) ?_; (with_reducible refine (gatehouseref05_Right.calls k _ _ l0 true _ ?side1 ?side2 A6.out).mono ?_); (case side1 => repeat (first | exact (Kd.C_below HR0.out HB.out) | (with_reducible refine Kd.C_alloc ?_ _) | (with_reducible refine Kd.C_drewN ?_ _) | (with_reducible refine Kd.C_drew ?_))); (case side2 => exact HC0.out); rintro e w9 ⟨rfl, hb⟩; refine ⟨_, rfl, ?_⟩; have n0_ := Aside0.mk (below_step (by repeat (first | (with_reducible first | exact HB.out | apply below_alloc | apply pw_below_drewN | apply below_drew1) | exact HB.out)) hb); clear HB; have HB := n0_; clear n0_; (try clear hb); (try clear hb2); (try clear hk); (try clear hi)))
        go_meet
        case rel => exact ⟨_, (true), (by first | rfl | (simp; done) | (simp [*]; done)), H', ⟨by first | omega | exact Nat.le_refl _⟩, ⟨by repeat (first | (with_reducible first | exact HB.out | apply below_alloc | apply pw_below_drewN | apply below_drew1) | exact HB.out)⟩⟩
      · rw [if_neg c8] at H
        have c8b0 : decide (a2 < 1) = false := decide_eq_false c8
        clear c8
        (first | rw [c8b0] | (simp only [i64_w, i32_w]; rw [c8b0]) | skip)
        by_cases c10 : a2 > 4096
        · rw [if_pos c10] at H
          have c10b0 : decide (4096 < a2) = true := decide_eq_true c10
          clear c10
          have H' := Aside0.mk H
          clear H
          go_wp2_with (first | ((with_reducible refine gate_callee (f := 19) rfl ?_); refine goesL_ (some 17) rfl rfl Try.func19 (by kernel_rfl) rfl #[.slice A0 l0.length c0] rfl (by (try simp only [List.map_toArray, List.map_cons, List.map_nil]); first | done | rfl | (simp only [List.length_drop, List.length_take]; rfl)) ?_; (with_reducible refine (gatehouseref05_Right.calls k _ _ l0 true _ ?side1 ?side2 A6.out).mono ?_); (case side1 => repeat (first | exact (Kd.C_below HR0.out HB.out) | (with_reducible refine Kd.C_alloc ?_ _) | (with_reducible refine Kd.C_drewN ?_ _) | (with_reducible refine Kd.C_drew ?_))); (case side2 => exact HC0.out); rintro e w11 ⟨rfl, hb⟩; refine ⟨_, rfl, ?_⟩; have n0_ := Aside0.mk (below_step (by repeat (first | (with_reducible first | exact HB.out | apply below_alloc | apply pw_below_drewN | apply below_drew1) | exact HB.out)) hb); clear HB; have HB := n0_; clear n0_; (try clear hb); (try clear hb2); (try clear hk); (try clear hi)))
          go_meet
          case rel => exact ⟨_, (true), (by first | rfl | (simp; done) | (simp [*]; done)), H', ⟨by first | omega | exact Nat.le_refl _⟩, ⟨by repeat (first | (with_reducible first | exact HB.out | apply below_alloc | apply pw_below_drewN | apply below_drew1) | exact HB.out)⟩⟩
        · rw [if_neg c10] at H
          have c10b0 : decide (4096 < a2) = false := decide_eq_false c10
          clear c10
          by_cases c12 : a3 < 0
          · rw [if_pos c12] at H
            have c12b0 : decide (a3 < 0) = true := decide_eq_true c12
            clear c12
            have H' := Aside0.mk H
            clear H
            go_wp2_with (first | ((with_reducible refine gate_callee (f := 19) rfl ?_); refine goesL_ (some 17) rfl rfl Try.func19 (by kernel_rfl) rfl #[.slice A0 l0.length c0] rfl (by (try simp only [List.map_toArray, List.map_cons, List.map_nil]); first | done | rfl | (simp only [List.length_drop, List.length_take]; rfl)) ?_; (with_reducible refine (gatehouseref05_Right.calls k _ _ l0 true _ ?side1 ?side2 A6.out).mono ?_); (case side1 => repeat (first | exact (Kd.C_below HR0.out HB.out) | (with_reducible refine Kd.C_alloc ?_ _) | (with_reducible refine Kd.C_drewN ?_ _) | (with_reducible refine Kd.C_drew ?_))); (case side2 => exact HC0.out); rintro e w13 ⟨rfl, hb⟩; refine ⟨_, rfl, ?_⟩; have n0_ := Aside0.mk (below_step (by repeat (first | (with_reducible first | exact HB.out | apply below_alloc | apply pw_below_drewN | apply below_drew1) | exact HB.out)) hb); clear HB; have HB := n0_; clear n0_; (try clear hb); (try clear hb2); (try clear hk); (try clear hi)))
            go_meet
            case rel => exact ⟨_, (true), (by first | rfl | (simp; done) | (simp [*]; done)), H', ⟨by first | omega | exact Nat.le_refl _⟩, ⟨by repeat (first | (with_reducible first | exact HB.out | apply below_alloc | apply pw_below_drewN | apply below_drew1) | exact HB.out)⟩⟩
          · rw [if_neg c12] at H
            have c12b0 : decide (a3 < 0) = false := decide_eq_false c12
            clear c12
            have H' := Aside0.mk H
            clear H
            go_wp2_with (first | ((with_reducible refine gate_callee (f := 19) rfl ?_); refine goesL_ (some 17) rfl rfl Try.func19 (by kernel_rfl) rfl #[.slice A0 l0.length c0] rfl (by (try simp only [List.map_toArray, List.map_cons, List.map_nil]); first | done | rfl | (simp only [List.length_drop, List.length_take]; rfl)) ?_; (with_reducible refine (gatehouseref05_Right.calls k _ _ l0 true _ ?side1 ?side2 A6.out).mono ?_); (case side1 => repeat (first | exact (Kd.C_below HR0.out HB.out) | (with_reducible refine Kd.C_alloc ?_ _) | (with_reducible refine Kd.C_drewN ?_ _) | (with_reducible refine Kd.C_drew ?_))); (case side2 => exact HC0.out); rintro e w14 ⟨rfl, hb⟩; refine ⟨_, rfl, ?_⟩; have n0_ := Aside0.mk (below_step (by repeat (first | (with_reducible first | exact HB.out | apply below_alloc | apply pw_below_drewN | apply below_drew1) | exact HB.out)) hb); clear HB; have HB := n0_; clear n0_; (try clear hb); (try clear hb2); (try clear hk); (try clear hi)))
            go_meet
            case rel => exact ⟨_, (decide (a3 > 2)), (by first | rfl | (simp; done) | (simp [*]; done)), H', ⟨by first | omega | exact Nat.le_refl _⟩, ⟨by repeat (first | (with_reducible first | exact HB.out | apply below_alloc | apply pw_below_drewN | apply below_drew1) | exact HB.out)⟩⟩
    · replace c7 := Bool.eq_false_iff.mpr c7
      subst c7
      have H1 : (gatehouseref05_Span.j0 k l0 a1 a2 a3 true) = some (r1, r2) := by rw [if_neg (show ¬ (false = true) by decide)] at H; exact H
      clear H
      have H := H1
      clear H1
      have H' := Aside0.mk H
      clear H
      go_wp2_with (first | ((with_reducible refine gate_callee (f := 19) rfl ?_); refine goesL_ (some 17) rfl rfl Try.func19 (by kernel_rfl) rfl #[.slice A0 l0.length c0] rfl (by (try simp only [List.map_toArray, List.map_cons, List.map_nil]); first | done | rfl | (simp only [List.length_drop, List.length_take]; rfl)) ?_; (with_reducible refine (gatehouseref05_Right.calls k _ _ l0 false _ ?side1 ?side2 A6.out).mono ?_); (case side1 => repeat (first | exact (Kd.C_below HR0.out HB.out) | (with_reducible refine Kd.C_alloc ?_ _) | (with_reducible refine Kd.C_drewN ?_ _) | (with_reducible refine Kd.C_drew ?_))); (case side2 => exact HC0.out); rintro e w15 ⟨rfl, hb⟩; refine ⟨_, rfl, ?_⟩; have n0_ := Aside0.mk (below_step (by repeat (first | (with_reducible first | exact HB.out | apply below_alloc | apply pw_below_drewN | apply below_drew1) | exact HB.out)) hb); clear HB; have HB := n0_; clear n0_; (try clear hb); (try clear hb2); (try clear hk); (try clear hi)))
      go_meet
      case rel => exact ⟨_, (true), (by first | rfl | (simp; done) | (simp [*]; done)), H', ⟨by first | omega | exact Nat.le_refl _⟩, ⟨by repeat (first | (with_reducible first | exact HB.out | apply below_alloc | apply pw_below_drewN | apply below_drew1) | exact HB.out)⟩⟩
  case rest =>
    clear HC5
    try clear c1
    try clear p2
    try clear c7
    try clear c8
    try clear c8b0
    try clear c10
    try clear c10b0
    try clear c12
    try clear c12b0
    try clear c13
    obtain ⟨kq, x34_4, rfl, HA, HJ4, HB⟩ := hcut
    cases kq with
    | zero => exact absurd HA.out (by simp [gatehouseref05_Span.j0])
    | succ kj4 =>
      have H := HA.out
      clear HA
      simp only [gatehouseref05_Span.j0] at H
      by_cases c16 : x34_4 = true
      · subst c16
        have H1 : (some (([] : List (S41)), 1)) = some (r1, r2) := by rw [if_pos rfl] at H; exact H
        clear H
        have H := H1
        clear H1
        simp only [Option.some.injEq, Prod.mk.injEq] at H
        obtain ⟨rfl, rfl⟩ := H
        go_wp2
        go_ret2
        exact ⟨_, by first | rfl | (simp [errW_none, errW_some] <;> rfl) | (simp [*, errW_none, errW_some] <;> rfl), by first | exact Kd.R_nil _ _ _ _ _ | exact Kd.N_nil _ _ _ _ _ | exact Kd.V_nil _ _ _ _ _ | exact Kd.Q_nil _ _ _ _ _ | exact Kd.S_nil _ _ _ _ _, by repeat (first | (with_reducible first | exact HB.out | apply below_alloc | apply pw_below_drewN | apply below_drew1) | exact HB.out)⟩
      · replace c16 := Bool.eq_false_iff.mpr c16
        subst c16
        have H1 : (gatehouseref05_Span.l0 kj4 l0 a1 a2 a3 (([] : List (S41))) (-1) 0) = some (r1, r2) := by rw [if_neg (show ¬ (false = true) by decide)] at H; exact H
        clear H
        have H := H1
        clear H1
        obtain ⟨y190, hy190⟩ : ∃ y_ : List (S41), y_ = (([] : List (S41))) := ⟨_, rfl⟩
        replace H : (gatehouseref05_Span.l0 kj4 l0 a1 a2 a3 y190 (-1) 0) = some (r1, r2) := by first | (rw [hy190]; with_reducible exact H) | (have H2_ := (Option.bind_some _ _).symm.trans H; rw [hy190]; with_reducible exact H2_) | (have H2_ := (Option.bind_some _ _).symm.trans H; with_reducible exact H2_) | with_reducible exact H | (rw [hy190]; exact H) | exact H
        have Ny190 := Aside0.mk hy190
        clear hy190
        have H' := Aside0.mk H
        clear H
        go_wp2_with (first | ((with_reducible refine gate_dst (N := 35) rfl ?_); refine Kd.R_lit k41 _ 41 ?hg (N := 35) ?hd (xs := ([] : List (S41))) (inner := []) (ok := fun _ => True) (okp := fun _ => True) ?hr ?hp (fun _ hk => hk) trivial (Below.refl _ _) (Nat.le_refl _) (by simp) ?_; (case hd => rfl); (case hg => rfl); (case hr => first | (go_simp; done) | (go_simp; rfl)); (case hp => exact (Reps.none _ _)); intro v191 w17 ho18 hb hg_ hnew_; clear hg_ hnew_; (first | rw [← Ny190.out] at ho18 | (simp only [Int.reduceToNat] at ho18; rw [← Ny190.out] at ho18)); have n0_ := Aside0.mk (Kd.R_lower ho18 (below_size (by repeat (first | (with_reducible first | exact HB.out | apply below_alloc | apply pw_below_drewN | apply below_drew1) | exact HB.out)))); have n1_ := Aside0.mk (below_step (by repeat (first | (with_reducible first | exact HB.out | apply below_alloc | apply pw_below_drewN | apply below_drew1) | exact HB.out)) hb); clear HB; have HO192 := n0_; have HB := n1_; clear n0_ n1_; clear hb ho18))
        go_loopg [10, 11, 12] kj4 (fun kq v10 v11 v12 w' => ∃ (x10_2 : List (S41)) (x11_2 : Int) (x12_2 : Int), v11 = .int .i64 x11_2 ∧ v12 = .int .i64 x12_2 ∧ Aside0 (gatehouseref05_Span.l0 kq l0 a1 a2 a3 x10_2 x11_2 x12_2 = some (r1, r2)) ∧ Aside0 (kq ≤ kj4) ∧ Aside0 (Kd.R k41 41 w' w.heap.size (fun _ => True) v10 x10_2) ∧ Aside0 (Below w.heap.size w w'))
        case atStart => exact ⟨(y190), ((-1)), (0), (by first | rfl | (simp; done) | (simp [*]; done)), (by first | rfl | (simp; done) | (simp [*]; done)), H', ⟨Nat.le_refl _⟩, ⟨by (with_reducible repeat (first | apply Kd.R_alloc | apply Kd.R_drewN | apply Kd.R_drew)); exact HO192.out⟩, ⟨by repeat (first | (with_reducible first | exact HB.out | apply below_alloc | apply pw_below_drewN | apply below_drew1) | exact HB.out)⟩⟩
        case round =>
          clear H'
          try clear c1
          try clear p2
          try clear c7
          try clear c8
          try clear c8b0
          try clear c10
          try clear c10b0
          try clear c12
          try clear c12b0
          try clear c13
          try clear c16
          try clear p2
          obtain ⟨x10_2, x11_2, x12_2, rfl, rfl, HA, HK2, HO_10, HB⟩ := hrel
          cases gk with
          | zero => exact absurd HA.out (by simp [gatehouseref05_Span.l0])
          | succ k2 =>
            have H := HA.out
            clear HA
            simp only [gatehouseref05_Span.l0] at H
            by_cases c19 : x12_2 < a2
            · rw [if_pos c19] at H
              have c19b0 : decide (x12_2 < a2) = true := decide_eq_true c19
              clear c19
              by_cases c20 : (IntKind.u64.wrap (a1 + (IntKind.u64.wrap (x12_2)))) < a1
              · rw [if_pos c20] at H
                have c20b0 : decide ((IntKind.u64.wrap (a1 + (IntKind.u64.wrap (x12_2)))) < a1) = true := decide_eq_true c20
                clear c20
                simp only [Option.some.injEq, Prod.mk.injEq] at H
                obtain ⟨rfl, rfl⟩ := H
                go_wp2
                go_ret2
                exact ⟨_, by first | rfl | (simp [errW_none, errW_some] <;> rfl) | (simp [*, errW_none, errW_some] <;> rfl), by first | exact Kd.R_nil _ _ _ _ _ | exact Kd.N_nil _ _ _ _ _ | exact Kd.V_nil _ _ _ _ _ | exact Kd.Q_nil _ _ _ _ _ | exact Kd.S_nil _ _ _ _ _, by repeat (first | (with_reducible first | exact HB.out | apply below_alloc | apply pw_below_drewN | apply below_drew1) | exact HB.out)⟩
              · rw [if_neg c20] at H
                have c20b0 : decide ((IntKind.u64.wrap (a1 + (IntKind.u64.wrap (x12_2)))) < a1) = false := decide_eq_false c20
                clear c20
                replace H := Option.bind_eq_some_iff.mp H
                obtain ⟨⟨t193, t194⟩, A210, H⟩ := H
                replace H : (if t193 < 0 then (some (([] : List (S41)), 9)) else (if t193 = x11_2 then (if 0 ≤ (wrap64 ((x10_2.length : Int) - 1)) then (if (wrap64 ((x10_2.length : Int) - 1)) < (x10_2.length : Int) then (gatehouseref05_Span.l0 k2 l0 a1 a2 a3 (x10_2.set ((wrap64 ((x10_2.length : Int) - 1)) : Int).toNat (⟨(rd_T41 x10_2 (wrap64 ((x10_2.length : Int) - 1))).f0, (rd_T41 x10_2 (wrap64 ((x10_2.length : Int) - 1))).f1, (rd_T41 x10_2 (wrap64 ((x10_2.length : Int) - 1))).f2, wrap64 (((rd_T41 x10_2 (wrap64 ((x10_2.length : Int) - 1))).f3) + 1)⟩ : S41)) t193 (wrap64 (x12_2 + 1))) else (none)) else (none)) else (if 0 ≤ t193 then (if t193 < (l0.length : Int) then (if x10_2.length < 4398046511104 then (gatehouseref05_Span.l0 k2 l0 a1 a2 a3 (x10_2 ++ [(⟨(rd_T31 l0 t193).f2, (rd_T31 l0 t193).f3, t194, 1⟩ : S41)]) t193 (wrap64 (x12_2 + 1))) else (none)) else (none)) else (none)))) = some (r1, r2) := H
                have A21 := Aside0.mk A210
                clear A210
                by_cases c22 : t193 < 0
                · rw [if_pos c22] at H
                  have c22b0 : decide (t193 < 0) = true := decide_eq_true c22
                  clear c22
                  simp only [Option.some.injEq, Prod.mk.injEq] at H
                  obtain ⟨rfl, rfl⟩ := H
                  go_wp2_with (first | ((with_reducible refine gate_callee (f := 26) rfl ?_); refine goesL_ (some 52) rfl rfl Try.func26 (by kernel_rfl) rfl #[.slice A0 l0.length c0, .int .u64 (IntKind.u64.wrap (a1 + (IntKind.u64.wrap (x12_2)))), .int .i64 a3] rfl (by (try simp only [List.map_toArray, List.map_cons, List.map_nil]); first | done | rfl | (simp only [List.length_drop, List.length_take]; rfl)) ?_; (with_reducible refine (gatehouseref05_Byte.calls k2 _ _ l0 (IntKind.u64.wrap (a1 + (IntKind.u64.wrap (x12_2)))) a3 t193 t194 _ ?side1 ?side2 A21.out).mono ?_); (case side1 => repeat (first | exact (Kd.C_below HR0.out HB.out) | (with_reducible refine Kd.C_alloc ?_ _) | (with_reducible refine Kd.C_drewN ?_ _) | (with_reducible refine Kd.C_drew ?_))); (case side2 => exact HC0.out); rintro e w23 ⟨rfl, hb⟩; refine ⟨_, rfl, ?_⟩; have n0_ := Aside0.mk (Kd.R_below (by (with_reducible repeat (first | apply Kd.R_alloc | apply Kd.R_drewN | apply Kd.R_drew)); exact HO_10.out) hb); have n1_ := Aside0.mk (below_step (by repeat (first | (with_reducible first | exact HB.out | apply below_alloc | apply pw_below_drewN | apply below_drew1) | exact HB.out)) hb); clear HO_10; clear HB; have HO_10 := n0_; have HB := n1_; clear n0_ n1_; (try clear hb); (try clear hb2); (try clear hk); (try clear hi)))
                  go_ret2
                  exact ⟨_, by first | rfl | (simp [errW_none, errW_some] <;> rfl) | (simp [*, errW_none, errW_some] <;> rfl), by first | exact Kd.R_nil _ _ _ _ _ | exact Kd.N_nil _ _ _ _ _ | exact Kd.V_nil _ _ _ _ _ | exact Kd.Q_nil _ _ _ _ _ | exact Kd.S_nil _ _ _ _ _, by repeat (first | (with_reducible first | exact HB.out | apply below_alloc | apply pw_below_drewN | apply below_drew1) | exact HB.out)⟩
                · rw [if_neg c22] at H
                  have c22b0 : decide (t193 < 0) = false := decide_eq_false c22
                  clear c22
                  by_cases c24 : t193 = x11_2
                  · rw [if_pos c24] at H
                    have c24b0 : (t193 == x11_2) = true := beq_iff_eq.mpr c24
                    have c24b1 : (t193 != x11_2) = false := bne_eq_false_iff_eq.mpr c24
                    clear c24
                    obtain ⟨ji25, hji25⟩ : ∃ j_ : Int, (wrap64 ((x10_2.length : Int) - 1)) = j_ := ⟨_, rfl⟩
                    replace H : (if 0 ≤ (ji25) then (if (ji25) < (x10_2.length : Int) then (gatehouseref05_Span.l0 k2 l0 a1 a2 a3 (x10_2.set ((ji25) : Int).toNat (⟨(rd_T41 x10_2 (ji25)).f0, (rd_T41 x10_2 (ji25)).f1, (rd_T41 x10_2 (ji25)).f2, wrap64 (((rd_T41 x10_2 (ji25)).f3) + 1)⟩ : S41)) t193 (wrap64 (x12_2 + 1))) else (none)) else (none)) = some (r1, r2) := by first | (rw [hji25] at H; exact H) | (simp only [hji25] at H ⊢; exact H)
                    (try rw [hji25] at A21)
                    have hji25w : (IntKind.i64.wrap ((x10_2.length : Int) - 1)) = ji25 := (i64_w _).trans hji25
                    by_cases c26 : 0 ≤ (ji25)
                    · rw [if_pos c26] at H
                      have c26b0 : decide (0 ≤ (ji25)) = true := decide_eq_true c26
                      clear c26
                      by_cases c27 : (ji25) < (x10_2.length : Int)
                      · rw [if_pos c27] at H
                        have c27b0 : decide ((ji25) < (x10_2.length : Int)) = true := decide_eq_true c27
                        clear c27
                        obtain ⟨y196, hy196⟩ : ∃ y_ : List (S41), y_ = (x10_2.set ((ji25) : Int).toNat (⟨(rd_T41 x10_2 (ji25)).f0, (rd_T41 x10_2 (ji25)).f1, (rd_T41 x10_2 (ji25)).f2, wrap64 (((rd_T41 x10_2 (ji25)).f3) + 1)⟩ : S41)) := ⟨_, rfl⟩
                        replace H : (gatehouseref05_Span.l0 k2 l0 a1 a2 a3 y196 t193 (wrap64 (x12_2 + 1))) = some (r1, r2) := by first | (rw [hy196]; with_reducible exact H) | (have H2_ := (Option.bind_some _ _).symm.trans H; rw [hy196]; with_reducible exact H2_) | (have H2_ := (Option.bind_some _ _).symm.trans H; with_reducible exact H2_) | with_reducible exact H | (rw [hy196]; exact H) | exact H
                        have Ny196 := Aside0.mk hy196
                        clear hy196
                        have H' := Aside0.mk H
                        clear H
                        go_wp2_with (first | ((with_reducible refine gate_callee (f := 26) rfl ?_); refine goesL_ (some 52) rfl rfl Try.func26 (by kernel_rfl) rfl #[.slice A0 l0.length c0, .int .u64 (IntKind.u64.wrap (a1 + (IntKind.u64.wrap (x12_2)))), .int .i64 a3] rfl (by (try simp only [List.map_toArray, List.map_cons, List.map_nil]); first | done | rfl | (simp only [List.length_drop, List.length_take]; rfl)) ?_; (with_reducible refine (gatehouseref05_Byte.calls k2 _ _ l0 (IntKind.u64.wrap (a1 + (IntKind.u64.wrap (x12_2)))) a3 t193 t194 _ ?side1 ?side2 A21.out).mono ?_); (case side1 => repeat (first | exact (Kd.C_below HR0.out HB.out) | (with_reducible refine Kd.C_alloc ?_ _) | (with_reducible refine Kd.C_drewN ?_ _) | (with_reducible refine Kd.C_drew ?_))); (case side2 => exact HC0.out); rintro e w29 ⟨rfl, hb⟩; refine ⟨_, rfl, ?_⟩; have n0_ := Aside0.mk (Kd.R_below (by (with_reducible repeat (first | apply Kd.R_alloc | apply Kd.R_drewN | apply Kd.R_drew)); exact HO_10.out) hb); have n1_ := Aside0.mk (below_step (by repeat (first | (with_reducible first | exact HB.out | apply below_alloc | apply pw_below_drewN | apply below_drew1) | exact HB.out)) hb); clear HO_10; clear HB; have HO_10 := n0_; have HB := n1_; clear n0_ n1_; (try clear hb); (try clear hb2); (try clear hk); (try clear hi); obtain ⟨Ao30, co30, eo30⟩ := Kd.R_slice HO_10.out; subst eo30; have p195 : 0 ≤ ((ji25) : Int) := of_decide_eq_true (by first | (with_reducible assumption) | assumption); have q195 : (ji25) < (x10_2.length : Int) := of_decide_eq_true (by first | (with_reducible assumption) | assumption); obtain ⟨ad195, e195, hx195_0, hx195_1, hx195_2, hx195_3⟩ := at_T41 (Kd.R_reads' HO_10.out).2.2 (ji25) p195 q195; cases e195; replace p195 := eq_true p195; replace q195 := eq_true q195; have p28 : 0 ≤ ((ji25) : Int) := of_decide_eq_true (by first | (with_reducible assumption) | assumption); have q28 : ((ji25) : Int) < ((x10_2.length : Int) : Int) := of_decide_eq_true (by first | (with_reducible assumption) | assumption); obtain ⟨go28, co28, eo28, gb28, gl28, cl28, HG28⟩ := Kd.R_form HO_10.out (by omega); (first | cases eo28 | (injection eo28 with ea_ en_ ec_; (first | subst ea_ | (injection ea_ with ea_; subst ea_)); subst ec_; clear en_)); have GB28 := Aside0.mk gb28; have GG28 := Aside0.mk HG28; clear gb28 gl28 HG28; (first | simp only [add_plain] at hx195_0 | skip); (first | simp only [add_plain] at hx195_1 | skip); (first | simp only [add_plain] at hx195_2 | skip); (first | simp only [add_plain] at hx195_3 | skip); obtain ⟨ce28, hcl28, hM28, hcc28, hfr28⟩ := Kd.R_elem HO_10.out z41 ((ji25) : Int) p28 q28; obtain rfl := k41_openM hM28; have hx28_0 : w29.cell? ⟨go28, ((ji25) : Int).toNat * 4, none⟩ = some (.int .i64 ((rd_T41 x10_2 (ji25)).f0)) := hcc28 0 _ rfl; have hx28_1 : w29.cell? ⟨go28, ((ji25) : Int).toNat * 4 + 1, none⟩ = some (.int .i64 ((rd_T41 x10_2 (ji25)).f1)) := hcc28 1 _ rfl; have hx28_2 : w29.cell? ⟨go28, ((ji25) : Int).toNat * 4 + 2, none⟩ = some (.int .i64 ((rd_T41 x10_2 (ji25)).f2)) := hcc28 2 _ rfl; have hx28_3 : w29.cell? ⟨go28, ((ji25) : Int).toNat * 4 + 3, none⟩ = some (.int .i64 ((rd_T41 x10_2 (ji25)).f3)) := hcc28 3 _ rfl; have hf28_0 : w29.frozen? ⟨go28, ((ji25) : Int).toNat * 4, none⟩ = false := hfr28 0; have hf28_1 : w29.frozen? ⟨go28, ((ji25) : Int).toNat * 4 + 1, none⟩ = false := hfr28 1; have hf28_2 : w29.frozen? ⟨go28, ((ji25) : Int).toNat * 4 + 2, none⟩ = false := hfr28 2; have hf28_3 : w29.frozen? ⟨go28, ((ji25) : Int).toNat * 4 + 3, none⟩ = false := hfr28 3; clear hcl28 hcc28 hfr28 hM28; replace p28 := eq_true p28; replace q28 := eq_true q28; have HX31 := Aside0.mk (show Kd.R k41 41 w29 w.heap.size (fun _ => True) (.slice (some ⟨go28, 0, none⟩) x10_2.length co30) x10_2 from (by (with_reducible repeat (first | apply Kd.R_alloc | apply Kd.R_drewN | apply Kd.R_drew)); exact HO_10.out)); obtain ⟨ce31, hcl31, hM31, hcc31, hfr31⟩ := Kd.R_elem HX31.out z41 ((ji25) : Int) (of_decide_eq_true (by first | (with_reducible assumption) | assumption)) (by have h_ : ((ji25) : Int) < ((x10_2.length : Int) : Int) := of_decide_eq_true (by first | (with_reducible assumption) | assumption); first | exact h_ | (have e_ := (Kd.R_reads' HO_10.out).1; omega) | simpa using h_); obtain rfl := k41_openM hM31; have HP31 := Kd.R_seg HX31.out ((ji25) : Int) (of_decide_eq_true (by first | (with_reducible assumption) | assumption)) (by have h_ : ((ji25) : Int) < ((x10_2.length : Int) : Int) := of_decide_eq_true (by first | (with_reducible assumption) | assumption); first | exact h_ | (have e_ := (Kd.R_reads' HO_10.out).1; omega) | simpa using h_) (seg := [.int .i64 (wrap64 (((rd_T41 x10_2 (ji25)).f3) + 1))]) (j := 3) hcl31 hcc31 (show 4 ≤ 4 from by decide) (x' := (⟨(rd_T41 x10_2 (ji25)).f0, (rd_T41 x10_2 (ji25)).f1, (rd_T41 x10_2 (ji25)).f2, wrap64 (((rd_T41 x10_2 (ji25)).f3) + 1)⟩ : S41)) (k41_mkM _ _ _ (⟨(rd_T41 x10_2 (ji25)).f0, (rd_T41 x10_2 (ji25)).f1, (rd_T41 x10_2 (ji25)).f2, wrap64 (((rd_T41 x10_2 (ji25)).f3) + 1)⟩ : S41) ) (fun _ hk => hk); have hx31_3 := hcc31 3 _ rfl; (try simp only [show (k41).sz = 4 from rfl, Nat.mul_one, Nat.add_zero] at hx31_3); have hf31_3 := hfr31 3; (try simp only [show (k41).sz = 4 from rfl, Nat.mul_one, Nat.add_zero] at hf31_3); clear hcl31 hcc31 hfr31 hM31) | ((with_reducible refine gate_store (t := 3) (p := 69) rfl ?_); refine store_event (t := 3) (p := 69) (v := ?vo_w32) (w1 := (w29.setCell ⟨go28, ((ji25) : Int).toNat * 4 + 3, none⟩ (.int .i64 (wrap64 (((rd_T41 x10_2 (ji25)).f3) + 1))))) ?hg ?ho ?hn ?hr ?_; (case ho => rfl); (case hg => rfl); (case hn => rfl); (case hr => first | (go_simp; done) | (go_simp; rfl)); intro w32 hw; have hg : w29.grownBy w32 (some go28) := (by rw [hw]; exact HP31.2); have hp_ : Kd.R k41 41 w32 w.heap.size (fun _ => True) (.slice (some ⟨go28, 0, none⟩) x10_2.length co30) y196 := (by rw [hw, Ny196.out]; exact HP31.1); clear HP31; have n0_ := Aside0.mk (hp_); have n1_ := Aside0.mk ((by rw [hw]; exact below_set (HB.out) GB28.out : Below w.heap.size w w32)); clear HO_10; clear HB; have HO_10 := n0_; have HB := n1_; clear n0_ n1_; clear hg hw hp_))
                        go_roundg k2
                        case measure => have := HJ4.out; have := HK2.out; omega
                        case rel => exact ⟨(y196), (t193), (wrap64 (x12_2 + 1)), (by first | rfl | (simp; done) | (simp [*]; done)), (by first | rfl | (simp; done) | (simp [*]; done)), H', ⟨by have := HJ4.out; have := HK2.out; omega⟩, ⟨by (with_reducible repeat (first | apply Kd.R_alloc | apply Kd.R_drewN | apply Kd.R_drew)); exact HO_10.out⟩, ⟨by repeat (first | (with_reducible first | exact HB.out | apply below_alloc | apply pw_below_drewN | apply below_drew1) | exact HB.out)⟩⟩
                      · rw [if_neg c27] at H
                        exact absurd H (by simp)
                    · rw [if_neg c26] at H
                      exact absurd H (by simp)
                  · rw [if_neg c24] at H
                    have c24b0 : (t193 == x11_2) = false := beq_eq_false_iff_ne.mpr c24
                    have c24b1 : (t193 != x11_2) = true := bne_iff_ne.mpr c24
                    by_cases c33 : 0 ≤ t193
                    · rw [if_pos c33] at H
                      have c33b0 : decide (0 ≤ t193) = true := decide_eq_true c33
                      clear c33
                      by_cases c34 : t193 < (l0.length : Int)
                      · rw [if_pos c34] at H
                        have c34b0 : decide (t193 < (l0.length : Int)) = true := decide_eq_true c34
                        clear c34
                        by_cases c35 : x10_2.length < 4398046511104
                        · rw [if_pos c35] at H
                          have LMc35 := Aside0.mk c35
                          clear c35
                          obtain ⟨y199, hy199⟩ : ∃ y_ : List (S41), y_ = (x10_2 ++ [(⟨(rd_T31 l0 t193).f2, (rd_T31 l0 t193).f3, t194, 1⟩ : S41)]) := ⟨_, rfl⟩
                          replace H : (gatehouseref05_Span.l0 k2 l0 a1 a2 a3 y199 t193 (wrap64 (x12_2 + 1))) = some (r1, r2) := by first | (rw [hy199]; with_reducible exact H) | (have H2_ := (Option.bind_some _ _).symm.trans H; rw [hy199]; with_reducible exact H2_) | (have H2_ := (Option.bind_some _ _).symm.trans H; with_reducible exact H2_) | with_reducible exact H | (rw [hy199]; exact H) | exact H
                          have Ny199 := Aside0.mk hy199
                          clear hy199
                          have H' := Aside0.mk H
                          clear H
                          try go_wp2_with (first | ((with_reducible refine gate_callee (f := 26) rfl ?_); refine goesL_ (some 52) rfl rfl Try.func26 (by kernel_rfl) rfl #[.slice A0 l0.length c0, .int .u64 (IntKind.u64.wrap (a1 + (IntKind.u64.wrap (x12_2)))), .int .i64 a3] rfl (by (try simp only [List.map_toArray, List.map_cons, List.map_nil]); first | done | rfl | (simp only [List.length_drop, List.length_take]; rfl)) ?_; (with_reducible refine (gatehouseref05_Byte.calls k2 _ _ l0 (IntKind.u64.wrap (a1 + (IntKind.u64.wrap (x12_2)))) a3 t193 t194 _ ?side1 ?side2 A21.out).mono ?_); (case side1 => repeat (first | exact (Kd.C_below HR0.out HB.out) | (with_reducible refine Kd.C_alloc ?_ _) | (with_reducible refine Kd.C_drewN ?_ _) | (with_reducible refine Kd.C_drew ?_))); (case side2 => exact HC0.out); rintro e w36 ⟨rfl, hb⟩; refine ⟨_, rfl, ?_⟩; have n0_ := Aside0.mk (Kd.R_below (by (with_reducible repeat (first | apply Kd.R_alloc | apply Kd.R_drewN | apply Kd.R_drew)); exact HO_10.out) hb); have n1_ := Aside0.mk (below_step (by repeat (first | (with_reducible first | exact HB.out | apply below_alloc | apply pw_below_drewN | apply below_drew1) | exact HB.out)) hb); clear HO_10; clear HB; have HO_10 := n0_; have HB := n1_; clear n0_ n1_; (try clear hb); (try clear hb2); (try clear hk); (try clear hi)))
                          have n0_ := Aside0.mk (Kd.R_drew HO_10.out)
                          have n1_ := Aside0.mk (below_drew1 HB.out)
                          clear HO_10
                          clear HB
                          have HO_10 := n0_
                          have HB := n1_
                          clear n0_ n1_
                          have p197 : 0 ≤ (t193 : Int) := of_decide_eq_true (by first | (with_reducible assumption) | assumption)
                          have q197 : t193 < (l0.length : Int) := of_decide_eq_true (by first | (with_reducible assumption) | assumption)
                          obtain ⟨ad197, e197, hx197_0, hx197_1, hx197_2, hx197_3, hx197_4, hx197_5, hx197_6⟩ := at_T31 HR0.out t193 p197 q197
                          have hw197_6 := hx197_6
                          have hw197_5 := hx197_5
                          have hw197_4 := hx197_4
                          have hw197_3 := hx197_3
                          have hw197_2 := hx197_2
                          have hw197_1 := hx197_1
                          have hw197_0 := hx197_0
                          cases e197
                          replace hx197_0 := (HB.out.cell (World.block_lt_of_cell? w _ hx197_0)).trans hx197_0
                          replace hx197_1 := (HB.out.cell (World.block_lt_of_cell? w _ hx197_1)).trans hx197_1
                          replace hx197_2 := (HB.out.cell (World.block_lt_of_cell? w _ hx197_2)).trans hx197_2
                          replace hx197_3 := (HB.out.cell (World.block_lt_of_cell? w _ hx197_3)).trans hx197_3
                          replace hx197_4 := (HB.out.cell (World.block_lt_of_cell? w _ hx197_4)).trans hx197_4
                          replace hx197_5 := (HB.out.cell (World.block_lt_of_cell? w _ hx197_5)).trans hx197_5
                          replace hx197_6 := (HB.out.cell (World.block_lt_of_cell? w _ hx197_6)).trans hx197_6
                          replace p197 := eq_true p197
                          replace q197 := eq_true q197
                          have p198 : 0 ≤ (t193 : Int) := of_decide_eq_true (by first | (with_reducible assumption) | assumption)
                          have q198 : t193 < (l0.length : Int) := of_decide_eq_true (by first | (with_reducible assumption) | assumption)
                          obtain ⟨ad198, e198, hx198_0, hx198_1, hx198_2, hx198_3, hx198_4, hx198_5, hx198_6⟩ := at_T31 HR0.out t193 p198 q198
                          have hw198_6 := hx198_6
                          have hw198_5 := hx198_5
                          have hw198_4 := hx198_4
                          have hw198_3 := hx198_3
                          have hw198_2 := hx198_2
                          have hw198_1 := hx198_1
                          have hw198_0 := hx198_0
                          obtain rfl : ad197 = ad198 := (by injection e198)
                          replace hx198_0 := (HB.out.cell (World.block_lt_of_cell? w _ hx198_0)).trans hx198_0
                          replace hx198_1 := (HB.out.cell (World.block_lt_of_cell? w _ hx198_1)).trans hx198_1
                          replace hx198_2 := (HB.out.cell (World.block_lt_of_cell? w _ hx198_2)).trans hx198_2
                          replace hx198_3 := (HB.out.cell (World.block_lt_of_cell? w _ hx198_3)).trans hx198_3
                          replace hx198_4 := (HB.out.cell (World.block_lt_of_cell? w _ hx198_4)).trans hx198_4
                          replace hx198_5 := (HB.out.cell (World.block_lt_of_cell? w _ hx198_5)).trans hx198_5
                          replace hx198_6 := (HB.out.cell (World.block_lt_of_cell? w _ hx198_6)).trans hx198_6
                          replace p198 := eq_true p198
                          replace q198 := eq_true q198
                          refine start_ (n := 16) (S := fun w' => w'.cell? (ad197.add ((t193).toNat * 7)) = some (.int .i64 ((rd_T31 l0 t193).f0)) ∧ w'.cell? ⟨(ad197.add ((t193).toNat * 7)).block, (ad197.add ((t193).toNat * 7)).off + 1, none⟩ = some (.int .i64 ((rd_T31 l0 t193).f1)) ∧ w'.cell? ⟨(ad197.add ((t193).toNat * 7)).block, (ad197.add ((t193).toNat * 7)).off + 2, none⟩ = some (.int .i64 ((rd_T31 l0 t193).f2)) ∧ w'.cell? ⟨(ad197.add ((t193).toNat * 7)).block, (ad197.add ((t193).toNat * 7)).off + 3, none⟩ = some (.int .i64 ((rd_T31 l0 t193).f3)) ∧ w'.cell? ⟨(ad197.add ((t193).toNat * 7)).block, (ad197.add ((t193).toNat * 7)).off + 4, none⟩ = some (.int .i64 ((rd_T31 l0 t193).f4)) ∧ w'.cell? ⟨(ad197.add ((t193).toNat * 7)).block, (ad197.add ((t193).toNat * 7)).off + 5, none⟩ = some (.bool ((rd_T31 l0 t193).f5)) ∧ w'.cell? ⟨(ad197.add ((t193).toNat * 7)).block, (ad197.add ((t193).toNat * 7)).off + 6, none⟩ = some (.bool ((rd_T31 l0 t193).f6)) ∧ w'.cell? (ad197.add ((t193).toNat * 7)) = some (.int .i64 ((rd_T31 l0 t193).f0)) ∧ w'.cell? ⟨(ad197.add ((t193).toNat * 7)).block, (ad197.add ((t193).toNat * 7)).off + 1, none⟩ = some (.int .i64 ((rd_T31 l0 t193).f1)) ∧ w'.cell? ⟨(ad197.add ((t193).toNat * 7)).block, (ad197.add ((t193).toNat * 7)).off + 2, none⟩ = some (.int .i64 ((rd_T31 l0 t193).f2)) ∧ w'.cell? ⟨(ad197.add ((t193).toNat * 7)).block, (ad197.add ((t193).toNat * 7)).off + 3, none⟩ = some (.int .i64 ((rd_T31 l0 t193).f3)) ∧ w'.cell? ⟨(ad197.add ((t193).toNat * 7)).block, (ad197.add ((t193).toNat * 7)).off + 4, none⟩ = some (.int .i64 ((rd_T31 l0 t193).f4)) ∧ w'.cell? ⟨(ad197.add ((t193).toNat * 7)).block, (ad197.add ((t193).toNat * 7)).off + 5, none⟩ = some (.bool ((rd_T31 l0 t193).f5)) ∧ w'.cell? ⟨(ad197.add ((t193).toNat * 7)).block, (ad197.add ((t193).toNat * 7)).off + 6, none⟩ = some (.bool ((rd_T31 l0 t193).f6))) (ds := []) #[false, false, false, false, false, false, false, false, false, false, false, false, false, false, false, false] (by kernel_rfl) rfl rfl ⟨((HB.out.cell (World.block_lt_of_cell? w _ hw197_0)).trans hw197_0), ((HB.out.cell (World.block_lt_of_cell? w _ hw197_1)).trans hw197_1), ((HB.out.cell (World.block_lt_of_cell? w _ hw197_2)).trans hw197_2), ((HB.out.cell (World.block_lt_of_cell? w _ hw197_3)).trans hw197_3), ((HB.out.cell (World.block_lt_of_cell? w _ hw197_4)).trans hw197_4), ((HB.out.cell (World.block_lt_of_cell? w _ hw197_5)).trans hw197_5), ((HB.out.cell (World.block_lt_of_cell? w _ hw197_6)).trans hw197_6), ((HB.out.cell (World.block_lt_of_cell? w _ hw198_0)).trans hw198_0), ((HB.out.cell (World.block_lt_of_cell? w _ hw198_1)).trans hw198_1), ((HB.out.cell (World.block_lt_of_cell? w _ hw198_2)).trans hw198_2), ((HB.out.cell (World.block_lt_of_cell? w _ hw198_3)).trans hw198_3), ((HB.out.cell (World.block_lt_of_cell? w _ hw198_4)).trans hw198_4), ((HB.out.cell (World.block_lt_of_cell? w _ hw198_5)).trans hw198_5), ((HB.out.cell (World.block_lt_of_cell? w _ hw198_6)).trans hw198_6)⟩ (fun hHeld => ?_); refine with_tabW gatehouseref05_Span.tab16 gatehouseref05_Span.bits16 (fun HT_ HW_ => ?_)
                          generalize w36.drew = w37 at HO_10 HB hx197_0 hx197_1 hx197_2 hx197_3 hx197_4 hx197_5 hx197_6 hx198_0 hx198_1 hx198_2 hx198_3 hx198_4 hx198_5 hx198_6 hHeld ⊢
                          refine pure_ (i := 0) (N := some 70) (v := ?_) (a' := ?_) #[true, false, false, false, false, false, false, false, false, false, false, false, false, false, false, false] rfl rfl (any_of HT_.out (by kernel_rfl)) (fun _ _ _ h => h) (Or.inl ⟨by rfl, ?_⟩) ?_ ?_
                          rotate_left
                          · intro w'
                            go_simp
                            with_reducible rfl
                          rotate_left
                          · simp only [Act.put, List.setIfInBounds_toArray, List.set_cons_zero, List.set_cons_succ, i64_w, i32_w]
                            rfl
                          refine pure_ (i := 1) (N := some 71) (v := ?_) (a' := ?_) #[true, true, false, false, false, false, false, false, false, false, false, false, false, false, false, false] rfl rfl (any_of HT_.out (by kernel_rfl)) (fun _ _ _ h => h) (Or.inl ⟨by rfl, ?_⟩) ?_ ?_
                          rotate_left
                          · intro w'
                            go_simp
                            with_reducible rfl
                          rotate_left
                          · simp only [Act.put, List.setIfInBounds_toArray, List.set_cons_zero, List.set_cons_succ, i64_w, i32_w]
                            rfl
                          refine pure_ (i := 2) (N := some 72) (v := ?_) (a' := ?_) #[true, true, true, false, false, false, false, false, false, false, false, false, false, false, false, false] rfl rfl (any_of HT_.out (by kernel_rfl)) (fun _ _ _ h => h) (Or.inl ⟨by rfl, ?_⟩) ?_ ?_
                          rotate_left
                          · intro w'
                            go_simp
                            with_reducible rfl
                          rotate_left
                          · simp only [Act.put, List.setIfInBounds_toArray, List.set_cons_zero, List.set_cons_succ, i64_w, i32_w]
                            rfl
                          refine pure_ (i := 3) (N := some 73) (v := ?_) (a' := ?_) #[true, true, true, true, false, false, false, false, false, false, false, false, false, false, false, false] rfl rfl (any_of HT_.out (by kernel_rfl)) (fun _ _ _ h => h) (Or.inl ⟨by rfl, ?_⟩) ?_ ?_
                          rotate_left
                          · intro w'
                            go_simp
                            with_reducible rfl
                          rotate_left
                          · simp only [Act.put, List.setIfInBounds_toArray, List.set_cons_zero, List.set_cons_succ, i64_w, i32_w]
                            rfl
                          refine pure_ (i := 4) (N := some 74) (v := ?_) (a' := ?_) #[true, true, true, true, true, false, false, false, false, false, false, false, false, false, false, false] rfl rfl (any_of HT_.out (by kernel_rfl)) (fun _ _ _ h => h) (Or.inl ⟨by rfl, ?_⟩) ?_ ?_
                          rotate_left
                          · intro w'
                            go_simp
                            with_reducible rfl
                          rotate_left
                          · simp only [Act.put, List.setIfInBounds_toArray, List.set_cons_zero, List.set_cons_succ, i64_w, i32_w]
                            rfl
                          refine pure_ (i := 6) (N := some 76) (v := ?_) (a' := ?_) #[true, true, true, true, true, false, true, false, false, false, false, false, false, false, false, false] rfl rfl (any_of HT_.out (by kernel_rfl)) (fun _ _ _ h => h) (Or.inl ⟨by rfl, ?_⟩) ?_ ?_
                          rotate_left
                          · intro w'
                            go_simp
                            with_reducible rfl
                          rotate_left
                          · simp only [Act.put, List.setIfInBounds_toArray, List.set_cons_zero, List.set_cons_succ, i64_w, i32_w]
                            rfl
                          refine pure_ (i := 7) (N := some 77) (v := ?_) (a' := ?_) #[true, true, true, true, true, false, true, true, false, false, false, false, false, false, false, false] rfl rfl (any_of HT_.out (by kernel_rfl)) (fun _ _ _ h => h) (Or.inl ⟨by rfl, ?_⟩) ?_ ?_
                          rotate_left
                          · intro w'
                            go_simp
                            with_reducible rfl
                          rotate_left
                          · simp only [Act.put, List.setIfInBounds_toArray, List.set_cons_zero, List.set_cons_succ, i64_w, i32_w]
                            rfl
                          refine pure_ (i := 8) (N := some 78) (v := ?_) (a' := ?_) #[true, true, true, true, true, false, true, true, true, false, false, false, false, false, false, false] rfl rfl (any_of HT_.out (by kernel_rfl)) (fun _ _ _ h => h) (Or.inl ⟨by rfl, ?_⟩) ?_ ?_
                          rotate_left
                          · intro w'
                            go_simp
                            with_reducible rfl
                          rotate_left
                          · simp only [Act.put, List.setIfInBounds_toArray, List.set_cons_zero, List.set_cons_succ, i64_w, i32_w]
                            rfl
                          refine pure_ (i := 9) (N := some 79) (v := ?_) (a' := ?_) #[true, true, true, true, true, false, true, true, true, true, false, false, false, false, false, false] rfl rfl (any_of HT_.out (by kernel_rfl)) (fun _ _ _ h => h) (Or.inl ⟨by rfl, ?_⟩) ?_ ?_
                          rotate_left
                          · intro w'
                            go_simp
                            with_reducible rfl
                          rotate_left
                          · simp only [Act.put, List.setIfInBounds_toArray, List.set_cons_zero, List.set_cons_succ, i64_w, i32_w]
                            rfl
                          refine pure_ (i := 11) (N := some 81) (v := ?_) (a' := ?_) #[true, true, true, true, true, false, true, true, true, true, false, true, false, false, false, false] rfl rfl (any_of HT_.out (by kernel_rfl)) (fun _ _ _ h => h) (Or.inl ⟨by rfl, ?_⟩) ?_ ?_
                          rotate_left
                          · intro w'
                            go_simp
                            with_reducible rfl
                          rotate_left
                          · simp only [Act.put, List.setIfInBounds_toArray, List.set_cons_zero, List.set_cons_succ, i64_w, i32_w]
                            rfl
                          refine take_ (i := 5) (N := some 75) (v := ?_) (a' := ?_) #[true, true, true, true, true, true, true, true, true, true, false, true, false, false, false, false] rfl rfl (take_ofW HT_.out HW_.out (by kernel_rfl)) (fun _ _ _ h => h) (Or.inl ⟨by rfl, ?_⟩) hHeld ?_ ?_
                          rotate_left
                          · rintro w' ⟨s0, s1, s2, s3, s4, s5, s6, s7, s8, s9, s10, s11, s12, s13⟩
                            go_simp
                            with_reducible rfl
                          rotate_left
                          · simp only [Act.put, List.setIfInBounds_toArray, List.set_cons_zero, List.set_cons_succ, i64_w, i32_w]
                            rfl
                          refine take_ (i := 10) (N := some 80) (v := ?_) (a' := ?_) #[true, true, true, true, true, true, true, true, true, true, true, true, false, false, false, false] rfl rfl (take_ofW HT_.out HW_.out (by kernel_rfl)) (fun _ _ _ h => h) (Or.inl ⟨by rfl, ?_⟩) hHeld ?_ ?_
                          rotate_left
                          · rintro w' ⟨s0, s1, s2, s3, s4, s5, s6, s7, s8, s9, s10, s11, s12, s13⟩
                            go_simp
                            with_reducible rfl
                          rotate_left
                          · simp only [Act.put, List.setIfInBounds_toArray, List.set_cons_zero, List.set_cons_succ, i64_w, i32_w]
                            rfl
                          refine pure_ (i := 12) (N := some 82) (v := ?_) (a' := ?_) #[true, true, true, true, true, true, true, true, true, true, true, true, true, false, false, false] rfl rfl (any_of HT_.out (by kernel_rfl)) (fun _ _ _ h => h) (Or.inl ⟨by rfl, ?_⟩) ?_ ?_
                          rotate_left
                          · intro w'
                            go_simp
                            with_reducible rfl
                          rotate_left
                          · simp only [Act.put, List.setIfInBounds_toArray, List.set_cons_zero, List.set_cons_succ, i64_w, i32_w]
                            rfl
                          refine one_ (i := 13) (N := some 83) #[true, true, true, true, true, true, true, true, true, true, true, true, true, true, false, false] rfl rfl (one_of HT_.out (by kernel_rfl)) (by decide) (fun K hK => ?_)
                          refine value_ (w1 := ?_) (v := ?_) (by rfl) rfl ?_ ?_
                          rotate_left 2
                          · go_simp
                            constructor
                            · rfl
                            · rfl
                          refine hK.out _ _ ⟨(World.cell?_alloc_lt _ _ _ (World.block_lt_of_cell? _ _ (((HB.out.cell (World.block_lt_of_cell? w _ hw197_0)).trans hw197_0)))).trans (((HB.out.cell (World.block_lt_of_cell? w _ hw197_0)).trans hw197_0)), (World.cell?_alloc_lt _ _ _ (World.block_lt_of_cell? _ _ (((HB.out.cell (World.block_lt_of_cell? w _ hw197_1)).trans hw197_1)))).trans (((HB.out.cell (World.block_lt_of_cell? w _ hw197_1)).trans hw197_1)), (World.cell?_alloc_lt _ _ _ (World.block_lt_of_cell? _ _ (((HB.out.cell (World.block_lt_of_cell? w _ hw197_2)).trans hw197_2)))).trans (((HB.out.cell (World.block_lt_of_cell? w _ hw197_2)).trans hw197_2)), (World.cell?_alloc_lt _ _ _ (World.block_lt_of_cell? _ _ (((HB.out.cell (World.block_lt_of_cell? w _ hw197_3)).trans hw197_3)))).trans (((HB.out.cell (World.block_lt_of_cell? w _ hw197_3)).trans hw197_3)), (World.cell?_alloc_lt _ _ _ (World.block_lt_of_cell? _ _ (((HB.out.cell (World.block_lt_of_cell? w _ hw197_4)).trans hw197_4)))).trans (((HB.out.cell (World.block_lt_of_cell? w _ hw197_4)).trans hw197_4)), (World.cell?_alloc_lt _ _ _ (World.block_lt_of_cell? _ _ (((HB.out.cell (World.block_lt_of_cell? w _ hw197_5)).trans hw197_5)))).trans (((HB.out.cell (World.block_lt_of_cell? w _ hw197_5)).trans hw197_5)), (World.cell?_alloc_lt _ _ _ (World.block_lt_of_cell? _ _ (((HB.out.cell (World.block_lt_of_cell? w _ hw197_6)).trans hw197_6)))).trans (((HB.out.cell (World.block_lt_of_cell? w _ hw197_6)).trans hw197_6)), (World.cell?_alloc_lt _ _ _ (World.block_lt_of_cell? _ _ (((HB.out.cell (World.block_lt_of_cell? w _ hw198_0)).trans hw198_0)))).trans (((HB.out.cell (World.block_lt_of_cell? w _ hw198_0)).trans hw198_0)), (World.cell?_alloc_lt _ _ _ (World.block_lt_of_cell? _ _ (((HB.out.cell (World.block_lt_of_cell? w _ hw198_1)).trans hw198_1)))).trans (((HB.out.cell (World.block_lt_of_cell? w _ hw198_1)).trans hw198_1)), (World.cell?_alloc_lt _ _ _ (World.block_lt_of_cell? _ _ (((HB.out.cell (World.block_lt_of_cell? w _ hw198_2)).trans hw198_2)))).trans (((HB.out.cell (World.block_lt_of_cell? w _ hw198_2)).trans hw198_2)), (World.cell?_alloc_lt _ _ _ (World.block_lt_of_cell? _ _ (((HB.out.cell (World.block_lt_of_cell? w _ hw198_3)).trans hw198_3)))).trans (((HB.out.cell (World.block_lt_of_cell? w _ hw198_3)).trans hw198_3)), (World.cell?_alloc_lt _ _ _ (World.block_lt_of_cell? _ _ (((HB.out.cell (World.block_lt_of_cell? w _ hw198_4)).trans hw198_4)))).trans (((HB.out.cell (World.block_lt_of_cell? w _ hw198_4)).trans hw198_4)), (World.cell?_alloc_lt _ _ _ (World.block_lt_of_cell? _ _ (((HB.out.cell (World.block_lt_of_cell? w _ hw198_5)).trans hw198_5)))).trans (((HB.out.cell (World.block_lt_of_cell? w _ hw198_5)).trans hw198_5)), (World.cell?_alloc_lt _ _ _ (World.block_lt_of_cell? _ _ (((HB.out.cell (World.block_lt_of_cell? w _ hw198_6)).trans hw198_6)))).trans (((HB.out.cell (World.block_lt_of_cell? w _ hw198_6)).trans hw198_6))⟩ (fun hHeld => ?_)
                          clear hK K
                          refine norm_ (a' := ?_) ?_ ?_
                          rotate_left
                          · show Act.put _ (some 83) _ = _
                            simp only [Act.put, List.setIfInBounds_toArray, List.set_cons_zero, List.set_cons_succ, i64_w, i32_w]
                            rfl
                          refine one_ (i := 14) (N := some 84) #[true, true, true, true, true, true, true, true, true, true, true, true, true, true, true, false] rfl rfl (one_of HT_.out (by kernel_rfl)) (by decide) (fun K hK => ?_)
                          refine Kd.R_append_step k41 (w0 := w) w.heap.size (by rfl) (.tmp 70) (.tmp 83) 25 41 (.agg #[(.int .i64 0), (.int .i64 0), (.int .i64 0), (.int .i64 0)]) 32 rfl Try.underlying25 info41 rfl (by decide) (by omega) u10 x10_2 (⟨(rd_T31 l0 t193).f2, (rd_T31 l0 t193).f3, t194, 1⟩ : S41) [.int .i64 ((rd_T31 l0 t193).f2), .int .i64 ((rd_T31 l0 t193).f3), .int .i64 t194, .int .i64 1] (fun _ => True) (fun _ => False) rfl rfl ?aP (fun _ hk => hk.elim) ?aF ?aO ?aB ?aS ?aL ?_
                          (case aP => exact k41_mkM _ _ _ (⟨(rd_T31 l0 t193).f2, (rd_T31 l0 t193).f3, t194, 1⟩ : S41))
                          (case aB => exact (by repeat (first | (with_reducible first | exact HB.out | apply below_alloc | apply pw_below_drewN | apply below_drew1) | exact HB.out)))
                          (case aF => exact (fun _ _ => trivial))
                          (case aO => exact (by (with_reducible repeat (first | apply Kd.R_alloc | apply Kd.R_drewN | apply Kd.R_drew)); exact HO_10.out))
                          (case aS => exact (below_size (by repeat (first | (with_reducible first | exact HB.out | apply below_alloc | apply pw_below_drewN | apply below_drew1) | exact HB.out))))
                          (case aL => have := LMc35.out; omega)
                          intro v200 w38 ho hb hg hat
                          rw [← Ny199.out] at ho
                          have n0_ := Aside0.mk (hb)
                          have n1_ := Aside0.mk (ho)
                          clear HB
                          clear HO_10
                          have HB := n0_
                          have HO201 := n1_
                          clear n0_ n1_
                          clear ho hb hg hat
                          refine hK.out _ _ ⟨((HB.out.cell (World.block_lt_of_cell? w _ hw197_0)).trans hw197_0), ((HB.out.cell (World.block_lt_of_cell? w _ hw197_1)).trans hw197_1), ((HB.out.cell (World.block_lt_of_cell? w _ hw197_2)).trans hw197_2), ((HB.out.cell (World.block_lt_of_cell? w _ hw197_3)).trans hw197_3), ((HB.out.cell (World.block_lt_of_cell? w _ hw197_4)).trans hw197_4), ((HB.out.cell (World.block_lt_of_cell? w _ hw197_5)).trans hw197_5), ((HB.out.cell (World.block_lt_of_cell? w _ hw197_6)).trans hw197_6), ((HB.out.cell (World.block_lt_of_cell? w _ hw198_0)).trans hw198_0), ((HB.out.cell (World.block_lt_of_cell? w _ hw198_1)).trans hw198_1), ((HB.out.cell (World.block_lt_of_cell? w _ hw198_2)).trans hw198_2), ((HB.out.cell (World.block_lt_of_cell? w _ hw198_3)).trans hw198_3), ((HB.out.cell (World.block_lt_of_cell? w _ hw198_4)).trans hw198_4), ((HB.out.cell (World.block_lt_of_cell? w _ hw198_5)).trans hw198_5), ((HB.out.cell (World.block_lt_of_cell? w _ hw198_6)).trans hw198_6)⟩ (fun hHeld => ?_)
                          clear hK K
                          refine norm_ (a' := ?_) ?_ ?_
                          rotate_left
                          · show Act.put _ (some 84) _ = _
                            simp only [Act.put, List.setIfInBounds_toArray, List.set_cons_zero, List.set_cons_succ, i64_w, i32_w]
                            rfl
                          refine pure_ (i := 15) (N := some 10) (v := ?_) (a' := ?_) #[true, true, true, true, true, true, true, true, true, true, true, true, true, true, true, true] rfl rfl (any_of HT_.out (by kernel_rfl)) (fun _ _ _ h => h) (Or.inl ⟨by rfl, ?_⟩) ?_ ?_
                          rotate_left
                          · intro w'
                            go_simp
                            with_reducible rfl
                          rotate_left
                          · simp only [Act.put, List.setIfInBounds_toArray, List.set_cons_zero, List.set_cons_succ, i64_w, i32_w]
                            rfl
                          refine done_ (done_of HT_.out (by kernel_rfl)) ?_
                          try go_wp2
                          go_roundg k2
                          case measure => have := HJ4.out; have := HK2.out; omega
                          case rel => exact ⟨(y199), (t193), (wrap64 (x12_2 + 1)), (by first | rfl | (simp; done) | (simp [*]; done)), (by first | rfl | (simp; done) | (simp [*]; done)), H', ⟨by have := HJ4.out; have := HK2.out; omega⟩, ⟨by (with_reducible repeat (first | apply Kd.R_alloc | apply Kd.R_drewN | apply Kd.R_drew)); exact HO201.out⟩, ⟨by repeat (first | (with_reducible first | exact HB.out | apply below_alloc | apply pw_below_drewN | apply below_drew1) | exact HB.out)⟩⟩
                        · rw [if_neg c35] at H
                          exact absurd H (by simp)
                      · rw [if_neg c34] at H
                        exact absurd H (by simp)
                    · rw [if_neg c33] at H
                      exact absurd H (by simp)
            · rw [if_neg c19] at H
              have c19b0 : decide (x12_2 < a2) = false := decide_eq_false c19
              clear c19
              simp only [Option.some.injEq, Prod.mk.injEq] at H
              obtain ⟨rfl, rfl⟩ := H
              go_wp2
              go_ret2
              exact ⟨_, by first | rfl | (simp [errW_none, errW_some] <;> rfl) | (simp [*, errW_none, errW_some] <;> rfl), by (with_reducible repeat (first | apply Kd.R_alloc | apply Kd.R_drewN | apply Kd.R_drew)); exact HO_10.out, by repeat (first | (with_reducible first | exact HB.out | apply below_alloc | apply pw_below_drewN | apply below_drew1) | exact HB.out)⟩

end Go.Proofs.YtcgmlcblcioaeaaZ
namespace Go.Proofs.YtcgmlcblcioaeaaP
open Go Go.RowKit Go.Proofs.YtcgmlcblcioaeaaZ Go.Proofs.YtcgmlcblcioaeaaW.PrintWords Go.Proofs.YtcgmlcblcioaeaaW.PrintLast Go.Proofs.YtcgmlcblcioaeaaW.PrintMore
open Go.Proofs.Ytcgmlcblcioaeaa (Mp Pc rightL rightFrom atI spanL spanFrom idOk putL cutL insL clash good_out right_good right_from right_order rightL_from atI_le takeWhile_at)

/-! One byte. -/
def byteFrom (need a : Int) : Nat → List Mp → Int × Int
  | _, [] => (-1, 0)
  | i, x :: xs => if inside (a / 64) x = true then (if x.may need = true then ((i : Int), x.frm * 64 + (a - x.va * 64)) else (-1, 0)) else byteFrom need a (i + 1) xs
theorem rbyte_loop (l : List S31) (hg : ∀ x ∈ l, x.m.good = true) (hmax : l.length ≤ 16) (a need : Int) (ha : 0 ≤ a) (ha2 : a ≤ 18446744073709551615) (hn : 0 ≤ need ∧ need ≤ 2) : ∀ (d k i : Nat), i + d = l.length → 2 * d < k →
    gatehouseref05_Byte.l0 k a need l l.length i = some (byteFrom need a i ((l.map S31.m).drop i)) := by
  intro d
  induction d with
  | zero =>
    intro k i hi hk
    obtain ⟨k, rfl⟩ : ∃ m, k = m + 1 := ⟨k - 1, by omega⟩
    rw [gatehouseref05_Byte.l0, if_neg (by omega), List.drop_eq_nil_of_le (by simp; omega), byteFrom]
  | succ d ih =>
    intro k i hi hk
    obtain ⟨k, rfl⟩ : ∃ m, k = m + 2 := ⟨k - 2, by omega⟩
    have hlt : i < l.length := by omega
    have g := good_out (hg _ (List.getElem_mem hlt))
    have hpg : IntKind.u64.wrap (Int.tdiv a 64) = a / 64 := by rw [Int.tdiv_eq_ediv_of_nonneg ha, u64_in (by omega) (by omega)]
    have hnext := ih k (i + 1) (by omega) (by omega)
    rw [show k + 2 = (k + 1) + 1 from rfl, gatehouseref05_Byte.l0, if_pos (by omega), if_pos (by omega), if_pos (by omega), rd31 l i hlt, hpg, drop31 l i hlt, byteFrom]
    generalize l[i] = x at *
    simp only [S31.m] at g
    rw [u64_in (x := x.f0) (by omega) (by omega), wrap_in (x := x.f0 + x.f1) (by omega) (by omega), u64_in (x := x.f0 + x.f1) (by omega) (by omega)]
    have hskip : gatehouseref05_Byte.j1 (k + 1) a need i (a / 64) l l.length i true x.f0 x.f1 x.f2 x.f3 x.f4 x.f5 x.f6 = some (byteFrom need a (i + 1) ((l.map S31.m).drop (i + 1))) := by
      rw [gatehouseref05_Byte.j1, if_pos rfl, wrap_in (by omega) (by omega), show ((i : Int) + 1) = ((i + 1 : Nat) : Int) by omega, hnext]
    by_cases h1 : a / 64 < x.f0
    · rw [if_pos h1, hskip, if_neg (by rw [show inside (a / 64) x.m = false from decide_eq_false (by simp only [S31.m]; omega)]; simp)]
    · rw [if_neg h1]
      by_cases h2 : a / 64 ≥ x.f0 + x.f1
      · rw [decide_eq_true h2, hskip, if_neg (by rw [show inside (a / 64) x.m = false from decide_eq_false (by simp only [S31.m]; omega)]; simp)]
      · rw [decide_eq_false h2, if_pos (show inside (a / 64) x.m = true from decide_eq_true (by simp only [S31.m]; omega)), gatehouseref05_Byte.j1, if_neg (by simp)]
        rw [wrap_in (x := a / 64) (by omega) (by omega), wrap_in (x := x.f4 + a / 64) (by omega) (by omega), wrap_in (x := x.f4 + a / 64 - x.f0) (by omega) (by omega), Int.tmod_eq_emod_of_nonneg ha, wrap_in (x := a % 64) (by omega) (by omega), wrap_in (x := 64 * (x.f4 + a / 64 - x.f0)) (by omega) (by omega), wrap_in (x := 64 * (x.f4 + a / 64 - x.f0) + a % 64) (by omega) (by omega)]
        have e : 64 * (x.f4 + a / 64 - x.f0) + a % 64 = x.f4 * 64 + (a - x.f0 * 64) := by omega
        rw [e]
        show _ = some (if x.m.may need = true then ((i : Int), x.f4 * 64 + (a - x.f0 * 64)) else (-1, 0))
        have hmay : x.m.may need = (if need = 1 then x.f5 else if need = 2 then x.f6 else true) := rfl
        generalize x.m.may need = mv at hmay
        generalize x.f4 * 64 + (a - x.f0 * 64) = off
        by_cases n1 : need = 1
        · rw [if_pos n1] at hmay ⊢
          subst hmay
          rw [if_neg (show ¬ need = 2 by omega)]
          cases x.f5
          · rw [if_neg (show ¬ false = true by simp), if_neg (show ¬ false = true by simp)]
          · rw [if_pos rfl, if_pos rfl]
        · rw [if_neg n1] at hmay ⊢
          by_cases n2 : need = 2
          · rw [if_pos n2] at hmay ⊢
            subst hmay
            cases x.f6
            · rw [if_neg (show ¬ false = true by simp), if_neg (show ¬ false = true by simp)]
            · rw [if_pos rfl, if_pos rfl]
          · rw [if_neg n2] at hmay ⊢
            subst hmay
            rw [if_pos rfl]
theorem rbyte_f (l : List S31) (hr : rightL (l.map S31.m) = true) (a need : Int) (ha : 0 ≤ a) (ha2 : a ≤ 18446744073709551615) (hn : 0 ≤ need ∧ need ≤ 2) (k : Nat) (hk : 32 < k) : gatehouseref05_Byte.f k l a need = some (byteFrom need a 0 (l.map S31.m)) := by
  obtain ⟨hf, h16⟩ := rightL_from hr
  rw [List.length_map] at h16
  have := rbyte_loop l (fun x hx => right_good hf x.m (by rw [List.mem_map]; exact ⟨x, hx, rfl⟩)) h16 a need ha ha2 hn l.length k 0 (by omega) (by omega)
  unfold gatehouseref05_Byte.f
  rw [show ((0 : Nat) : Int) = 0 from rfl, List.drop_zero] at this
  exact this
/-- What one byte is told, by the place that its page has. -/
theorem byteFrom_at (need a : Int) : ∀ (L : List Mp) (f : Int) (i : Nat), rightFrom f L = true →
    byteFrom need a i L = match (L.drop (atI L (a / 64))) with
      | [] => (-1, 0)
      | x :: _ => if a < x.va * 64 then (-1, 0) else if x.may need = true then (((i + atI L (a / 64) : Nat) : Int), x.frm * 64 + (a - x.va * 64)) else (-1, 0) := by
  intro L
  induction L with
  | nil => intro f i _; rfl
  | cons b L ih =>
    intro f i hr
    simp only [rightFrom, Bool.and_eq_true, decide_eq_true_eq] at hr
    rw [atI_cons, byteFrom]
    by_cases h : b.va + b.pages ≤ a / 64
    · rw [if_pos h, List.drop_succ_cons, if_neg (by rw [show inside (a / 64) b = false from decide_eq_false (by omega)]; simp), ih _ (i + 1) hr.2]
      rw [show i + 1 + atI L (a / 64) = i + (atI L (a / 64) + 1) by omega]
    · rw [if_neg h, List.drop_zero]
      simp only
      by_cases h2 : b.va ≤ a / 64
      · rw [if_pos (show inside (a / 64) b = true from decide_eq_true (by omega)), if_neg (show ¬ a < b.va * 64 by omega), Nat.add_zero]
      · rw [if_neg (by rw [show inside (a / 64) b = false from decide_eq_false (by omega)]; simp), if_pos (show a < b.va * 64 by omega)]
        have none_in : ∀ (M : List Mp) (q : Nat), (∀ x ∈ M, inside (a / 64) x = false) → byteFrom need a q M = (-1, 0) := by
          intro M
          induction M with
          | nil => intro q _; rfl
          | cons c M ihM =>
            intro q hM
            rw [byteFrom, if_neg (by rw [hM c (by simp)]; simp), ihM _ (fun x hx => hM x (by simp [hx]))]
        exact none_in L _ (fun x hx => decide_eq_false (by have := right_from hr.2 x hx; omega))
end Go.Proofs.YtcgmlcblcioaeaaP
