import Derived.Test.YtcgmlcblcioaeaaZ0
import Derived.Test.YtcgmlcblcioaeaaMRows0
-- Written by a program of this session (gprint.py, over the kit's printer).
namespace Go.Proofs.YtcgmlcblcioaeaaZ
open Go.RowKit Go.Proofs.YtcgmlcblcioaeaaW.PrintWords Go.Proofs.YtcgmlcblcioaeaaW.PrintLast Go.Proofs.YtcgmlcblcioaeaaW.PrintMore
attribute [local go_sem] max2_int min2_int max_two min_two max_three min_three max_four min_four   -- for this text's walks alone
set_option linter.unusedVariables false
set_option linter.unusedSimpArgs false

/-! ### gatehouseref05_Right: function 19 -/
mutual
def gatehouseref05_Right.l0 : Nat → List (S31) → Int → Int → Option (Bool)
 | 0, _, _, _ => none
 | k + 1, x0, x9, x10 => if x10 < x9 then (if 0 ≤ x10 then (if x10 < (x0.length : Int) then ((gatehouseref05_Good.f k ((rd_T31 x0 x10).f0) ((rd_T31 x0 x10).f1) ((rd_T31 x0 x10).f2) ((rd_T31 x0 x10).f3) ((rd_T31 x0 x10).f4) ((rd_T31 x0 x10).f5) ((rd_T31 x0 x10).f6)).bind fun t181 => (if t181 = true then (gatehouseref05_Right.l1 k x0 x10 0 x9 x10) else (some false))) else (none)) else (none)) else (some true)
def gatehouseref05_Right.l1 : Nat → List (S31) → Int → Int → Int → Int → Option (Bool)
 | 0, _, _, _, _, _ => none
 | k + 1, x0, x3, x4, x9, x10 => if x4 < x3 then (if 0 ≤ x4 then (if x4 < (x0.length : Int) then (if 0 ≤ x3 then (if x3 < (x0.length : Int) then (if ((rd_T31 x0 x4).f0) ≥ ((rd_T31 x0 x3).f0) then (some false) else ((gatehouseref05_Meet.f ((rd_T31 x0 x4).f0) ((rd_T31 x0 x4).f1) ((rd_T31 x0 x4).f2) ((rd_T31 x0 x4).f3) ((rd_T31 x0 x4).f4) ((rd_T31 x0 x4).f5) ((rd_T31 x0 x4).f6) ((rd_T31 x0 x3).f0) ((rd_T31 x0 x3).f1) ((rd_T31 x0 x3).f2) ((rd_T31 x0 x3).f3) ((rd_T31 x0 x3).f4) ((rd_T31 x0 x3).f5) ((rd_T31 x0 x3).f6)).bind fun t186 => (if t186 = true then (some false) else (gatehouseref05_Right.l1 k x0 x3 (wrap64 (x4 + 1)) x9 x10)))) else (none)) else (none)) else (none)) else (none)) else (gatehouseref05_Right.l0 k x0 x9 (wrap64 (x10 + 1)))
end
def gatehouseref05_Right.f (k : Nat) (l0 : List (S31)) : Option (Bool) := if (l0.length : Int) > 16 then (some false) else (gatehouseref05_Right.l0 k l0 (l0.length : Int) 0)
theorem gatehouseref05_Right.mono_l : ∀ k, (∀ y0 y1 y2, LeO (gatehouseref05_Right.l0 k y0 y1 y2) (gatehouseref05_Right.l0 (k + 1) y0 y1 y2)) ∧ (∀ y0 y1 y2 y3 y4, LeO (gatehouseref05_Right.l1 k y0 y1 y2 y3 y4) (gatehouseref05_Right.l1 (k + 1) y0 y1 y2 y3 y4))
 | 0 => ⟨fun _ _ _ r h => by simp [gatehouseref05_Right.l0] at h, fun _ _ _ _ _ r h => by simp [gatehouseref05_Right.l1] at h⟩
 | k + 1 => by
  obtain ⟨ih0, ih1⟩ := gatehouseref05_Right.mono_l k
  refine ⟨?_, ?_⟩
  ·intro y0 y1 y2
   unfold gatehouseref05_Right.l0
   repeat' first
   | (with_reducible exact ih0 _ _ _)
   | (with_reducible exact ih1 _ _ _ _ _)
   | (with_reducible exact gatehouseref05_Good.mono _ _ _ _ _ _ _ _)
   | (with_reducible exact LeO.refl _)
   | (with_reducible exact LeO.none _)
   | (with_reducible refine LeO.ite ?_ ?_)
   | (with_reducible refine LeO.bind ?_ (fun _ => ?_))
   | exact ih0 _ _ _
   | exact ih1 _ _ _ _ _
   | exact gatehouseref05_Good.mono _ _ _ _ _ _ _ _
   | exact LeO.none _
   | refine LeO.ite ?_ ?_
   | refine LeO.bind ?_ (fun _ => ?_)
  ·intro y0 y1 y2 y3 y4
   unfold gatehouseref05_Right.l1
   repeat' first
   | (with_reducible exact ih0 _ _ _)
   | (with_reducible exact ih1 _ _ _ _ _)
   | (with_reducible exact gatehouseref05_Good.mono _ _ _ _ _ _ _ _)
   | (with_reducible exact LeO.refl _)
   | (with_reducible exact LeO.none _)
   | (with_reducible refine LeO.ite ?_ ?_)
   | (with_reducible refine LeO.bind ?_ (fun _ => ?_))
   | exact ih0 _ _ _
   | exact ih1 _ _ _ _ _
   | exact gatehouseref05_Good.mono _ _ _ _ _ _ _ _
   | exact LeO.none _
   | refine LeO.ite ?_ ?_
   | refine LeO.bind ?_ (fun _ => ?_)
theorem gatehouseref05_Right.mono : ∀ a0 k, LeO (gatehouseref05_Right.f k a0) (gatehouseref05_Right.f (k + 1) a0) := by
 intro a0 k
 obtain ⟨ih0, ih1⟩ := gatehouseref05_Right.mono_l k
 unfold gatehouseref05_Right.f
 repeat' first
   | (with_reducible exact ih0 _ _ _)
   | (with_reducible exact ih1 _ _ _ _ _)
   | (with_reducible exact gatehouseref05_Good.mono _ _ _ _ _ _ _ _)
   | (with_reducible exact LeO.refl _)
   | (with_reducible exact LeO.none _)
   | (with_reducible refine LeO.ite ?_ ?_)
   | (with_reducible refine LeO.bind ?_ (fun _ => ?_))
   | exact ih0 _ _ _
   | exact ih1 _ _ _ _ _
   | exact gatehouseref05_Good.mono _ _ _ _ _ _ _ _
   | exact LeO.none _
   | refine LeO.ite ?_ ?_
   | refine LeO.bind ?_ (fun _ => ?_)
def gatehouseref05_Right.T11 : Bool × List (List Nat × List Nat) := (true, [([], []), ([], []), ([0, 1], [0, 1]), ([2], [2]), ([3], [3]), ([], []), ([], []), ([5, 6], [5, 6]), ([7], [7]), ([8], [8]), ([4, 9], [4, 9]), ([10], [10]), ([11], [11]), ([11], [11]), ([12, 13, 11], [11, 12, 13]), ([14, 11], [11, 14]), ([11], [11]), ([11], [11]), ([16, 17, 11], [11, 16, 17]), ([18, 11], [11, 18]), ([15, 19, 11, 11], [11, 15, 19]), ([11, 20], [11, 20])])
def gatehouseref05_Right.B11 : List Nat := [0, 0, 3, 7, 15, 0, 0, 96, 224, 480, 1023, 2047, 4095, 4095, 16383, 32767, 4095, 4095, 200703, 462847, 1048575, 2097151]
theorem gatehouseref05_Right.tab11 : rtab .any (opsOf Try.f19 11) = gatehouseref05_Right.T11 := by kernel_rfl
theorem gatehouseref05_Right.bits11 : waitsOk gatehouseref05_Right.T11.2 gatehouseref05_Right.B11 = true := by kernel_rfl
set_option maxHeartbeats 8000000 in
set_option maxRecDepth 100000 in
theorem gatehouseref05_Right.calls (k : Nat) (A0 : Option Addr) (c0 : Nat) (l0 : List (S31)) (r : Bool) (w : World) (hr0 : Kd.C k31 w A0 l0.length l0) (hc0 : l0.length ≤ c0) (h : gatehouseref05_Right.f k l0 = some r) :
  Calls Try.prog 19 #[.slice A0 l0.length c0] w fun e w' => e = .returned (.bool r) ∧ Below w.heap.size w w' := by
 have hu31 := Try.underlying31
 have HR0 := am_ hr0
 have HC0 := am_ hc0
 clear hr0 hc0
 have HB := am_ (Below.refl w.heap.size w)
 have H : (if (l0.length : Int) > 16 then (some false) else (gatehouseref05_Right.l0 k l0 (l0.length : Int) 0)) = some r := h
 clear h
 by_cases c2 : (l0.length : Int) > 16
 ·rw [if_pos c2] at H
  have c2b0 : decide (16 < (l0.length : Int)) = true := decide_eq_true c2
  have c2b1 : decide (16 < l0.length) = true := decide_eq_true (by omega)
  clear c2
  obtain rfl := Option.some.inj H
  go_enter Try.func19, Try.ntmps19
  go_wp2
  go_ret
  exact ⟨by first | rfl | (simp [errW_none, errW_some] <;> rfl) | (simp [*, errW_none, errW_some] <;> rfl), by repeat (first | (with_reducible first | exact HB.out | apply ba_ | apply bn_ | apply bd_) | exact HB.out)⟩
 ·rw [if_neg c2] at H
  have c2b0 : decide (16 < (l0.length : Int)) = false := decide_eq_false c2
  have c2b1 : decide (16 < l0.length) = false := decide_eq_false (by omega)
  clear c2
  have H' := am_ H
  clear H
  go_enter Try.func19, Try.ntmps19
  go_wp2
  go_loopg [10] k (fun kq v10 w' => ∃ (x10_1 : Int), v10 = .int .i64 x10_1 ∧ Aside0 (gatehouseref05_Right.l0 kq l0 (l0.length : Int) x10_1 = some r) ∧ Aside0 (kq ≤ k) ∧ Aside0 (Below w.heap.size w w'))
  case atStart => exact ⟨(0), (by first | rfl | (simp; done) | (simp [*]; done)), H', ⟨Nat.le_refl _⟩, ⟨by repeat (first | (with_reducible first | exact HB.out | apply ba_ | apply bn_ | apply bd_) | exact HB.out)⟩⟩
  case round =>
   clear H'
   try clear c1
   try clear c2
   try clear c2b0
   try clear c2b1
   try clear p2
   obtain ⟨x10_1, rfl, HA, HK1, HB⟩ := hrel
   cases gk with
   | zero => exact absurd HA.out (by simp [gatehouseref05_Right.l0])
   | succ k1 =>
    have H := HA.out
    clear HA
    simp only [gatehouseref05_Right.l0] at H
    by_cases c3 : x10_1 < (l0.length : Int)
    ·rw [if_pos c3] at H
     have c3b0 : decide (x10_1 < (l0.length : Int)) = true := decide_eq_true c3
     clear c3
     by_cases c4 : 0 ≤ x10_1
     ·rw [if_pos c4] at H
      have c4b0 : decide (0 ≤ x10_1) = true := decide_eq_true c4
      clear c4
      by_cases c5 : x10_1 < (l0.length : Int)
      ·rw [if_pos c5] at H
       have c5b0 : decide (x10_1 < (l0.length : Int)) = true := decide_eq_true c5
       clear c5
       replace H := Option.bind_eq_some_iff.mp H
       obtain ⟨t181, A60, H⟩ := H
       replace H : (if t181 = true then (gatehouseref05_Right.l1 k1 l0 x10_1 0 (l0.length : Int) x10_1) else (some false)) = some r := H
       have A6 := am_ A60
       clear A60
       by_cases c7 : t181 = true
       ·subst c7
        have H1 : (gatehouseref05_Right.l1 k1 l0 x10_1 0 (l0.length : Int) x10_1) = some r := by rw [if_pos rfl] at H; exact H
        clear H
        have H := H1
        clear H1
        have H' := am_ H
        clear H
        have p180 : 0 ≤ (x10_1 : Int) := of_decide_eq_true (by first | (with_reducible assumption) | assumption)
        have q180 : x10_1 < (l0.length : Int) := of_decide_eq_true (by first | (with_reducible assumption) | assumption)
        obtain ⟨ad180, e180, hx180_0, hx180_1, hx180_2, hx180_3, hx180_4, hx180_5, hx180_6⟩ := at_T31 HR0.out x10_1 p180 q180
        cases e180
        replace hx180_0 := (HB.out.cell (World.block_lt_of_cell? w _ hx180_0)).trans hx180_0
        replace hx180_1 := (HB.out.cell (World.block_lt_of_cell? w _ hx180_1)).trans hx180_1
        replace hx180_2 := (HB.out.cell (World.block_lt_of_cell? w _ hx180_2)).trans hx180_2
        replace hx180_3 := (HB.out.cell (World.block_lt_of_cell? w _ hx180_3)).trans hx180_3
        replace hx180_4 := (HB.out.cell (World.block_lt_of_cell? w _ hx180_4)).trans hx180_4
        replace hx180_5 := (HB.out.cell (World.block_lt_of_cell? w _ hx180_5)).trans hx180_5
        replace hx180_6 := (HB.out.cell (World.block_lt_of_cell? w _ hx180_6)).trans hx180_6
        replace p180 := eq_true p180
        replace q180 := eq_true q180
        go_wp2_with (first | ((with_reducible refine gate_callee (f := 27) rfl ?_); refine goesL_ (some 17) rfl rfl Try.func27 (by kernel_rfl) rfl #[.agg #[.int .i64 ((rd_T31 l0 x10_1).f0), .int .i64 ((rd_T31 l0 x10_1).f1), .int .i64 ((rd_T31 l0 x10_1).f2), .int .i64 ((rd_T31 l0 x10_1).f3), .int .i64 ((rd_T31 l0 x10_1).f4), .bool ((rd_T31 l0 x10_1).f5), .bool ((rd_T31 l0 x10_1).f6)]] rfl (by (try simp only [List.map_toArray, List.map_cons, List.map_nil]); first | done | rfl | (simp only [List.length_drop, List.length_take]; rfl)) ?_; (with_reducible refine (gatehouseref05_Good.calls k1 ((rd_T31 l0 x10_1).f0) ((rd_T31 l0 x10_1).f1) ((rd_T31 l0 x10_1).f2) ((rd_T31 l0 x10_1).f3) ((rd_T31 l0 x10_1).f4) ((rd_T31 l0 x10_1).f5) ((rd_T31 l0 x10_1).f6) true _ A6.out).mono ?_); rintro e w8 ⟨rfl, hb⟩; refine ⟨_, rfl, ?_⟩; have n0_ := am_ (below_step (by repeat (first | (with_reducible first | exact HB.out | apply ba_ | apply bn_ | apply bd_) | exact HB.out)) hb); clear HB; have HB := n0_; clear n0_; (try clear hb); (try clear hb2); (try clear hk); (try clear hi)))
        go_loopg [4] k1 (fun kq v4 w' => ∃ (x4_2 : Int), v4 = .int .i64 x4_2 ∧ Aside0 (gatehouseref05_Right.l1 kq l0 x10_1 x4_2 (l0.length : Int) x10_1 = some r) ∧ Aside0 (kq ≤ k1) ∧ Aside0 (Below w.heap.size w w'))
        case atStart => exact ⟨(0), (by first | rfl | (simp; done) | (simp [*]; done)), H', ⟨Nat.le_refl _⟩, ⟨by repeat (first | (with_reducible first | exact HB.out | apply ba_ | apply bn_ | apply bd_) | exact HB.out)⟩⟩
        case round =>
         clear H'
         try clear c1
         try clear p1
         try clear q1
         try clear hx1
         try clear c2
         try clear c2b0
         try clear c2b1
         try clear p2
         try clear c3
         try clear c3b0
         try clear c4
         try clear c4b0
         try clear c5
         try clear c5b0
         try clear c7
         try clear hx180_0
         try clear hx180_1
         try clear hx180_2
         try clear hx180_3
         try clear hx180_4
         try clear hx180_5
         try clear hx180_6
         try clear p180
         try clear p2
         try clear q180
         obtain ⟨x4_2, rfl, HA, HK2, HB⟩ := hrel
         cases gk with
         | zero => exact absurd HA.out (by simp [gatehouseref05_Right.l1])
         | succ k2 =>
          have H := HA.out
          clear HA
          simp only [gatehouseref05_Right.l1] at H
          by_cases c9 : x4_2 < x10_1
          ·rw [if_pos c9] at H
           have c9b0 : decide (x4_2 < x10_1) = true := decide_eq_true c9
           clear c9
           by_cases c10 : 0 ≤ x4_2
           ·rw [if_pos c10] at H
            have c10b0 : decide (0 ≤ x4_2) = true := decide_eq_true c10
            clear c10
            by_cases c11 : x4_2 < (l0.length : Int)
            ·rw [if_pos c11] at H
             have c11b0 : decide (x4_2 < (l0.length : Int)) = true := decide_eq_true c11
             clear c11
             by_cases c12 : 0 ≤ x10_1
             ·rw [if_pos c12] at H
              have c12b0 : decide (0 ≤ x10_1) = true := decide_eq_true c12
              clear c12
              by_cases c13 : x10_1 < (l0.length : Int)
              ·rw [if_pos c13] at H
               have c13b0 : decide (x10_1 < (l0.length : Int)) = true := decide_eq_true c13
               clear c13
               by_cases c14 : ((rd_T31 l0 x4_2).f0) ≥ ((rd_T31 l0 x10_1).f0)
               ·rw [if_pos c14] at H
                have c14b0 : decide (((rd_T31 l0 x10_1).f0) ≤ ((rd_T31 l0 x4_2).f0)) = true := decide_eq_true c14
                clear c14
                obtain rfl := Option.some.inj H
                try go_wp2
                have n0_ := am_ (bd_ HB.out)
                clear HB
                have HB := n0_
                clear n0_
                have p182 : 0 ≤ (x4_2 : Int) := of_decide_eq_true (by first | (with_reducible assumption) | assumption)
                have q182 : x4_2 < (l0.length : Int) := of_decide_eq_true (by first | (with_reducible assumption) | assumption)
                obtain ⟨ad182, e182, hx182_0, hx182_1, hx182_2, hx182_3, hx182_4, hx182_5, hx182_6⟩ := at_T31 HR0.out x4_2 p182 q182
                have hw182_6 := hx182_6
                have hw182_5 := hx182_5
                have hw182_4 := hx182_4
                have hw182_3 := hx182_3
                have hw182_2 := hx182_2
                have hw182_1 := hx182_1
                have hw182_0 := hx182_0
                obtain rfl : ad180 = ad182 := (by injection e182)
                replace hx182_0 := (HB.out.cell (World.block_lt_of_cell? w _ hx182_0)).trans hx182_0
                replace hx182_1 := (HB.out.cell (World.block_lt_of_cell? w _ hx182_1)).trans hx182_1
                replace hx182_2 := (HB.out.cell (World.block_lt_of_cell? w _ hx182_2)).trans hx182_2
                replace hx182_3 := (HB.out.cell (World.block_lt_of_cell? w _ hx182_3)).trans hx182_3
                replace hx182_4 := (HB.out.cell (World.block_lt_of_cell? w _ hx182_4)).trans hx182_4
                replace hx182_5 := (HB.out.cell (World.block_lt_of_cell? w _ hx182_5)).trans hx182_5
                replace hx182_6 := (HB.out.cell (World.block_lt_of_cell? w _ hx182_6)).trans hx182_6
                replace p182 := eq_true p182
                replace q182 := eq_true q182
                have p183 : 0 ≤ (x10_1 : Int) := of_decide_eq_true (by first | (with_reducible assumption) | assumption)
                have q183 : x10_1 < (l0.length : Int) := of_decide_eq_true (by first | (with_reducible assumption) | assumption)
                obtain ⟨ad183, e183, hx183_0, hx183_1, hx183_2, hx183_3, hx183_4, hx183_5, hx183_6⟩ := at_T31 HR0.out x10_1 p183 q183
                have hw183_6 := hx183_6
                have hw183_5 := hx183_5
                have hw183_4 := hx183_4
                have hw183_3 := hx183_3
                have hw183_2 := hx183_2
                have hw183_1 := hx183_1
                have hw183_0 := hx183_0
                obtain rfl : ad180 = ad183 := (by injection e183)
                replace hx183_0 := (HB.out.cell (World.block_lt_of_cell? w _ hx183_0)).trans hx183_0
                replace hx183_1 := (HB.out.cell (World.block_lt_of_cell? w _ hx183_1)).trans hx183_1
                replace hx183_2 := (HB.out.cell (World.block_lt_of_cell? w _ hx183_2)).trans hx183_2
                replace hx183_3 := (HB.out.cell (World.block_lt_of_cell? w _ hx183_3)).trans hx183_3
                replace hx183_4 := (HB.out.cell (World.block_lt_of_cell? w _ hx183_4)).trans hx183_4
                replace hx183_5 := (HB.out.cell (World.block_lt_of_cell? w _ hx183_5)).trans hx183_5
                replace hx183_6 := (HB.out.cell (World.block_lt_of_cell? w _ hx183_6)).trans hx183_6
                replace p183 := eq_true p183
                replace q183 := eq_true q183
                refine start_ (n := 22) (S := fun w' => w'.cell? (ad180.add ((x4_2).toNat * 7)) = some (.int .i64 ((rd_T31 l0 x4_2).f0)) ∧ w'.cell? ⟨(ad180.add ((x4_2).toNat * 7)).block, (ad180.add ((x4_2).toNat * 7)).off + 1, none⟩ = some (.int .i64 ((rd_T31 l0 x4_2).f1)) ∧ w'.cell? ⟨(ad180.add ((x4_2).toNat * 7)).block, (ad180.add ((x4_2).toNat * 7)).off + 2, none⟩ = some (.int .i64 ((rd_T31 l0 x4_2).f2)) ∧ w'.cell? ⟨(ad180.add ((x4_2).toNat * 7)).block, (ad180.add ((x4_2).toNat * 7)).off + 3, none⟩ = some (.int .i64 ((rd_T31 l0 x4_2).f3)) ∧ w'.cell? ⟨(ad180.add ((x4_2).toNat * 7)).block, (ad180.add ((x4_2).toNat * 7)).off + 4, none⟩ = some (.int .i64 ((rd_T31 l0 x4_2).f4)) ∧ w'.cell? ⟨(ad180.add ((x4_2).toNat * 7)).block, (ad180.add ((x4_2).toNat * 7)).off + 5, none⟩ = some (.bool ((rd_T31 l0 x4_2).f5)) ∧ w'.cell? ⟨(ad180.add ((x4_2).toNat * 7)).block, (ad180.add ((x4_2).toNat * 7)).off + 6, none⟩ = some (.bool ((rd_T31 l0 x4_2).f6)) ∧ w'.cell? (ad180.add ((x10_1).toNat * 7)) = some (.int .i64 ((rd_T31 l0 x10_1).f0)) ∧ w'.cell? ⟨(ad180.add ((x10_1).toNat * 7)).block, (ad180.add ((x10_1).toNat * 7)).off + 1, none⟩ = some (.int .i64 ((rd_T31 l0 x10_1).f1)) ∧ w'.cell? ⟨(ad180.add ((x10_1).toNat * 7)).block, (ad180.add ((x10_1).toNat * 7)).off + 2, none⟩ = some (.int .i64 ((rd_T31 l0 x10_1).f2)) ∧ w'.cell? ⟨(ad180.add ((x10_1).toNat * 7)).block, (ad180.add ((x10_1).toNat * 7)).off + 3, none⟩ = some (.int .i64 ((rd_T31 l0 x10_1).f3)) ∧ w'.cell? ⟨(ad180.add ((x10_1).toNat * 7)).block, (ad180.add ((x10_1).toNat * 7)).off + 4, none⟩ = some (.int .i64 ((rd_T31 l0 x10_1).f4)) ∧ w'.cell? ⟨(ad180.add ((x10_1).toNat * 7)).block, (ad180.add ((x10_1).toNat * 7)).off + 5, none⟩ = some (.bool ((rd_T31 l0 x10_1).f5)) ∧ w'.cell? ⟨(ad180.add ((x10_1).toNat * 7)).block, (ad180.add ((x10_1).toNat * 7)).off + 6, none⟩ = some (.bool ((rd_T31 l0 x10_1).f6))) (ds := []) #[false, false, false, false, false, false, false, false, false, false, false, false, false, false, false, false, false, false, false, false, false, false] (by kernel_rfl) rfl rfl ⟨((HB.out.cell (World.block_lt_of_cell? w _ hw182_0)).trans hw182_0), ((HB.out.cell (World.block_lt_of_cell? w _ hw182_1)).trans hw182_1), ((HB.out.cell (World.block_lt_of_cell? w _ hw182_2)).trans hw182_2), ((HB.out.cell (World.block_lt_of_cell? w _ hw182_3)).trans hw182_3), ((HB.out.cell (World.block_lt_of_cell? w _ hw182_4)).trans hw182_4), ((HB.out.cell (World.block_lt_of_cell? w _ hw182_5)).trans hw182_5), ((HB.out.cell (World.block_lt_of_cell? w _ hw182_6)).trans hw182_6), ((HB.out.cell (World.block_lt_of_cell? w _ hw183_0)).trans hw183_0), ((HB.out.cell (World.block_lt_of_cell? w _ hw183_1)).trans hw183_1), ((HB.out.cell (World.block_lt_of_cell? w _ hw183_2)).trans hw183_2), ((HB.out.cell (World.block_lt_of_cell? w _ hw183_3)).trans hw183_3), ((HB.out.cell (World.block_lt_of_cell? w _ hw183_4)).trans hw183_4), ((HB.out.cell (World.block_lt_of_cell? w _ hw183_5)).trans hw183_5), ((HB.out.cell (World.block_lt_of_cell? w _ hw183_6)).trans hw183_6)⟩ (fun hHeld => ?_); refine with_tabW gatehouseref05_Right.tab11 gatehouseref05_Right.bits11 (fun HT_ HW_ => ?_)
                generalize wr.drew = w15 at HB hx182_0 hx182_1 hx182_2 hx182_3 hx182_4 hx182_5 hx182_6 hx183_0 hx183_1 hx183_2 hx183_3 hx183_4 hx183_5 hx183_6 hHeld ⊢
                refine pure_ (i := 0) (N := some 24) (v := ?_) (a' := ?_) #[true, false, false, false, false, false, false, false, false, false, false, false, false, false, false, false, false, false, false, false, false, false] rfl rfl (any_of HT_.out (by kernel_rfl)) (fun _ _ _ h => h) (Or.inl ⟨by rfl, ?_⟩) ?_ ?_
                rotate_left
                ·intro w'
                 go_simp
                 with_reducible rfl
                rotate_left
                ·simp only [Act.put, List.setIfInBounds_toArray, List.set_cons_zero, List.set_cons_succ, i64_w, i32_w]
                 rfl
                refine pure_ (i := 1) (N := some 25) (v := ?_) (a' := ?_) #[true, true, false, false, false, false, false, false, false, false, false, false, false, false, false, false, false, false, false, false, false, false] rfl rfl (any_of HT_.out (by kernel_rfl)) (fun _ _ _ h => h) (Or.inl ⟨by rfl, ?_⟩) ?_ ?_
                rotate_left
                ·intro w'
                 go_simp
                 with_reducible rfl
                rotate_left
                ·simp only [Act.put, List.setIfInBounds_toArray, List.set_cons_zero, List.set_cons_succ, i64_w, i32_w]
                 rfl
                refine pure_ (i := 2) (N := some 26) (v := ?_) (a' := ?_) #[true, true, true, false, false, false, false, false, false, false, false, false, false, false, false, false, false, false, false, false, false, false] rfl rfl (any_of HT_.out (by kernel_rfl)) (fun _ _ _ h => h) (Or.inl ⟨by rfl, ?_⟩) ?_ ?_
                rotate_left
                ·intro w'
                 go_simp
                 with_reducible rfl
                rotate_left
                ·simp only [Act.put, List.setIfInBounds_toArray, List.set_cons_zero, List.set_cons_succ, i64_w, i32_w]
                 rfl
                refine pure_ (i := 3) (N := some 27) (v := ?_) (a' := ?_) #[true, true, true, true, false, false, false, false, false, false, false, false, false, false, false, false, false, false, false, false, false, false] rfl rfl (any_of HT_.out (by kernel_rfl)) (fun _ _ _ h => h) (Or.inl ⟨by rfl, ?_⟩) ?_ ?_
                rotate_left
                ·intro w'
                 go_simp
                 with_reducible rfl
                rotate_left
                ·simp only [Act.put, List.setIfInBounds_toArray, List.set_cons_zero, List.set_cons_succ, i64_w, i32_w]
                 rfl
                refine pure_ (i := 5) (N := some 29) (v := ?_) (a' := ?_) #[true, true, true, true, false, true, false, false, false, false, false, false, false, false, false, false, false, false, false, false, false, false] rfl rfl (any_of HT_.out (by kernel_rfl)) (fun _ _ _ h => h) (Or.inl ⟨by rfl, ?_⟩) ?_ ?_
                rotate_left
                ·intro w'
                 go_simp
                 with_reducible rfl
                rotate_left
                ·simp only [Act.put, List.setIfInBounds_toArray, List.set_cons_zero, List.set_cons_succ, i64_w, i32_w]
                 rfl
                refine pure_ (i := 6) (N := some 30) (v := ?_) (a' := ?_) #[true, true, true, true, false, true, true, false, false, false, false, false, false, false, false, false, false, false, false, false, false, false] rfl rfl (any_of HT_.out (by kernel_rfl)) (fun _ _ _ h => h) (Or.inl ⟨by rfl, ?_⟩) ?_ ?_
                rotate_left
                ·intro w'
                 go_simp
                 with_reducible rfl
                rotate_left
                ·simp only [Act.put, List.setIfInBounds_toArray, List.set_cons_zero, List.set_cons_succ, i64_w, i32_w]
                 rfl
                refine pure_ (i := 7) (N := some 31) (v := ?_) (a' := ?_) #[true, true, true, true, false, true, true, true, false, false, false, false, false, false, false, false, false, false, false, false, false, false] rfl rfl (any_of HT_.out (by kernel_rfl)) (fun _ _ _ h => h) (Or.inl ⟨by rfl, ?_⟩) ?_ ?_
                rotate_left
                ·intro w'
                 go_simp
                 with_reducible rfl
                rotate_left
                ·simp only [Act.put, List.setIfInBounds_toArray, List.set_cons_zero, List.set_cons_succ, i64_w, i32_w]
                 rfl
                refine pure_ (i := 8) (N := some 32) (v := ?_) (a' := ?_) #[true, true, true, true, false, true, true, true, true, false, false, false, false, false, false, false, false, false, false, false, false, false] rfl rfl (any_of HT_.out (by kernel_rfl)) (fun _ _ _ h => h) (Or.inl ⟨by rfl, ?_⟩) ?_ ?_
                rotate_left
                ·intro w'
                 go_simp
                 with_reducible rfl
                rotate_left
                ·simp only [Act.put, List.setIfInBounds_toArray, List.set_cons_zero, List.set_cons_succ, i64_w, i32_w]
                 rfl
                refine take_ (i := 4) (N := some 28) (v := ?_) (a' := ?_) #[true, true, true, true, true, true, true, true, true, false, false, false, false, false, false, false, false, false, false, false, false, false] rfl rfl (take_ofW HT_.out HW_.out (by kernel_rfl)) (fun _ _ _ h => h) (Or.inl ⟨by rfl, ?_⟩) hHeld ?_ ?_
                rotate_left
                ·rintro w' ⟨s0, s1, s2, s3, s4, s5, s6, s7, s8, s9, s10, s11, s12, s13⟩
                 go_simp
                 with_reducible rfl
                rotate_left
                ·simp only [Act.put, List.setIfInBounds_toArray, List.set_cons_zero, List.set_cons_succ, i64_w, i32_w]
                 rfl
                refine take_ (i := 9) (N := some 33) (v := ?_) (a' := ?_) #[true, true, true, true, true, true, true, true, true, true, false, false, false, false, false, false, false, false, false, false, false, false] rfl rfl (take_ofW HT_.out HW_.out (by kernel_rfl)) (fun _ _ _ h => h) (Or.inl ⟨by rfl, ?_⟩) hHeld ?_ ?_
                rotate_left
                ·rintro w' ⟨s0, s1, s2, s3, s4, s5, s6, s7, s8, s9, s10, s11, s12, s13⟩
                 go_simp
                 with_reducible rfl
                rotate_left
                ·simp only [Act.put, List.setIfInBounds_toArray, List.set_cons_zero, List.set_cons_succ, i64_w, i32_w]
                 rfl
                refine pure_ (i := 10) (N := some 34) (v := ?_) (a' := ?_) #[true, true, true, true, true, true, true, true, true, true, true, false, false, false, false, false, false, false, false, false, false, false] rfl rfl (any_of HT_.out (by kernel_rfl)) (fun _ _ _ h => h) (Or.inl ⟨by rfl, ?_⟩) ?_ ?_
                rotate_left
                ·intro w'
                 go_simp
                 with_reducible rfl
                rotate_left
                ·simp only [Act.put, List.setIfInBounds_toArray, List.set_cons_zero, List.set_cons_succ, i64_w, i32_w]
                 rfl
                refine pure_ (i := 11) (N := some 35) (v := ?_) (a' := ?_) #[true, true, true, true, true, true, true, true, true, true, true, true, false, false, false, false, false, false, false, false, false, false] rfl rfl (any_of HT_.out (by kernel_rfl)) (fun _ _ _ h => h) (Or.inl ⟨by rfl, ?_⟩) ?_ ?_
                rotate_left
                ·intro w'
                 go_simp
                 with_reducible rfl
                rotate_left
                ·simp only [Act.put, List.setIfInBounds_toArray, List.set_cons_zero, List.set_cons_succ, i64_w, i32_w]
                 rfl
                refine pure_ (i := 12) (N := some 36) (v := undef) (a' := ?_) #[true, true, true, true, true, true, true, true, true, true, true, true, true, false, false, false, false, false, false, false, false, false] rfl rfl (any_of HT_.out (by kernel_rfl)) (fun _ _ _ h => h) (Or.inr ⟨by rfl, rfl⟩) ?_ ?_
                rotate_left
                ·simp only [Act.put, List.setIfInBounds_toArray, List.set_cons_zero, List.set_cons_succ, i64_w, i32_w]
                 rfl
                refine pure_ (i := 13) (N := some 37) (v := undef) (a' := ?_) #[true, true, true, true, true, true, true, true, true, true, true, true, true, true, false, false, false, false, false, false, false, false] rfl rfl (any_of HT_.out (by kernel_rfl)) (fun _ _ _ h => h) (Or.inr ⟨by rfl, rfl⟩) ?_ ?_
                rotate_left
                ·simp only [Act.put, List.setIfInBounds_toArray, List.set_cons_zero, List.set_cons_succ, i64_w, i32_w]
                 rfl
                refine pure_ (i := 14) (N := some 38) (v := undef) (a' := ?_) #[true, true, true, true, true, true, true, true, true, true, true, true, true, true, true, false, false, false, false, false, false, false] rfl rfl (any_of HT_.out (by kernel_rfl)) (fun _ _ _ h => h) (Or.inr ⟨by rfl, rfl⟩) ?_ ?_
                rotate_left
                ·simp only [Act.put, List.setIfInBounds_toArray, List.set_cons_zero, List.set_cons_succ, i64_w, i32_w]
                 rfl
                refine pure_ (i := 15) (N := some 39) (v := undef) (a' := ?_) #[true, true, true, true, true, true, true, true, true, true, true, true, true, true, true, true, false, false, false, false, false, false] rfl rfl (any_of HT_.out (by kernel_rfl)) (fun _ _ _ h => h) (Or.inr ⟨by rfl, rfl⟩) ?_ ?_
                rotate_left
                ·simp only [Act.put, List.setIfInBounds_toArray, List.set_cons_zero, List.set_cons_succ, i64_w, i32_w]
                 rfl
                refine pure_ (i := 16) (N := some 40) (v := undef) (a' := ?_) #[true, true, true, true, true, true, true, true, true, true, true, true, true, true, true, true, true, false, false, false, false, false] rfl rfl (any_of HT_.out (by kernel_rfl)) (fun _ _ _ h => h) (Or.inr ⟨by rfl, rfl⟩) ?_ ?_
                rotate_left
                ·simp only [Act.put, List.setIfInBounds_toArray, List.set_cons_zero, List.set_cons_succ, i64_w, i32_w]
                 rfl
                refine pure_ (i := 17) (N := some 41) (v := undef) (a' := ?_) #[true, true, true, true, true, true, true, true, true, true, true, true, true, true, true, true, true, true, false, false, false, false] rfl rfl (any_of HT_.out (by kernel_rfl)) (fun _ _ _ h => h) (Or.inr ⟨by rfl, rfl⟩) ?_ ?_
                rotate_left
                ·simp only [Act.put, List.setIfInBounds_toArray, List.set_cons_zero, List.set_cons_succ, i64_w, i32_w]
                 rfl
                refine pure_ (i := 18) (N := some 42) (v := undef) (a' := ?_) #[true, true, true, true, true, true, true, true, true, true, true, true, true, true, true, true, true, true, true, false, false, false] rfl rfl (any_of HT_.out (by kernel_rfl)) (fun _ _ _ h => h) (Or.inr ⟨by rfl, rfl⟩) ?_ ?_
                rotate_left
                ·simp only [Act.put, List.setIfInBounds_toArray, List.set_cons_zero, List.set_cons_succ, i64_w, i32_w]
                 rfl
                refine pure_ (i := 19) (N := some 43) (v := undef) (a' := ?_) #[true, true, true, true, true, true, true, true, true, true, true, true, true, true, true, true, true, true, true, true, false, false] rfl rfl (any_of HT_.out (by kernel_rfl)) (fun _ _ _ h => h) (Or.inr ⟨by rfl, rfl⟩) ?_ ?_
                rotate_left
                ·simp only [Act.put, List.setIfInBounds_toArray, List.set_cons_zero, List.set_cons_succ, i64_w, i32_w]
                 rfl
                refine pure_ (i := 20) (N := some 44) (v := undef) (a' := ?_) #[true, true, true, true, true, true, true, true, true, true, true, true, true, true, true, true, true, true, true, true, true, false] rfl rfl (any_of HT_.out (by kernel_rfl)) (fun _ _ _ h => h) (Or.inr ⟨by rfl, rfl⟩) ?_ ?_
                rotate_left
                ·simp only [Act.put, List.setIfInBounds_toArray, List.set_cons_zero, List.set_cons_succ, i64_w, i32_w]
                 rfl
                refine pure_ (i := 21) (N := some 45) (v := ?_) (a' := ?_) #[true, true, true, true, true, true, true, true, true, true, true, true, true, true, true, true, true, true, true, true, true, true] rfl rfl (any_of HT_.out (by kernel_rfl)) (fun _ _ _ h => h) (Or.inl ⟨by rfl, ?_⟩) ?_ ?_
                rotate_left
                ·intro w'
                 go_simp
                 with_reducible rfl
                rotate_left
                ·simp only [Act.put, List.setIfInBounds_toArray, List.set_cons_zero, List.set_cons_succ, i64_w, i32_w]
                 rfl
                refine done_ (done_of HT_.out (by kernel_rfl)) ?_
                try go_wp2
                go_ret
                exact ⟨by first | rfl | (simp [errW_none, errW_some] <;> rfl) | (simp [*, errW_none, errW_some] <;> rfl), by repeat (first | (with_reducible first | exact HB.out | apply ba_ | apply bn_ | apply bd_) | exact HB.out)⟩
               ·rw [if_neg c14] at H
                have c14b0 : decide (((rd_T31 l0 x10_1).f0) ≤ ((rd_T31 l0 x4_2).f0)) = false := decide_eq_false c14
                clear c14
                replace H := Option.bind_eq_some_iff.mp H
                obtain ⟨t186, A160, H⟩ := H
                replace H : (if t186 = true then (some false) else (gatehouseref05_Right.l1 k2 l0 x10_1 (wrap64 (x4_2 + 1)) (l0.length : Int) x10_1)) = some r := H
                have A16 := am_ A160
                clear A160
                by_cases c17 : t186 = true
                ·subst c17
                 have H1 : (some false) = some r := by rw [if_pos rfl] at H; exact H
                 clear H
                 have H := H1
                 clear H1
                 obtain rfl := Option.some.inj H
                 try go_wp2
                 have n0_ := am_ (bd_ HB.out)
                 clear HB
                 have HB := n0_
                 clear n0_
                 have p182 : 0 ≤ (x4_2 : Int) := of_decide_eq_true (by first | (with_reducible assumption) | assumption)
                 have q182 : x4_2 < (l0.length : Int) := of_decide_eq_true (by first | (with_reducible assumption) | assumption)
                 obtain ⟨ad182, e182, hx182_0, hx182_1, hx182_2, hx182_3, hx182_4, hx182_5, hx182_6⟩ := at_T31 HR0.out x4_2 p182 q182
                 have hw182_6 := hx182_6
                 have hw182_5 := hx182_5
                 have hw182_4 := hx182_4
                 have hw182_3 := hx182_3
                 have hw182_2 := hx182_2
                 have hw182_1 := hx182_1
                 have hw182_0 := hx182_0
                 obtain rfl : ad180 = ad182 := (by injection e182)
                 replace hx182_0 := (HB.out.cell (World.block_lt_of_cell? w _ hx182_0)).trans hx182_0
                 replace hx182_1 := (HB.out.cell (World.block_lt_of_cell? w _ hx182_1)).trans hx182_1
                 replace hx182_2 := (HB.out.cell (World.block_lt_of_cell? w _ hx182_2)).trans hx182_2
                 replace hx182_3 := (HB.out.cell (World.block_lt_of_cell? w _ hx182_3)).trans hx182_3
                 replace hx182_4 := (HB.out.cell (World.block_lt_of_cell? w _ hx182_4)).trans hx182_4
                 replace hx182_5 := (HB.out.cell (World.block_lt_of_cell? w _ hx182_5)).trans hx182_5
                 replace hx182_6 := (HB.out.cell (World.block_lt_of_cell? w _ hx182_6)).trans hx182_6
                 replace p182 := eq_true p182
                 replace q182 := eq_true q182
                 have p183 : 0 ≤ (x10_1 : Int) := of_decide_eq_true (by first | (with_reducible assumption) | assumption)
                 have q183 : x10_1 < (l0.length : Int) := of_decide_eq_true (by first | (with_reducible assumption) | assumption)
                 obtain ⟨ad183, e183, hx183_0, hx183_1, hx183_2, hx183_3, hx183_4, hx183_5, hx183_6⟩ := at_T31 HR0.out x10_1 p183 q183
                 have hw183_6 := hx183_6
                 have hw183_5 := hx183_5
                 have hw183_4 := hx183_4
                 have hw183_3 := hx183_3
                 have hw183_2 := hx183_2
                 have hw183_1 := hx183_1
                 have hw183_0 := hx183_0
                 obtain rfl : ad180 = ad183 := (by injection e183)
                 replace hx183_0 := (HB.out.cell (World.block_lt_of_cell? w _ hx183_0)).trans hx183_0
                 replace hx183_1 := (HB.out.cell (World.block_lt_of_cell? w _ hx183_1)).trans hx183_1
                 replace hx183_2 := (HB.out.cell (World.block_lt_of_cell? w _ hx183_2)).trans hx183_2
                 replace hx183_3 := (HB.out.cell (World.block_lt_of_cell? w _ hx183_3)).trans hx183_3
                 replace hx183_4 := (HB.out.cell (World.block_lt_of_cell? w _ hx183_4)).trans hx183_4
                 replace hx183_5 := (HB.out.cell (World.block_lt_of_cell? w _ hx183_5)).trans hx183_5
                 replace hx183_6 := (HB.out.cell (World.block_lt_of_cell? w _ hx183_6)).trans hx183_6
                 replace p183 := eq_true p183
                 replace q183 := eq_true q183
                 have p184 : 0 ≤ (x4_2 : Int) := of_decide_eq_true (by first | (with_reducible assumption) | assumption)
                 have q184 : x4_2 < (l0.length : Int) := of_decide_eq_true (by first | (with_reducible assumption) | assumption)
                 obtain ⟨ad184, e184, hx184_0, hx184_1, hx184_2, hx184_3, hx184_4, hx184_5, hx184_6⟩ := at_T31 HR0.out x4_2 p184 q184
                 have hw184_6 := hx184_6
                 have hw184_5 := hx184_5
                 have hw184_4 := hx184_4
                 have hw184_3 := hx184_3
                 have hw184_2 := hx184_2
                 have hw184_1 := hx184_1
                 have hw184_0 := hx184_0
                 obtain rfl : ad180 = ad184 := (by injection e184)
                 replace hx184_0 := (HB.out.cell (World.block_lt_of_cell? w _ hx184_0)).trans hx184_0
                 replace hx184_1 := (HB.out.cell (World.block_lt_of_cell? w _ hx184_1)).trans hx184_1
                 replace hx184_2 := (HB.out.cell (World.block_lt_of_cell? w _ hx184_2)).trans hx184_2
                 replace hx184_3 := (HB.out.cell (World.block_lt_of_cell? w _ hx184_3)).trans hx184_3
                 replace hx184_4 := (HB.out.cell (World.block_lt_of_cell? w _ hx184_4)).trans hx184_4
                 replace hx184_5 := (HB.out.cell (World.block_lt_of_cell? w _ hx184_5)).trans hx184_5
                 replace hx184_6 := (HB.out.cell (World.block_lt_of_cell? w _ hx184_6)).trans hx184_6
                 replace p184 := eq_true p184
                 replace q184 := eq_true q184
                 have p185 : 0 ≤ (x10_1 : Int) := of_decide_eq_true (by first | (with_reducible assumption) | assumption)
                 have q185 : x10_1 < (l0.length : Int) := of_decide_eq_true (by first | (with_reducible assumption) | assumption)
                 obtain ⟨ad185, e185, hx185_0, hx185_1, hx185_2, hx185_3, hx185_4, hx185_5, hx185_6⟩ := at_T31 HR0.out x10_1 p185 q185
                 have hw185_6 := hx185_6
                 have hw185_5 := hx185_5
                 have hw185_4 := hx185_4
                 have hw185_3 := hx185_3
                 have hw185_2 := hx185_2
                 have hw185_1 := hx185_1
                 have hw185_0 := hx185_0
                 obtain rfl : ad180 = ad185 := (by injection e185)
                 replace hx185_0 := (HB.out.cell (World.block_lt_of_cell? w _ hx185_0)).trans hx185_0
                 replace hx185_1 := (HB.out.cell (World.block_lt_of_cell? w _ hx185_1)).trans hx185_1
                 replace hx185_2 := (HB.out.cell (World.block_lt_of_cell? w _ hx185_2)).trans hx185_2
                 replace hx185_3 := (HB.out.cell (World.block_lt_of_cell? w _ hx185_3)).trans hx185_3
                 replace hx185_4 := (HB.out.cell (World.block_lt_of_cell? w _ hx185_4)).trans hx185_4
                 replace hx185_5 := (HB.out.cell (World.block_lt_of_cell? w _ hx185_5)).trans hx185_5
                 replace hx185_6 := (HB.out.cell (World.block_lt_of_cell? w _ hx185_6)).trans hx185_6
                 replace p185 := eq_true p185
                 replace q185 := eq_true q185
                 refine start_ (n := 22) (S := fun w' => w'.cell? (ad180.add ((x4_2).toNat * 7)) = some (.int .i64 ((rd_T31 l0 x4_2).f0)) ∧ w'.cell? ⟨(ad180.add ((x4_2).toNat * 7)).block, (ad180.add ((x4_2).toNat * 7)).off + 1, none⟩ = some (.int .i64 ((rd_T31 l0 x4_2).f1)) ∧ w'.cell? ⟨(ad180.add ((x4_2).toNat * 7)).block, (ad180.add ((x4_2).toNat * 7)).off + 2, none⟩ = some (.int .i64 ((rd_T31 l0 x4_2).f2)) ∧ w'.cell? ⟨(ad180.add ((x4_2).toNat * 7)).block, (ad180.add ((x4_2).toNat * 7)).off + 3, none⟩ = some (.int .i64 ((rd_T31 l0 x4_2).f3)) ∧ w'.cell? ⟨(ad180.add ((x4_2).toNat * 7)).block, (ad180.add ((x4_2).toNat * 7)).off + 4, none⟩ = some (.int .i64 ((rd_T31 l0 x4_2).f4)) ∧ w'.cell? ⟨(ad180.add ((x4_2).toNat * 7)).block, (ad180.add ((x4_2).toNat * 7)).off + 5, none⟩ = some (.bool ((rd_T31 l0 x4_2).f5)) ∧ w'.cell? ⟨(ad180.add ((x4_2).toNat * 7)).block, (ad180.add ((x4_2).toNat * 7)).off + 6, none⟩ = some (.bool ((rd_T31 l0 x4_2).f6)) ∧ w'.cell? (ad180.add ((x10_1).toNat * 7)) = some (.int .i64 ((rd_T31 l0 x10_1).f0)) ∧ w'.cell? ⟨(ad180.add ((x10_1).toNat * 7)).block, (ad180.add ((x10_1).toNat * 7)).off + 1, none⟩ = some (.int .i64 ((rd_T31 l0 x10_1).f1)) ∧ w'.cell? ⟨(ad180.add ((x10_1).toNat * 7)).block, (ad180.add ((x10_1).toNat * 7)).off + 2, none⟩ = some (.int .i64 ((rd_T31 l0 x10_1).f2)) ∧ w'.cell? ⟨(ad180.add ((x10_1).toNat * 7)).block, (ad180.add ((x10_1).toNat * 7)).off + 3, none⟩ = some (.int .i64 ((rd_T31 l0 x10_1).f3)) ∧ w'.cell? ⟨(ad180.add ((x10_1).toNat * 7)).block, (ad180.add ((x10_1).toNat * 7)).off + 4, none⟩ = some (.int .i64 ((rd_T31 l0 x10_1).f4)) ∧ w'.cell? ⟨(ad180.add ((x10_1).toNat * 7)).block, (ad180.add ((x10_1).toNat * 7)).off + 5, none⟩ = some (.bool ((rd_T31 l0 x10_1).f5)) ∧ w'.cell? ⟨(ad180.add ((x10_1).toNat * 7)).block, (ad180.add ((x10_1).toNat * 7)).off + 6, none⟩ = some (.bool ((rd_T31 l0 x10_1).f6)) ∧ w'.cell? (ad180.add ((x4_2).toNat * 7)) = some (.int .i64 ((rd_T31 l0 x4_2).f0)) ∧ w'.cell? ⟨(ad180.add ((x4_2).toNat * 7)).block, (ad180.add ((x4_2).toNat * 7)).off + 1, none⟩ = some (.int .i64 ((rd_T31 l0 x4_2).f1)) ∧ w'.cell? ⟨(ad180.add ((x4_2).toNat * 7)).block, (ad180.add ((x4_2).toNat * 7)).off + 2, none⟩ = some (.int .i64 ((rd_T31 l0 x4_2).f2)) ∧ w'.cell? ⟨(ad180.add ((x4_2).toNat * 7)).block, (ad180.add ((x4_2).toNat * 7)).off + 3, none⟩ = some (.int .i64 ((rd_T31 l0 x4_2).f3)) ∧ w'.cell? ⟨(ad180.add ((x4_2).toNat * 7)).block, (ad180.add ((x4_2).toNat * 7)).off + 4, none⟩ = some (.int .i64 ((rd_T31 l0 x4_2).f4)) ∧ w'.cell? ⟨(ad180.add ((x4_2).toNat * 7)).block, (ad180.add ((x4_2).toNat * 7)).off + 5, none⟩ = some (.bool ((rd_T31 l0 x4_2).f5)) ∧ w'.cell? ⟨(ad180.add ((x4_2).toNat * 7)).block, (ad180.add ((x4_2).toNat * 7)).off + 6, none⟩ = some (.bool ((rd_T31 l0 x4_2).f6)) ∧ w'.cell? (ad180.add ((x10_1).toNat * 7)) = some (.int .i64 ((rd_T31 l0 x10_1).f0)) ∧ w'.cell? ⟨(ad180.add ((x10_1).toNat * 7)).block, (ad180.add ((x10_1).toNat * 7)).off + 1, none⟩ = some (.int .i64 ((rd_T31 l0 x10_1).f1)) ∧ w'.cell? ⟨(ad180.add ((x10_1).toNat * 7)).block, (ad180.add ((x10_1).toNat * 7)).off + 2, none⟩ = some (.int .i64 ((rd_T31 l0 x10_1).f2)) ∧ w'.cell? ⟨(ad180.add ((x10_1).toNat * 7)).block, (ad180.add ((x10_1).toNat * 7)).off + 3, none⟩ = some (.int .i64 ((rd_T31 l0 x10_1).f3)) ∧ w'.cell? ⟨(ad180.add ((x10_1).toNat * 7)).block, (ad180.add ((x10_1).toNat * 7)).off + 4, none⟩ = some (.int .i64 ((rd_T31 l0 x10_1).f4)) ∧ w'.cell? ⟨(ad180.add ((x10_1).toNat * 7)).block, (ad180.add ((x10_1).toNat * 7)).off + 5, none⟩ = some (.bool ((rd_T31 l0 x10_1).f5)) ∧ w'.cell? ⟨(ad180.add ((x10_1).toNat * 7)).block, (ad180.add ((x10_1).toNat * 7)).off + 6, none⟩ = some (.bool ((rd_T31 l0 x10_1).f6))) (ds := []) #[false, false, false, false, false, false, false, false, false, false, false, false, false, false, false, false, false, false, false, false, false, false] (by kernel_rfl) rfl rfl ⟨((HB.out.cell (World.block_lt_of_cell? w _ hw182_0)).trans hw182_0), ((HB.out.cell (World.block_lt_of_cell? w _ hw182_1)).trans hw182_1), ((HB.out.cell (World.block_lt_of_cell? w _ hw182_2)).trans hw182_2), ((HB.out.cell (World.block_lt_of_cell? w _ hw182_3)).trans hw182_3), ((HB.out.cell (World.block_lt_of_cell? w _ hw182_4)).trans hw182_4), ((HB.out.cell (World.block_lt_of_cell? w _ hw182_5)).trans hw182_5), ((HB.out.cell (World.block_lt_of_cell? w _ hw182_6)).trans hw182_6), ((HB.out.cell (World.block_lt_of_cell? w _ hw183_0)).trans hw183_0), ((HB.out.cell (World.block_lt_of_cell? w _ hw183_1)).trans hw183_1), ((HB.out.cell (World.block_lt_of_cell? w _ hw183_2)).trans hw183_2), ((HB.out.cell (World.block_lt_of_cell? w _ hw183_3)).trans hw183_3), ((HB.out.cell (World.block_lt_of_cell? w _ hw183_4)).trans hw183_4), ((HB.out.cell (World.block_lt_of_cell? w _ hw183_5)).trans hw183_5), ((HB.out.cell (World.block_lt_of_cell? w _ hw183_6)).trans hw183_6), ((HB.out.cell (World.block_lt_of_cell? w _ hw184_0)).trans hw184_0), ((HB.out.cell (World.block_lt_of_cell? w _ hw184_1)).trans hw184_1), ((HB.out.cell (World.block_lt_of_cell? w _ hw184_2)).trans hw184_2), ((HB.out.cell (World.block_lt_of_cell? w _ hw184_3)).trans hw184_3), ((HB.out.cell (World.block_lt_of_cell? w _ hw184_4)).trans hw184_4), ((HB.out.cell (World.block_lt_of_cell? w _ hw184_5)).trans hw184_5), ((HB.out.cell (World.block_lt_of_cell? w _ hw184_6)).trans hw184_6), ((HB.out.cell (World.block_lt_of_cell? w _ hw185_0)).trans hw185_0), ((HB.out.cell (World.block_lt_of_cell? w _ hw185_1)).trans hw185_1), ((HB.out.cell (World.block_lt_of_cell? w _ hw185_2)).trans hw185_2), ((HB.out.cell (World.block_lt_of_cell? w _ hw185_3)).trans hw185_3), ((HB.out.cell (World.block_lt_of_cell? w _ hw185_4)).trans hw185_4), ((HB.out.cell (World.block_lt_of_cell? w _ hw185_5)).trans hw185_5), ((HB.out.cell (World.block_lt_of_cell? w _ hw185_6)).trans hw185_6)⟩ (fun hHeld => ?_); refine with_tabW gatehouseref05_Right.tab11 gatehouseref05_Right.bits11 (fun HT_ HW_ => ?_)
                 generalize wr.drew = w18 at HB hx182_0 hx182_1 hx182_2 hx182_3 hx182_4 hx182_5 hx182_6 hx183_0 hx183_1 hx183_2 hx183_3 hx183_4 hx183_5 hx183_6 hx184_0 hx184_1 hx184_2 hx184_3 hx184_4 hx184_5 hx184_6 hx185_0 hx185_1 hx185_2 hx185_3 hx185_4 hx185_5 hx185_6 hHeld ⊢
                 refine pure_ (i := 0) (N := some 24) (v := ?_) (a' := ?_) #[true, false, false, false, false, false, false, false, false, false, false, false, false, false, false, false, false, false, false, false, false, false] rfl rfl (any_of HT_.out (by kernel_rfl)) (fun _ _ _ h => h) (Or.inl ⟨by rfl, ?_⟩) ?_ ?_
                 rotate_left
                 ·intro w'
                  go_simp
                  with_reducible rfl
                 rotate_left
                 ·simp only [Act.put, List.setIfInBounds_toArray, List.set_cons_zero, List.set_cons_succ, i64_w, i32_w]
                  rfl
                 refine pure_ (i := 1) (N := some 25) (v := ?_) (a' := ?_) #[true, true, false, false, false, false, false, false, false, false, false, false, false, false, false, false, false, false, false, false, false, false] rfl rfl (any_of HT_.out (by kernel_rfl)) (fun _ _ _ h => h) (Or.inl ⟨by rfl, ?_⟩) ?_ ?_
                 rotate_left
                 ·intro w'
                  go_simp
                  with_reducible rfl
                 rotate_left
                 ·simp only [Act.put, List.setIfInBounds_toArray, List.set_cons_zero, List.set_cons_succ, i64_w, i32_w]
                  rfl
                 refine pure_ (i := 2) (N := some 26) (v := ?_) (a' := ?_) #[true, true, true, false, false, false, false, false, false, false, false, false, false, false, false, false, false, false, false, false, false, false] rfl rfl (any_of HT_.out (by kernel_rfl)) (fun _ _ _ h => h) (Or.inl ⟨by rfl, ?_⟩) ?_ ?_
                 rotate_left
                 ·intro w'
                  go_simp
                  with_reducible rfl
                 rotate_left
                 ·simp only [Act.put, List.setIfInBounds_toArray, List.set_cons_zero, List.set_cons_succ, i64_w, i32_w]
                  rfl
                 refine pure_ (i := 3) (N := some 27) (v := ?_) (a' := ?_) #[true, true, true, true, false, false, false, false, false, false, false, false, false, false, false, false, false, false, false, false, false, false] rfl rfl (any_of HT_.out (by kernel_rfl)) (fun _ _ _ h => h) (Or.inl ⟨by rfl, ?_⟩) ?_ ?_
                 rotate_left
                 ·intro w'
                  go_simp
                  with_reducible rfl
                 rotate_left
                 ·simp only [Act.put, List.setIfInBounds_toArray, List.set_cons_zero, List.set_cons_succ, i64_w, i32_w]
                  rfl
                 refine pure_ (i := 5) (N := some 29) (v := ?_) (a' := ?_) #[true, true, true, true, false, true, false, false, false, false, false, false, false, false, false, false, false, false, false, false, false, false] rfl rfl (any_of HT_.out (by kernel_rfl)) (fun _ _ _ h => h) (Or.inl ⟨by rfl, ?_⟩) ?_ ?_
                 rotate_left
                 ·intro w'
                  go_simp
                  with_reducible rfl
                 rotate_left
                 ·simp only [Act.put, List.setIfInBounds_toArray, List.set_cons_zero, List.set_cons_succ, i64_w, i32_w]
                  rfl
                 refine pure_ (i := 6) (N := some 30) (v := ?_) (a' := ?_) #[true, true, true, true, false, true, true, false, false, false, false, false, false, false, false, false, false, false, false, false, false, false] rfl rfl (any_of HT_.out (by kernel_rfl)) (fun _ _ _ h => h) (Or.inl ⟨by rfl, ?_⟩) ?_ ?_
                 rotate_left
                 ·intro w'
                  go_simp
                  with_reducible rfl
                 rotate_left
                 ·simp only [Act.put, List.setIfInBounds_toArray, List.set_cons_zero, List.set_cons_succ, i64_w, i32_w]
                  rfl
                 refine pure_ (i := 7) (N := some 31) (v := ?_) (a' := ?_) #[true, true, true, true, false, true, true, true, false, false, false, false, false, false, false, false, false, false, false, false, false, false] rfl rfl (any_of HT_.out (by kernel_rfl)) (fun _ _ _ h => h) (Or.inl ⟨by rfl, ?_⟩) ?_ ?_
                 rotate_left
                 ·intro w'
                  go_simp
                  with_reducible rfl
                 rotate_left
                 ·simp only [Act.put, List.setIfInBounds_toArray, List.set_cons_zero, List.set_cons_succ, i64_w, i32_w]
                  rfl
                 refine pure_ (i := 8) (N := some 32) (v := ?_) (a' := ?_) #[true, true, true, true, false, true, true, true, true, false, false, false, false, false, false, false, false, false, false, false, false, false] rfl rfl (any_of HT_.out (by kernel_rfl)) (fun _ _ _ h => h) (Or.inl ⟨by rfl, ?_⟩) ?_ ?_
                 rotate_left
                 ·intro w'
                  go_simp
                  with_reducible rfl
                 rotate_left
                 ·simp only [Act.put, List.setIfInBounds_toArray, List.set_cons_zero, List.set_cons_succ, i64_w, i32_w]
                  rfl
                 refine take_ (i := 4) (N := some 28) (v := ?_) (a' := ?_) #[true, true, true, true, true, true, true, true, true, false, false, false, false, false, false, false, false, false, false, false, false, false] rfl rfl (take_ofW HT_.out HW_.out (by kernel_rfl)) (fun _ _ _ h => h) (Or.inl ⟨by rfl, ?_⟩) hHeld ?_ ?_
                 rotate_left
                 ·rintro w' ⟨s0, s1, s2, s3, s4, s5, s6, s7, s8, s9, s10, s11, s12, s13, s14, s15, s16, s17, s18, s19, s20, s21, s22, s23, s24, s25, s26, s27⟩
                  go_simp
                  with_reducible rfl
                 rotate_left
                 ·simp only [Act.put, List.setIfInBounds_toArray, List.set_cons_zero, List.set_cons_succ, i64_w, i32_w]
                  rfl
                 refine take_ (i := 9) (N := some 33) (v := ?_) (a' := ?_) #[true, true, true, true, true, true, true, true, true, true, false, false, false, false, false, false, false, false, false, false, false, false] rfl rfl (take_ofW HT_.out HW_.out (by kernel_rfl)) (fun _ _ _ h => h) (Or.inl ⟨by rfl, ?_⟩) hHeld ?_ ?_
                 rotate_left
                 ·rintro w' ⟨s0, s1, s2, s3, s4, s5, s6, s7, s8, s9, s10, s11, s12, s13, s14, s15, s16, s17, s18, s19, s20, s21, s22, s23, s24, s25, s26, s27⟩
                  go_simp
                  with_reducible rfl
                 rotate_left
                 ·simp only [Act.put, List.setIfInBounds_toArray, List.set_cons_zero, List.set_cons_succ, i64_w, i32_w]
                  rfl
                 refine pure_ (i := 10) (N := some 34) (v := ?_) (a' := ?_) #[true, true, true, true, true, true, true, true, true, true, true, false, false, false, false, false, false, false, false, false, false, false] rfl rfl (any_of HT_.out (by kernel_rfl)) (fun _ _ _ h => h) (Or.inl ⟨by rfl, ?_⟩) ?_ ?_
                 rotate_left
                 ·intro w'
                  go_simp
                  with_reducible rfl
                 rotate_left
                 ·simp only [Act.put, List.setIfInBounds_toArray, List.set_cons_zero, List.set_cons_succ, i64_w, i32_w]
                  rfl
                 refine pure_ (i := 11) (N := some 35) (v := ?_) (a' := ?_) #[true, true, true, true, true, true, true, true, true, true, true, true, false, false, false, false, false, false, false, false, false, false] rfl rfl (any_of HT_.out (by kernel_rfl)) (fun _ _ _ h => h) (Or.inl ⟨by rfl, ?_⟩) ?_ ?_
                 rotate_left
                 ·intro w'
                  go_simp
                  with_reducible rfl
                 rotate_left
                 ·simp only [Act.put, List.setIfInBounds_toArray, List.set_cons_zero, List.set_cons_succ, i64_w, i32_w]
                  rfl
                 refine pure_ (i := 12) (N := some 36) (v := ?_) (a' := ?_) #[true, true, true, true, true, true, true, true, true, true, true, true, true, false, false, false, false, false, false, false, false, false] rfl rfl (any_of HT_.out (by kernel_rfl)) (fun _ _ _ h => h) (Or.inl ⟨by rfl, ?_⟩) ?_ ?_
                 rotate_left
                 ·intro w'
                  go_simp
                  with_reducible rfl
                 rotate_left
                 ·simp only [Act.put, List.setIfInBounds_toArray, List.set_cons_zero, List.set_cons_succ, i64_w, i32_w]
                  rfl
                 refine pure_ (i := 13) (N := some 37) (v := ?_) (a' := ?_) #[true, true, true, true, true, true, true, true, true, true, true, true, true, true, false, false, false, false, false, false, false, false] rfl rfl (any_of HT_.out (by kernel_rfl)) (fun _ _ _ h => h) (Or.inl ⟨by rfl, ?_⟩) ?_ ?_
                 rotate_left
                 ·intro w'
                  go_simp
                  with_reducible rfl
                 rotate_left
                 ·simp only [Act.put, List.setIfInBounds_toArray, List.set_cons_zero, List.set_cons_succ, i64_w, i32_w]
                  rfl
                 refine pure_ (i := 14) (N := some 38) (v := ?_) (a' := ?_) #[true, true, true, true, true, true, true, true, true, true, true, true, true, true, true, false, false, false, false, false, false, false] rfl rfl (any_of HT_.out (by kernel_rfl)) (fun _ _ _ h => h) (Or.inl ⟨by rfl, ?_⟩) ?_ ?_
                 rotate_left
                 ·intro w'
                  go_simp
                  with_reducible rfl
                 rotate_left
                 ·simp only [Act.put, List.setIfInBounds_toArray, List.set_cons_zero, List.set_cons_succ, i64_w, i32_w]
                  rfl
                 refine pure_ (i := 16) (N := some 40) (v := ?_) (a' := ?_) #[true, true, true, true, true, true, true, true, true, true, true, true, true, true, true, false, true, false, false, false, false, false] rfl rfl (any_of HT_.out (by kernel_rfl)) (fun _ _ _ h => h) (Or.inl ⟨by rfl, ?_⟩) ?_ ?_
                 rotate_left
                 ·intro w'
                  go_simp
                  with_reducible rfl
                 rotate_left
                 ·simp only [Act.put, List.setIfInBounds_toArray, List.set_cons_zero, List.set_cons_succ, i64_w, i32_w]
                  rfl
                 refine pure_ (i := 17) (N := some 41) (v := ?_) (a' := ?_) #[true, true, true, true, true, true, true, true, true, true, true, true, true, true, true, false, true, true, false, false, false, false] rfl rfl (any_of HT_.out (by kernel_rfl)) (fun _ _ _ h => h) (Or.inl ⟨by rfl, ?_⟩) ?_ ?_
                 rotate_left
                 ·intro w'
                  go_simp
                  with_reducible rfl
                 rotate_left
                 ·simp only [Act.put, List.setIfInBounds_toArray, List.set_cons_zero, List.set_cons_succ, i64_w, i32_w]
                  rfl
                 refine pure_ (i := 18) (N := some 42) (v := ?_) (a' := ?_) #[true, true, true, true, true, true, true, true, true, true, true, true, true, true, true, false, true, true, true, false, false, false] rfl rfl (any_of HT_.out (by kernel_rfl)) (fun _ _ _ h => h) (Or.inl ⟨by rfl, ?_⟩) ?_ ?_
                 rotate_left
                 ·intro w'
                  go_simp
                  with_reducible rfl
                 rotate_left
                 ·simp only [Act.put, List.setIfInBounds_toArray, List.set_cons_zero, List.set_cons_succ, i64_w, i32_w]
                  rfl
                 refine take_ (i := 15) (N := some 39) (v := ?_) (a' := ?_) #[true, true, true, true, true, true, true, true, true, true, true, true, true, true, true, true, true, true, true, false, false, false] rfl rfl (take_ofW HT_.out HW_.out (by kernel_rfl)) (fun _ _ _ h => h) (Or.inl ⟨by rfl, ?_⟩) hHeld ?_ ?_
                 rotate_left
                 ·rintro w' ⟨s0, s1, s2, s3, s4, s5, s6, s7, s8, s9, s10, s11, s12, s13, s14, s15, s16, s17, s18, s19, s20, s21, s22, s23, s24, s25, s26, s27⟩
                  go_simp
                  with_reducible rfl
                 rotate_left
                 ·simp only [Act.put, List.setIfInBounds_toArray, List.set_cons_zero, List.set_cons_succ, i64_w, i32_w]
                  rfl
                 refine take_ (i := 19) (N := some 43) (v := ?_) (a' := ?_) #[true, true, true, true, true, true, true, true, true, true, true, true, true, true, true, true, true, true, true, true, false, false] rfl rfl (take_ofW HT_.out HW_.out (by kernel_rfl)) (fun _ _ _ h => h) (Or.inl ⟨by rfl, ?_⟩) hHeld ?_ ?_
                 rotate_left
                 ·rintro w' ⟨s0, s1, s2, s3, s4, s5, s6, s7, s8, s9, s10, s11, s12, s13, s14, s15, s16, s17, s18, s19, s20, s21, s22, s23, s24, s25, s26, s27⟩
                  go_simp
                  with_reducible rfl
                 rotate_left
                 ·simp only [Act.put, List.setIfInBounds_toArray, List.set_cons_zero, List.set_cons_succ, i64_w, i32_w]
                  rfl
                 refine one_ (i := 20) (N := some 44) #[true, true, true, true, true, true, true, true, true, true, true, true, true, true, true, true, true, true, true, true, true, false] rfl rfl (one_of HT_.out (by kernel_rfl)) (by decide) (fun K hK => ?_)
                 refine goes_ Try.func28 (by kernel_rfl) rfl #[.agg #[.int .i64 ((rd_T31 l0 x4_2).f0), .int .i64 ((rd_T31 l0 x4_2).f1), .int .i64 ((rd_T31 l0 x4_2).f2), .int .i64 ((rd_T31 l0 x4_2).f3), .int .i64 ((rd_T31 l0 x4_2).f4), .bool ((rd_T31 l0 x4_2).f5), .bool ((rd_T31 l0 x4_2).f6)], .agg #[.int .i64 ((rd_T31 l0 x10_1).f0), .int .i64 ((rd_T31 l0 x10_1).f1), .int .i64 ((rd_T31 l0 x10_1).f2), .int .i64 ((rd_T31 l0 x10_1).f3), .int .i64 ((rd_T31 l0 x10_1).f4), .bool ((rd_T31 l0 x10_1).f5), .bool ((rd_T31 l0 x10_1).f6)]] (by rfl) rfl rfl (by (try simp only [List.map_toArray, List.map_cons, List.map_nil]); first | done | rfl | (simp only [List.length_drop, List.length_take]; rfl)) ?_
                 with_reducible refine (gatehouseref05_Meet.calls ((rd_T31 l0 x4_2).f0) ((rd_T31 l0 x4_2).f1) ((rd_T31 l0 x4_2).f2) ((rd_T31 l0 x4_2).f3) ((rd_T31 l0 x4_2).f4) ((rd_T31 l0 x4_2).f5) ((rd_T31 l0 x4_2).f6) ((rd_T31 l0 x10_1).f0) ((rd_T31 l0 x10_1).f1) ((rd_T31 l0 x10_1).f2) ((rd_T31 l0 x10_1).f3) ((rd_T31 l0 x10_1).f4) ((rd_T31 l0 x10_1).f5) ((rd_T31 l0 x10_1).f6) true _ A16.out).mono ?_
                 rintro e w19 ⟨rfl, hb⟩
                 refine ⟨_, rfl, ?_⟩
                 have n0_ := am_ (below_step (by repeat (first | (with_reducible first | exact HB.out | apply ba_ | apply bn_ | apply bd_) | exact HB.out)) hb)
                 clear HB
                 have HB := n0_
                 clear n0_
                 (try clear hb)
                 (try clear hb2)
                 (try clear hk)
                 (try clear hi)
                 refine hK.out _ _ ⟨((HB.out.cell (World.block_lt_of_cell? w _ hw182_0)).trans hw182_0), ((HB.out.cell (World.block_lt_of_cell? w _ hw182_1)).trans hw182_1), ((HB.out.cell (World.block_lt_of_cell? w _ hw182_2)).trans hw182_2), ((HB.out.cell (World.block_lt_of_cell? w _ hw182_3)).trans hw182_3), ((HB.out.cell (World.block_lt_of_cell? w _ hw182_4)).trans hw182_4), ((HB.out.cell (World.block_lt_of_cell? w _ hw182_5)).trans hw182_5), ((HB.out.cell (World.block_lt_of_cell? w _ hw182_6)).trans hw182_6), ((HB.out.cell (World.block_lt_of_cell? w _ hw183_0)).trans hw183_0), ((HB.out.cell (World.block_lt_of_cell? w _ hw183_1)).trans hw183_1), ((HB.out.cell (World.block_lt_of_cell? w _ hw183_2)).trans hw183_2), ((HB.out.cell (World.block_lt_of_cell? w _ hw183_3)).trans hw183_3), ((HB.out.cell (World.block_lt_of_cell? w _ hw183_4)).trans hw183_4), ((HB.out.cell (World.block_lt_of_cell? w _ hw183_5)).trans hw183_5), ((HB.out.cell (World.block_lt_of_cell? w _ hw183_6)).trans hw183_6), ((HB.out.cell (World.block_lt_of_cell? w _ hw184_0)).trans hw184_0), ((HB.out.cell (World.block_lt_of_cell? w _ hw184_1)).trans hw184_1), ((HB.out.cell (World.block_lt_of_cell? w _ hw184_2)).trans hw184_2), ((HB.out.cell (World.block_lt_of_cell? w _ hw184_3)).trans hw184_3), ((HB.out.cell (World.block_lt_of_cell? w _ hw184_4)).trans hw184_4), ((HB.out.cell (World.block_lt_of_cell? w _ hw184_5)).trans hw184_5), ((HB.out.cell (World.block_lt_of_cell? w _ hw184_6)).trans hw184_6), ((HB.out.cell (World.block_lt_of_cell? w _ hw185_0)).trans hw185_0), ((HB.out.cell (World.block_lt_of_cell? w _ hw185_1)).trans hw185_1), ((HB.out.cell (World.block_lt_of_cell? w _ hw185_2)).trans hw185_2), ((HB.out.cell (World.block_lt_of_cell? w _ hw185_3)).trans hw185_3), ((HB.out.cell (World.block_lt_of_cell? w _ hw185_4)).trans hw185_4), ((HB.out.cell (World.block_lt_of_cell? w _ hw185_5)).trans hw185_5), ((HB.out.cell (World.block_lt_of_cell? w _ hw185_6)).trans hw185_6)⟩ (fun hHeld => ?_)
                 clear hK K
                 refine norm_ (a' := ?_) ?_ ?_
                 rotate_left
                 ·show Act.put _ (some 44) _ = _
                  simp only [Act.put, List.setIfInBounds_toArray, List.set_cons_zero, List.set_cons_succ, i64_w, i32_w]
                  rfl
                 refine pure_ (i := 21) (N := some 45) (v := ?_) (a' := ?_) #[true, true, true, true, true, true, true, true, true, true, true, true, true, true, true, true, true, true, true, true, true, true] rfl rfl (any_of HT_.out (by kernel_rfl)) (fun _ _ _ h => h) (Or.inl ⟨by rfl, ?_⟩) ?_ ?_
                 rotate_left
                 ·intro w'
                  go_simp
                  with_reducible rfl
                 rotate_left
                 ·simp only [Act.put, List.setIfInBounds_toArray, List.set_cons_zero, List.set_cons_succ, i64_w, i32_w]
                  rfl
                 refine done_ (done_of HT_.out (by kernel_rfl)) ?_
                 try go_wp2
                 go_ret
                 exact ⟨by first | rfl | (simp [errW_none, errW_some] <;> rfl) | (simp [*, errW_none, errW_some] <;> rfl), by repeat (first | (with_reducible first | exact HB.out | apply ba_ | apply bn_ | apply bd_) | exact HB.out)⟩
                ·replace c17 := Bool.eq_false_iff.mpr c17
                 subst c17
                 have H1 : (gatehouseref05_Right.l1 k2 l0 x10_1 (wrap64 (x4_2 + 1)) (l0.length : Int) x10_1) = some r := by rw [if_neg (show ¬ (false = true) by decide)] at H; exact H
                 clear H
                 have H := H1
                 clear H1
                 have H' := am_ H
                 clear H
                 try go_wp2
                 have n0_ := am_ (bd_ HB.out)
                 clear HB
                 have HB := n0_
                 clear n0_
                 have p182 : 0 ≤ (x4_2 : Int) := of_decide_eq_true (by first | (with_reducible assumption) | assumption)
                 have q182 : x4_2 < (l0.length : Int) := of_decide_eq_true (by first | (with_reducible assumption) | assumption)
                 obtain ⟨ad182, e182, hx182_0, hx182_1, hx182_2, hx182_3, hx182_4, hx182_5, hx182_6⟩ := at_T31 HR0.out x4_2 p182 q182
                 have hw182_6 := hx182_6
                 have hw182_5 := hx182_5
                 have hw182_4 := hx182_4
                 have hw182_3 := hx182_3
                 have hw182_2 := hx182_2
                 have hw182_1 := hx182_1
                 have hw182_0 := hx182_0
                 obtain rfl : ad180 = ad182 := (by injection e182)
                 replace hx182_0 := (HB.out.cell (World.block_lt_of_cell? w _ hx182_0)).trans hx182_0
                 replace hx182_1 := (HB.out.cell (World.block_lt_of_cell? w _ hx182_1)).trans hx182_1
                 replace hx182_2 := (HB.out.cell (World.block_lt_of_cell? w _ hx182_2)).trans hx182_2
                 replace hx182_3 := (HB.out.cell (World.block_lt_of_cell? w _ hx182_3)).trans hx182_3
                 replace hx182_4 := (HB.out.cell (World.block_lt_of_cell? w _ hx182_4)).trans hx182_4
                 replace hx182_5 := (HB.out.cell (World.block_lt_of_cell? w _ hx182_5)).trans hx182_5
                 replace hx182_6 := (HB.out.cell (World.block_lt_of_cell? w _ hx182_6)).trans hx182_6
                 replace p182 := eq_true p182
                 replace q182 := eq_true q182
                 have p183 : 0 ≤ (x10_1 : Int) := of_decide_eq_true (by first | (with_reducible assumption) | assumption)
                 have q183 : x10_1 < (l0.length : Int) := of_decide_eq_true (by first | (with_reducible assumption) | assumption)
                 obtain ⟨ad183, e183, hx183_0, hx183_1, hx183_2, hx183_3, hx183_4, hx183_5, hx183_6⟩ := at_T31 HR0.out x10_1 p183 q183
                 have hw183_6 := hx183_6
                 have hw183_5 := hx183_5
                 have hw183_4 := hx183_4
                 have hw183_3 := hx183_3
                 have hw183_2 := hx183_2
                 have hw183_1 := hx183_1
                 have hw183_0 := hx183_0
                 obtain rfl : ad180 = ad183 := (by injection e183)
                 replace hx183_0 := (HB.out.cell (World.block_lt_of_cell? w _ hx183_0)).trans hx183_0
                 replace hx183_1 := (HB.out.cell (World.block_lt_of_cell? w _ hx183_1)).trans hx183_1
                 replace hx183_2 := (HB.out.cell (World.block_lt_of_cell? w _ hx183_2)).trans hx183_2
                 replace hx183_3 := (HB.out.cell (World.block_lt_of_cell? w _ hx183_3)).trans hx183_3
                 replace hx183_4 := (HB.out.cell (World.block_lt_of_cell? w _ hx183_4)).trans hx183_4
                 replace hx183_5 := (HB.out.cell (World.block_lt_of_cell? w _ hx183_5)).trans hx183_5
                 replace hx183_6 := (HB.out.cell (World.block_lt_of_cell? w _ hx183_6)).trans hx183_6
                 replace p183 := eq_true p183
                 replace q183 := eq_true q183
                 have p184 : 0 ≤ (x4_2 : Int) := of_decide_eq_true (by first | (with_reducible assumption) | assumption)
                 have q184 : x4_2 < (l0.length : Int) := of_decide_eq_true (by first | (with_reducible assumption) | assumption)
                 obtain ⟨ad184, e184, hx184_0, hx184_1, hx184_2, hx184_3, hx184_4, hx184_5, hx184_6⟩ := at_T31 HR0.out x4_2 p184 q184
                 have hw184_6 := hx184_6
                 have hw184_5 := hx184_5
                 have hw184_4 := hx184_4
                 have hw184_3 := hx184_3
                 have hw184_2 := hx184_2
                 have hw184_1 := hx184_1
                 have hw184_0 := hx184_0
                 obtain rfl : ad180 = ad184 := (by injection e184)
                 replace hx184_0 := (HB.out.cell (World.block_lt_of_cell? w _ hx184_0)).trans hx184_0
                 replace hx184_1 := (HB.out.cell (World.block_lt_of_cell? w _ hx184_1)).trans hx184_1
                 replace hx184_2 := (HB.out.cell (World.block_lt_of_cell? w _ hx184_2)).trans hx184_2
                 replace hx184_3 := (HB.out.cell (World.block_lt_of_cell? w _ hx184_3)).trans hx184_3
                 replace hx184_4 := (HB.out.cell (World.block_lt_of_cell? w _ hx184_4)).trans hx184_4
                 replace hx184_5 := (HB.out.cell (World.block_lt_of_cell? w _ hx184_5)).trans hx184_5
                 replace hx184_6 := (HB.out.cell (World.block_lt_of_cell? w _ hx184_6)).trans hx184_6
                 replace p184 := eq_true p184
                 replace q184 := eq_true q184
                 have p185 : 0 ≤ (x10_1 : Int) := of_decide_eq_true (by first | (with_reducible assumption) | assumption)
                 have q185 : x10_1 < (l0.length : Int) := of_decide_eq_true (by first | (with_reducible assumption) | assumption)
                 obtain ⟨ad185, e185, hx185_0, hx185_1, hx185_2, hx185_3, hx185_4, hx185_5, hx185_6⟩ := at_T31 HR0.out x10_1 p185 q185
                 have hw185_6 := hx185_6
                 have hw185_5 := hx185_5
                 have hw185_4 := hx185_4
                 have hw185_3 := hx185_3
                 have hw185_2 := hx185_2
                 have hw185_1 := hx185_1
                 have hw185_0 := hx185_0
                 obtain rfl : ad180 = ad185 := (by injection e185)
                 replace hx185_0 := (HB.out.cell (World.block_lt_of_cell? w _ hx185_0)).trans hx185_0
                 replace hx185_1 := (HB.out.cell (World.block_lt_of_cell? w _ hx185_1)).trans hx185_1
                 replace hx185_2 := (HB.out.cell (World.block_lt_of_cell? w _ hx185_2)).trans hx185_2
                 replace hx185_3 := (HB.out.cell (World.block_lt_of_cell? w _ hx185_3)).trans hx185_3
                 replace hx185_4 := (HB.out.cell (World.block_lt_of_cell? w _ hx185_4)).trans hx185_4
                 replace hx185_5 := (HB.out.cell (World.block_lt_of_cell? w _ hx185_5)).trans hx185_5
                 replace hx185_6 := (HB.out.cell (World.block_lt_of_cell? w _ hx185_6)).trans hx185_6
                 replace p185 := eq_true p185
                 replace q185 := eq_true q185
                 refine start_ (n := 22) (S := fun w' => w'.cell? (ad180.add ((x4_2).toNat * 7)) = some (.int .i64 ((rd_T31 l0 x4_2).f0)) ∧ w'.cell? ⟨(ad180.add ((x4_2).toNat * 7)).block, (ad180.add ((x4_2).toNat * 7)).off + 1, none⟩ = some (.int .i64 ((rd_T31 l0 x4_2).f1)) ∧ w'.cell? ⟨(ad180.add ((x4_2).toNat * 7)).block, (ad180.add ((x4_2).toNat * 7)).off + 2, none⟩ = some (.int .i64 ((rd_T31 l0 x4_2).f2)) ∧ w'.cell? ⟨(ad180.add ((x4_2).toNat * 7)).block, (ad180.add ((x4_2).toNat * 7)).off + 3, none⟩ = some (.int .i64 ((rd_T31 l0 x4_2).f3)) ∧ w'.cell? ⟨(ad180.add ((x4_2).toNat * 7)).block, (ad180.add ((x4_2).toNat * 7)).off + 4, none⟩ = some (.int .i64 ((rd_T31 l0 x4_2).f4)) ∧ w'.cell? ⟨(ad180.add ((x4_2).toNat * 7)).block, (ad180.add ((x4_2).toNat * 7)).off + 5, none⟩ = some (.bool ((rd_T31 l0 x4_2).f5)) ∧ w'.cell? ⟨(ad180.add ((x4_2).toNat * 7)).block, (ad180.add ((x4_2).toNat * 7)).off + 6, none⟩ = some (.bool ((rd_T31 l0 x4_2).f6)) ∧ w'.cell? (ad180.add ((x10_1).toNat * 7)) = some (.int .i64 ((rd_T31 l0 x10_1).f0)) ∧ w'.cell? ⟨(ad180.add ((x10_1).toNat * 7)).block, (ad180.add ((x10_1).toNat * 7)).off + 1, none⟩ = some (.int .i64 ((rd_T31 l0 x10_1).f1)) ∧ w'.cell? ⟨(ad180.add ((x10_1).toNat * 7)).block, (ad180.add ((x10_1).toNat * 7)).off + 2, none⟩ = some (.int .i64 ((rd_T31 l0 x10_1).f2)) ∧ w'.cell? ⟨(ad180.add ((x10_1).toNat * 7)).block, (ad180.add ((x10_1).toNat * 7)).off + 3, none⟩ = some (.int .i64 ((rd_T31 l0 x10_1).f3)) ∧ w'.cell? ⟨(ad180.add ((x10_1).toNat * 7)).block, (ad180.add ((x10_1).toNat * 7)).off + 4, none⟩ = some (.int .i64 ((rd_T31 l0 x10_1).f4)) ∧ w'.cell? ⟨(ad180.add ((x10_1).toNat * 7)).block, (ad180.add ((x10_1).toNat * 7)).off + 5, none⟩ = some (.bool ((rd_T31 l0 x10_1).f5)) ∧ w'.cell? ⟨(ad180.add ((x10_1).toNat * 7)).block, (ad180.add ((x10_1).toNat * 7)).off + 6, none⟩ = some (.bool ((rd_T31 l0 x10_1).f6)) ∧ w'.cell? (ad180.add ((x4_2).toNat * 7)) = some (.int .i64 ((rd_T31 l0 x4_2).f0)) ∧ w'.cell? ⟨(ad180.add ((x4_2).toNat * 7)).block, (ad180.add ((x4_2).toNat * 7)).off + 1, none⟩ = some (.int .i64 ((rd_T31 l0 x4_2).f1)) ∧ w'.cell? ⟨(ad180.add ((x4_2).toNat * 7)).block, (ad180.add ((x4_2).toNat * 7)).off + 2, none⟩ = some (.int .i64 ((rd_T31 l0 x4_2).f2)) ∧ w'.cell? ⟨(ad180.add ((x4_2).toNat * 7)).block, (ad180.add ((x4_2).toNat * 7)).off + 3, none⟩ = some (.int .i64 ((rd_T31 l0 x4_2).f3)) ∧ w'.cell? ⟨(ad180.add ((x4_2).toNat * 7)).block, (ad180.add ((x4_2).toNat * 7)).off + 4, none⟩ = some (.int .i64 ((rd_T31 l0 x4_2).f4)) ∧ w'.cell? ⟨(ad180.add ((x4_2).toNat * 7)).block, (ad180.add ((x4_2).toNat * 7)).off + 5, none⟩ = some (.bool ((rd_T31 l0 x4_2).f5)) ∧ w'.cell? ⟨(ad180.add ((x4_2).toNat * 7)).block, (ad180.add ((x4_2).toNat * 7)).off + 6, none⟩ = some (.bool ((rd_T31 l0 x4_2).f6)) ∧ w'.cell? (ad180.add ((x10_1).toNat * 7)) = some (.int .i64 ((rd_T31 l0 x10_1).f0)) ∧ w'.cell? ⟨(ad180.add ((x10_1).toNat * 7)).block, (ad180.add ((x10_1).toNat * 7)).off + 1, none⟩ = some (.int .i64 ((rd_T31 l0 x10_1).f1)) ∧ w'.cell? ⟨(ad180.add ((x10_1).toNat * 7)).block, (ad180.add ((x10_1).toNat * 7)).off + 2, none⟩ = some (.int .i64 ((rd_T31 l0 x10_1).f2)) ∧ w'.cell? ⟨(ad180.add ((x10_1).toNat * 7)).block, (ad180.add ((x10_1).toNat * 7)).off + 3, none⟩ = some (.int .i64 ((rd_T31 l0 x10_1).f3)) ∧ w'.cell? ⟨(ad180.add ((x10_1).toNat * 7)).block, (ad180.add ((x10_1).toNat * 7)).off + 4, none⟩ = some (.int .i64 ((rd_T31 l0 x10_1).f4)) ∧ w'.cell? ⟨(ad180.add ((x10_1).toNat * 7)).block, (ad180.add ((x10_1).toNat * 7)).off + 5, none⟩ = some (.bool ((rd_T31 l0 x10_1).f5)) ∧ w'.cell? ⟨(ad180.add ((x10_1).toNat * 7)).block, (ad180.add ((x10_1).toNat * 7)).off + 6, none⟩ = some (.bool ((rd_T31 l0 x10_1).f6))) (ds := []) #[false, false, false, false, false, false, false, false, false, false, false, false, false, false, false, false, false, false, false, false, false, false] (by kernel_rfl) rfl rfl ⟨((HB.out.cell (World.block_lt_of_cell? w _ hw182_0)).trans hw182_0), ((HB.out.cell (World.block_lt_of_cell? w _ hw182_1)).trans hw182_1), ((HB.out.cell (World.block_lt_of_cell? w _ hw182_2)).trans hw182_2), ((HB.out.cell (World.block_lt_of_cell? w _ hw182_3)).trans hw182_3), ((HB.out.cell (World.block_lt_of_cell? w _ hw182_4)).trans hw182_4), ((HB.out.cell (World.block_lt_of_cell? w _ hw182_5)).trans hw182_5), ((HB.out.cell (World.block_lt_of_cell? w _ hw182_6)).trans hw182_6), ((HB.out.cell (World.block_lt_of_cell? w _ hw183_0)).trans hw183_0), ((HB.out.cell (World.block_lt_of_cell? w _ hw183_1)).trans hw183_1), ((HB.out.cell (World.block_lt_of_cell? w _ hw183_2)).trans hw183_2), ((HB.out.cell (World.block_lt_of_cell? w _ hw183_3)).trans hw183_3), ((HB.out.cell (World.block_lt_of_cell? w _ hw183_4)).trans hw183_4), ((HB.out.cell (World.block_lt_of_cell? w _ hw183_5)).trans hw183_5), ((HB.out.cell (World.block_lt_of_cell? w _ hw183_6)).trans hw183_6), ((HB.out.cell (World.block_lt_of_cell? w _ hw184_0)).trans hw184_0), ((HB.out.cell (World.block_lt_of_cell? w _ hw184_1)).trans hw184_1), ((HB.out.cell (World.block_lt_of_cell? w _ hw184_2)).trans hw184_2), ((HB.out.cell (World.block_lt_of_cell? w _ hw184_3)).trans hw184_3), ((HB.out.cell (World.block_lt_of_cell? w _ hw184_4)).trans hw184_4), ((HB.out.cell (World.block_lt_of_cell? w _ hw184_5)).trans hw184_5), ((HB.out.cell (World.block_lt_of_cell? w _ hw184_6)).trans hw184_6), ((HB.out.cell (World.block_lt_of_cell? w _ hw185_0)).trans hw185_0), ((HB.out.cell (World.block_lt_of_cell? w _ hw185_1)).trans hw185_1), ((HB.out.cell (World.block_lt_of_cell? w _ hw185_2)).trans hw185_2), ((HB.out.cell (World.block_lt_of_cell? w _ hw185_3)).trans hw185_3), ((HB.out.cell (World.block_lt_of_cell? w _ hw185_4)).trans hw185_4), ((HB.out.cell (World.block_lt_of_cell? w _ hw185_5)).trans hw185_5), ((HB.out.cell (World.block_lt_of_cell? w _ hw185_6)).trans hw185_6)⟩ (fun hHeld => ?_); refine with_tabW gatehouseref05_Right.tab11 gatehouseref05_Right.bits11 (fun HT_ HW_ => ?_)
                 generalize wr.drew = w20 at HB hx182_0 hx182_1 hx182_2 hx182_3 hx182_4 hx182_5 hx182_6 hx183_0 hx183_1 hx183_2 hx183_3 hx183_4 hx183_5 hx183_6 hx184_0 hx184_1 hx184_2 hx184_3 hx184_4 hx184_5 hx184_6 hx185_0 hx185_1 hx185_2 hx185_3 hx185_4 hx185_5 hx185_6 hHeld ⊢
                 refine pure_ (i := 0) (N := some 24) (v := ?_) (a' := ?_) #[true, false, false, false, false, false, false, false, false, false, false, false, false, false, false, false, false, false, false, false, false, false] rfl rfl (any_of HT_.out (by kernel_rfl)) (fun _ _ _ h => h) (Or.inl ⟨by rfl, ?_⟩) ?_ ?_
                 rotate_left
                 ·intro w'
                  go_simp
                  with_reducible rfl
                 rotate_left
                 ·simp only [Act.put, List.setIfInBounds_toArray, List.set_cons_zero, List.set_cons_succ, i64_w, i32_w]
                  rfl
                 refine pure_ (i := 1) (N := some 25) (v := ?_) (a' := ?_) #[true, true, false, false, false, false, false, false, false, false, false, false, false, false, false, false, false, false, false, false, false, false] rfl rfl (any_of HT_.out (by kernel_rfl)) (fun _ _ _ h => h) (Or.inl ⟨by rfl, ?_⟩) ?_ ?_
                 rotate_left
                 ·intro w'
                  go_simp
                  with_reducible rfl
                 rotate_left
                 ·simp only [Act.put, List.setIfInBounds_toArray, List.set_cons_zero, List.set_cons_succ, i64_w, i32_w]
                  rfl
                 refine pure_ (i := 2) (N := some 26) (v := ?_) (a' := ?_) #[true, true, true, false, false, false, false, false, false, false, false, false, false, false, false, false, false, false, false, false, false, false] rfl rfl (any_of HT_.out (by kernel_rfl)) (fun _ _ _ h => h) (Or.inl ⟨by rfl, ?_⟩) ?_ ?_
                 rotate_left
                 ·intro w'
                  go_simp
                  with_reducible rfl
                 rotate_left
                 ·simp only [Act.put, List.setIfInBounds_toArray, List.set_cons_zero, List.set_cons_succ, i64_w, i32_w]
                  rfl
                 refine pure_ (i := 3) (N := some 27) (v := ?_) (a' := ?_) #[true, true, true, true, false, false, false, false, false, false, false, false, false, false, false, false, false, false, false, false, false, false] rfl rfl (any_of HT_.out (by kernel_rfl)) (fun _ _ _ h => h) (Or.inl ⟨by rfl, ?_⟩) ?_ ?_
                 rotate_left
                 ·intro w'
                  go_simp
                  with_reducible rfl
                 rotate_left
                 ·simp only [Act.put, List.setIfInBounds_toArray, List.set_cons_zero, List.set_cons_succ, i64_w, i32_w]
                  rfl
                 refine pure_ (i := 5) (N := some 29) (v := ?_) (a' := ?_) #[true, true, true, true, false, true, false, false, false, false, false, false, false, false, false, false, false, false, false, false, false, false] rfl rfl (any_of HT_.out (by kernel_rfl)) (fun _ _ _ h => h) (Or.inl ⟨by rfl, ?_⟩) ?_ ?_
                 rotate_left
                 ·intro w'
                  go_simp
                  with_reducible rfl
                 rotate_left
                 ·simp only [Act.put, List.setIfInBounds_toArray, List.set_cons_zero, List.set_cons_succ, i64_w, i32_w]
                  rfl
                 refine pure_ (i := 6) (N := some 30) (v := ?_) (a' := ?_) #[true, true, true, true, false, true, true, false, false, false, false, false, false, false, false, false, false, false, false, false, false, false] rfl rfl (any_of HT_.out (by kernel_rfl)) (fun _ _ _ h => h) (Or.inl ⟨by rfl, ?_⟩) ?_ ?_
                 rotate_left
                 ·intro w'
                  go_simp
                  with_reducible rfl
                 rotate_left
                 ·simp only [Act.put, List.setIfInBounds_toArray, List.set_cons_zero, List.set_cons_succ, i64_w, i32_w]
                  rfl
                 refine pure_ (i := 7) (N := some 31) (v := ?_) (a' := ?_) #[true, true, true, true, false, true, true, true, false, false, false, false, false, false, false, false, false, false, false, false, false, false] rfl rfl (any_of HT_.out (by kernel_rfl)) (fun _ _ _ h => h) (Or.inl ⟨by rfl, ?_⟩) ?_ ?_
                 rotate_left
                 ·intro w'
                  go_simp
                  with_reducible rfl
                 rotate_left
                 ·simp only [Act.put, List.setIfInBounds_toArray, List.set_cons_zero, List.set_cons_succ, i64_w, i32_w]
                  rfl
                 refine pure_ (i := 8) (N := some 32) (v := ?_) (a' := ?_) #[true, true, true, true, false, true, true, true, true, false, false, false, false, false, false, false, false, false, false, false, false, false] rfl rfl (any_of HT_.out (by kernel_rfl)) (fun _ _ _ h => h) (Or.inl ⟨by rfl, ?_⟩) ?_ ?_
                 rotate_left
                 ·intro w'
                  go_simp
                  with_reducible rfl
                 rotate_left
                 ·simp only [Act.put, List.setIfInBounds_toArray, List.set_cons_zero, List.set_cons_succ, i64_w, i32_w]
                  rfl
                 refine take_ (i := 4) (N := some 28) (v := ?_) (a' := ?_) #[true, true, true, true, true, true, true, true, true, false, false, false, false, false, false, false, false, false, false, false, false, false] rfl rfl (take_ofW HT_.out HW_.out (by kernel_rfl)) (fun _ _ _ h => h) (Or.inl ⟨by rfl, ?_⟩) hHeld ?_ ?_
                 rotate_left
                 ·rintro w' ⟨s0, s1, s2, s3, s4, s5, s6, s7, s8, s9, s10, s11, s12, s13, s14, s15, s16, s17, s18, s19, s20, s21, s22, s23, s24, s25, s26, s27⟩
                  go_simp
                  with_reducible rfl
                 rotate_left
                 ·simp only [Act.put, List.setIfInBounds_toArray, List.set_cons_zero, List.set_cons_succ, i64_w, i32_w]
                  rfl
                 refine take_ (i := 9) (N := some 33) (v := ?_) (a' := ?_) #[true, true, true, true, true, true, true, true, true, true, false, false, false, false, false, false, false, false, false, false, false, false] rfl rfl (take_ofW HT_.out HW_.out (by kernel_rfl)) (fun _ _ _ h => h) (Or.inl ⟨by rfl, ?_⟩) hHeld ?_ ?_
                 rotate_left
                 ·rintro w' ⟨s0, s1, s2, s3, s4, s5, s6, s7, s8, s9, s10, s11, s12, s13, s14, s15, s16, s17, s18, s19, s20, s21, s22, s23, s24, s25, s26, s27⟩
                  go_simp
                  with_reducible rfl
                 rotate_left
                 ·simp only [Act.put, List.setIfInBounds_toArray, List.set_cons_zero, List.set_cons_succ, i64_w, i32_w]
                  rfl
                 refine pure_ (i := 10) (N := some 34) (v := ?_) (a' := ?_) #[true, true, true, true, true, true, true, true, true, true, true, false, false, false, false, false, false, false, false, false, false, false] rfl rfl (any_of HT_.out (by kernel_rfl)) (fun _ _ _ h => h) (Or.inl ⟨by rfl, ?_⟩) ?_ ?_
                 rotate_left
                 ·intro w'
                  go_simp
                  with_reducible rfl
                 rotate_left
                 ·simp only [Act.put, List.setIfInBounds_toArray, List.set_cons_zero, List.set_cons_succ, i64_w, i32_w]
                  rfl
                 refine pure_ (i := 11) (N := some 35) (v := ?_) (a' := ?_) #[true, true, true, true, true, true, true, true, true, true, true, true, false, false, false, false, false, false, false, false, false, false] rfl rfl (any_of HT_.out (by kernel_rfl)) (fun _ _ _ h => h) (Or.inl ⟨by rfl, ?_⟩) ?_ ?_
                 rotate_left
                 ·intro w'
                  go_simp
                  with_reducible rfl
                 rotate_left
                 ·simp only [Act.put, List.setIfInBounds_toArray, List.set_cons_zero, List.set_cons_succ, i64_w, i32_w]
                  rfl
                 refine pure_ (i := 12) (N := some 36) (v := ?_) (a' := ?_) #[true, true, true, true, true, true, true, true, true, true, true, true, true, false, false, false, false, false, false, false, false, false] rfl rfl (any_of HT_.out (by kernel_rfl)) (fun _ _ _ h => h) (Or.inl ⟨by rfl, ?_⟩) ?_ ?_
                 rotate_left
                 ·intro w'
                  go_simp
                  with_reducible rfl
                 rotate_left
                 ·simp only [Act.put, List.setIfInBounds_toArray, List.set_cons_zero, List.set_cons_succ, i64_w, i32_w]
                  rfl
                 refine pure_ (i := 13) (N := some 37) (v := ?_) (a' := ?_) #[true, true, true, true, true, true, true, true, true, true, true, true, true, true, false, false, false, false, false, false, false, false] rfl rfl (any_of HT_.out (by kernel_rfl)) (fun _ _ _ h => h) (Or.inl ⟨by rfl, ?_⟩) ?_ ?_
                 rotate_left
                 ·intro w'
                  go_simp
                  with_reducible rfl
                 rotate_left
                 ·simp only [Act.put, List.setIfInBounds_toArray, List.set_cons_zero, List.set_cons_succ, i64_w, i32_w]
                  rfl
                 refine pure_ (i := 14) (N := some 38) (v := ?_) (a' := ?_) #[true, true, true, true, true, true, true, true, true, true, true, true, true, true, true, false, false, false, false, false, false, false] rfl rfl (any_of HT_.out (by kernel_rfl)) (fun _ _ _ h => h) (Or.inl ⟨by rfl, ?_⟩) ?_ ?_
                 rotate_left
                 ·intro w'
                  go_simp
                  with_reducible rfl
                 rotate_left
                 ·simp only [Act.put, List.setIfInBounds_toArray, List.set_cons_zero, List.set_cons_succ, i64_w, i32_w]
                  rfl
                 refine pure_ (i := 16) (N := some 40) (v := ?_) (a' := ?_) #[true, true, true, true, true, true, true, true, true, true, true, true, true, true, true, false, true, false, false, false, false, false] rfl rfl (any_of HT_.out (by kernel_rfl)) (fun _ _ _ h => h) (Or.inl ⟨by rfl, ?_⟩) ?_ ?_
                 rotate_left
                 ·intro w'
                  go_simp
                  with_reducible rfl
                 rotate_left
                 ·simp only [Act.put, List.setIfInBounds_toArray, List.set_cons_zero, List.set_cons_succ, i64_w, i32_w]
                  rfl
                 refine pure_ (i := 17) (N := some 41) (v := ?_) (a' := ?_) #[true, true, true, true, true, true, true, true, true, true, true, true, true, true, true, false, true, true, false, false, false, false] rfl rfl (any_of HT_.out (by kernel_rfl)) (fun _ _ _ h => h) (Or.inl ⟨by rfl, ?_⟩) ?_ ?_
                 rotate_left
                 ·intro w'
                  go_simp
                  with_reducible rfl
                 rotate_left
                 ·simp only [Act.put, List.setIfInBounds_toArray, List.set_cons_zero, List.set_cons_succ, i64_w, i32_w]
                  rfl
                 refine pure_ (i := 18) (N := some 42) (v := ?_) (a' := ?_) #[true, true, true, true, true, true, true, true, true, true, true, true, true, true, true, false, true, true, true, false, false, false] rfl rfl (any_of HT_.out (by kernel_rfl)) (fun _ _ _ h => h) (Or.inl ⟨by rfl, ?_⟩) ?_ ?_
                 rotate_left
                 ·intro w'
                  go_simp
                  with_reducible rfl
                 rotate_left
                 ·simp only [Act.put, List.setIfInBounds_toArray, List.set_cons_zero, List.set_cons_succ, i64_w, i32_w]
                  rfl
                 refine take_ (i := 15) (N := some 39) (v := ?_) (a' := ?_) #[true, true, true, true, true, true, true, true, true, true, true, true, true, true, true, true, true, true, true, false, false, false] rfl rfl (take_ofW HT_.out HW_.out (by kernel_rfl)) (fun _ _ _ h => h) (Or.inl ⟨by rfl, ?_⟩) hHeld ?_ ?_
                 rotate_left
                 ·rintro w' ⟨s0, s1, s2, s3, s4, s5, s6, s7, s8, s9, s10, s11, s12, s13, s14, s15, s16, s17, s18, s19, s20, s21, s22, s23, s24, s25, s26, s27⟩
                  go_simp
                  with_reducible rfl
                 rotate_left
                 ·simp only [Act.put, List.setIfInBounds_toArray, List.set_cons_zero, List.set_cons_succ, i64_w, i32_w]
                  rfl
                 refine take_ (i := 19) (N := some 43) (v := ?_) (a' := ?_) #[true, true, true, true, true, true, true, true, true, true, true, true, true, true, true, true, true, true, true, true, false, false] rfl rfl (take_ofW HT_.out HW_.out (by kernel_rfl)) (fun _ _ _ h => h) (Or.inl ⟨by rfl, ?_⟩) hHeld ?_ ?_
                 rotate_left
                 ·rintro w' ⟨s0, s1, s2, s3, s4, s5, s6, s7, s8, s9, s10, s11, s12, s13, s14, s15, s16, s17, s18, s19, s20, s21, s22, s23, s24, s25, s26, s27⟩
                  go_simp
                  with_reducible rfl
                 rotate_left
                 ·simp only [Act.put, List.setIfInBounds_toArray, List.set_cons_zero, List.set_cons_succ, i64_w, i32_w]
                  rfl
                 refine one_ (i := 20) (N := some 44) #[true, true, true, true, true, true, true, true, true, true, true, true, true, true, true, true, true, true, true, true, true, false] rfl rfl (one_of HT_.out (by kernel_rfl)) (by decide) (fun K hK => ?_)
                 refine goes_ Try.func28 (by kernel_rfl) rfl #[.agg #[.int .i64 ((rd_T31 l0 x4_2).f0), .int .i64 ((rd_T31 l0 x4_2).f1), .int .i64 ((rd_T31 l0 x4_2).f2), .int .i64 ((rd_T31 l0 x4_2).f3), .int .i64 ((rd_T31 l0 x4_2).f4), .bool ((rd_T31 l0 x4_2).f5), .bool ((rd_T31 l0 x4_2).f6)], .agg #[.int .i64 ((rd_T31 l0 x10_1).f0), .int .i64 ((rd_T31 l0 x10_1).f1), .int .i64 ((rd_T31 l0 x10_1).f2), .int .i64 ((rd_T31 l0 x10_1).f3), .int .i64 ((rd_T31 l0 x10_1).f4), .bool ((rd_T31 l0 x10_1).f5), .bool ((rd_T31 l0 x10_1).f6)]] (by rfl) rfl rfl (by (try simp only [List.map_toArray, List.map_cons, List.map_nil]); first | done | rfl | (simp only [List.length_drop, List.length_take]; rfl)) ?_
                 with_reducible refine (gatehouseref05_Meet.calls ((rd_T31 l0 x4_2).f0) ((rd_T31 l0 x4_2).f1) ((rd_T31 l0 x4_2).f2) ((rd_T31 l0 x4_2).f3) ((rd_T31 l0 x4_2).f4) ((rd_T31 l0 x4_2).f5) ((rd_T31 l0 x4_2).f6) ((rd_T31 l0 x10_1).f0) ((rd_T31 l0 x10_1).f1) ((rd_T31 l0 x10_1).f2) ((rd_T31 l0 x10_1).f3) ((rd_T31 l0 x10_1).f4) ((rd_T31 l0 x10_1).f5) ((rd_T31 l0 x10_1).f6) false _ A16.out).mono ?_
                 rintro e w21 ⟨rfl, hb⟩
                 refine ⟨_, rfl, ?_⟩
                 have n0_ := am_ (below_step (by repeat (first | (with_reducible first | exact HB.out | apply ba_ | apply bn_ | apply bd_) | exact HB.out)) hb)
                 clear HB
                 have HB := n0_
                 clear n0_
                 (try clear hb)
                 (try clear hb2)
                 (try clear hk)
                 (try clear hi)
                 refine hK.out _ _ ⟨((HB.out.cell (World.block_lt_of_cell? w _ hw182_0)).trans hw182_0), ((HB.out.cell (World.block_lt_of_cell? w _ hw182_1)).trans hw182_1), ((HB.out.cell (World.block_lt_of_cell? w _ hw182_2)).trans hw182_2), ((HB.out.cell (World.block_lt_of_cell? w _ hw182_3)).trans hw182_3), ((HB.out.cell (World.block_lt_of_cell? w _ hw182_4)).trans hw182_4), ((HB.out.cell (World.block_lt_of_cell? w _ hw182_5)).trans hw182_5), ((HB.out.cell (World.block_lt_of_cell? w _ hw182_6)).trans hw182_6), ((HB.out.cell (World.block_lt_of_cell? w _ hw183_0)).trans hw183_0), ((HB.out.cell (World.block_lt_of_cell? w _ hw183_1)).trans hw183_1), ((HB.out.cell (World.block_lt_of_cell? w _ hw183_2)).trans hw183_2), ((HB.out.cell (World.block_lt_of_cell? w _ hw183_3)).trans hw183_3), ((HB.out.cell (World.block_lt_of_cell? w _ hw183_4)).trans hw183_4), ((HB.out.cell (World.block_lt_of_cell? w _ hw183_5)).trans hw183_5), ((HB.out.cell (World.block_lt_of_cell? w _ hw183_6)).trans hw183_6), ((HB.out.cell (World.block_lt_of_cell? w _ hw184_0)).trans hw184_0), ((HB.out.cell (World.block_lt_of_cell? w _ hw184_1)).trans hw184_1), ((HB.out.cell (World.block_lt_of_cell? w _ hw184_2)).trans hw184_2), ((HB.out.cell (World.block_lt_of_cell? w _ hw184_3)).trans hw184_3), ((HB.out.cell (World.block_lt_of_cell? w _ hw184_4)).trans hw184_4), ((HB.out.cell (World.block_lt_of_cell? w _ hw184_5)).trans hw184_5), ((HB.out.cell (World.block_lt_of_cell? w _ hw184_6)).trans hw184_6), ((HB.out.cell (World.block_lt_of_cell? w _ hw185_0)).trans hw185_0), ((HB.out.cell (World.block_lt_of_cell? w _ hw185_1)).trans hw185_1), ((HB.out.cell (World.block_lt_of_cell? w _ hw185_2)).trans hw185_2), ((HB.out.cell (World.block_lt_of_cell? w _ hw185_3)).trans hw185_3), ((HB.out.cell (World.block_lt_of_cell? w _ hw185_4)).trans hw185_4), ((HB.out.cell (World.block_lt_of_cell? w _ hw185_5)).trans hw185_5), ((HB.out.cell (World.block_lt_of_cell? w _ hw185_6)).trans hw185_6)⟩ (fun hHeld => ?_)
                 clear hK K
                 refine norm_ (a' := ?_) ?_ ?_
                 rotate_left
                 ·show Act.put _ (some 44) _ = _
                  simp only [Act.put, List.setIfInBounds_toArray, List.set_cons_zero, List.set_cons_succ, i64_w, i32_w]
                  rfl
                 refine pure_ (i := 21) (N := some 45) (v := ?_) (a' := ?_) #[true, true, true, true, true, true, true, true, true, true, true, true, true, true, true, true, true, true, true, true, true, true] rfl rfl (any_of HT_.out (by kernel_rfl)) (fun _ _ _ h => h) (Or.inl ⟨by rfl, ?_⟩) ?_ ?_
                 rotate_left
                 ·intro w'
                  go_simp
                  with_reducible rfl
                 rotate_left
                 ·simp only [Act.put, List.setIfInBounds_toArray, List.set_cons_zero, List.set_cons_succ, i64_w, i32_w]
                  rfl
                 refine done_ (done_of HT_.out (by kernel_rfl)) ?_
                 try go_wp2
                 go_roundg k2
                 case measure => have := HK1.out; have := HK2.out; omega
                 case rel => exact ⟨(wrap64 (x4_2 + 1)), (by first | rfl | (simp; done) | (simp [*]; done)), H', ⟨by have := HK1.out; have := HK2.out; omega⟩, ⟨by repeat (first | (with_reducible first | exact HB.out | apply ba_ | apply bn_ | apply bd_) | exact HB.out)⟩⟩
              ·rw [if_neg c13] at H
               exact absurd H (by simp)
             ·rw [if_neg c12] at H
              exact absurd H (by simp)
            ·rw [if_neg c11] at H
             exact absurd H (by simp)
           ·rw [if_neg c10] at H
            exact absurd H (by simp)
          ·rw [if_neg c9] at H
           have c9b0 : decide (x4_2 < x10_1) = false := decide_eq_false c9
           clear c9
           have H' := am_ H
           clear H
           go_wp2
           go_roundg k2
           case measure => have := HK1.out; have := HK2.out; omega
           case rel => exact ⟨(wrap64 (x10_1 + 1)), (by first | rfl | (simp; done) | (simp [*]; done)), H', ⟨by have := HK1.out; have := HK2.out; omega⟩, ⟨by repeat (first | (with_reducible first | exact HB.out | apply ba_ | apply bn_ | apply bd_) | exact HB.out)⟩⟩
       ·replace c7 := Bool.eq_false_iff.mpr c7
        subst c7
        have H1 : (some false) = some r := by rw [if_neg (show ¬ (false = true) by decide)] at H; exact H
        clear H
        have H := H1
        clear H1
        obtain rfl := Option.some.inj H
        have p180 : 0 ≤ (x10_1 : Int) := of_decide_eq_true (by first | (with_reducible assumption) | assumption)
        have q180 : x10_1 < (l0.length : Int) := of_decide_eq_true (by first | (with_reducible assumption) | assumption)
        obtain ⟨ad180, e180, hx180_0, hx180_1, hx180_2, hx180_3, hx180_4, hx180_5, hx180_6⟩ := at_T31 HR0.out x10_1 p180 q180
        cases e180
        replace hx180_0 := (HB.out.cell (World.block_lt_of_cell? w _ hx180_0)).trans hx180_0
        replace hx180_1 := (HB.out.cell (World.block_lt_of_cell? w _ hx180_1)).trans hx180_1
        replace hx180_2 := (HB.out.cell (World.block_lt_of_cell? w _ hx180_2)).trans hx180_2
        replace hx180_3 := (HB.out.cell (World.block_lt_of_cell? w _ hx180_3)).trans hx180_3
        replace hx180_4 := (HB.out.cell (World.block_lt_of_cell? w _ hx180_4)).trans hx180_4
        replace hx180_5 := (HB.out.cell (World.block_lt_of_cell? w _ hx180_5)).trans hx180_5
        replace hx180_6 := (HB.out.cell (World.block_lt_of_cell? w _ hx180_6)).trans hx180_6
        replace p180 := eq_true p180
        replace q180 := eq_true q180
        go_wp2_with (first | ((with_reducible refine gate_callee (f := 27) rfl ?_); refine goesL_ (some 17) rfl rfl Try.func27 (by kernel_rfl) rfl #[.agg #[.int .i64 ((rd_T31 l0 x10_1).f0), .int .i64 ((rd_T31 l0 x10_1).f1), .int .i64 ((rd_T31 l0 x10_1).f2), .int .i64 ((rd_T31 l0 x10_1).f3), .int .i64 ((rd_T31 l0 x10_1).f4), .bool ((rd_T31 l0 x10_1).f5), .bool ((rd_T31 l0 x10_1).f6)]] rfl (by (try simp only [List.map_toArray, List.map_cons, List.map_nil]); first | done | rfl | (simp only [List.length_drop, List.length_take]; rfl)) ?_; (with_reducible refine (gatehouseref05_Good.calls k1 ((rd_T31 l0 x10_1).f0) ((rd_T31 l0 x10_1).f1) ((rd_T31 l0 x10_1).f2) ((rd_T31 l0 x10_1).f3) ((rd_T31 l0 x10_1).f4) ((rd_T31 l0 x10_1).f5) ((rd_T31 l0 x10_1).f6) false _ A6.out).mono ?_); rintro e w22 ⟨rfl, hb⟩; refine ⟨_, rfl, ?_⟩; have n0_ := am_ (below_step (by repeat (first | (with_reducible first | exact HB.out | apply ba_ | apply bn_ | apply bd_) | exact HB.out)) hb); clear HB; have HB := n0_; clear n0_; (try clear hb); (try clear hb2); (try clear hk); (try clear hi)))
        go_ret
        exact ⟨by first | rfl | (simp [errW_none, errW_some] <;> rfl) | (simp [*, errW_none, errW_some] <;> rfl), by repeat (first | (with_reducible first | exact HB.out | apply ba_ | apply bn_ | apply bd_) | exact HB.out)⟩
      ·rw [if_neg c5] at H
       exact absurd H (by simp)
     ·rw [if_neg c4] at H
      exact absurd H (by simp)
    ·rw [if_neg c3] at H
     have c3b0 : decide (x10_1 < (l0.length : Int)) = false := decide_eq_false c3
     clear c3
     obtain rfl := Option.some.inj H
     go_wp2
     go_ret
     exact ⟨by first | rfl | (simp [errW_none, errW_some] <;> rfl) | (simp [*, errW_none, errW_some] <;> rfl), by repeat (first | (with_reducible first | exact HB.out | apply ba_ | apply bn_ | apply bd_) | exact HB.out)⟩

end Go.Proofs.YtcgmlcblcioaeaaZ
namespace Go.Proofs.YtcgmlcblcioaeaaP
open Go Go.RowKit Go.Proofs.YtcgmlcblcioaeaaZ Go.Proofs.YtcgmlcblcioaeaaW.PrintWords Go.Proofs.YtcgmlcblcioaeaaW.PrintLast Go.Proofs.YtcgmlcblcioaeaaW.PrintMore
open Go.Proofs.Ytcgmlcblcioaeaa (Mp Pc rightL rightFrom atI spanL spanFrom idOk putL cutL insL clash good_out right_good right_from right_order rightL_from atI_le takeWhile_at)

theorem rid_eq (n : Int) : gatehouseref05_id.f n = some (idOk n) := id_eq n
theorem rgood_eq (x : S31) (k : Nat) (hk : 0 < k) : gatehouseref05_Good.f k x.f0 x.f1 x.f2 x.f3 x.f4 x.f5 x.f6 = some x.m.good := by
  obtain ⟨k, rfl⟩ : ∃ q, k = q + 1 := ⟨k - 1, by omega⟩
  have no : ∀ h : ¬ (1 ≤ x.f1 ∧ x.f1 ≤ 64 ∧ 0 ≤ x.f0 ∧ x.f0 ≤ 67108864 - x.f1 ∧ 0 ≤ x.f4 ∧ x.f4 ≤ 64 - x.f1 ∧ idOk x.f2 = true ∧ idOk x.f3 = true), x.m.good = false := fun h => decide_eq_false h
  have yes : ∀ h : (1 ≤ x.f1 ∧ x.f1 ≤ 64 ∧ 0 ≤ x.f0 ∧ x.f0 ≤ 67108864 - x.f1 ∧ 0 ≤ x.f4 ∧ x.f4 ≤ 64 - x.f1 ∧ idOk x.f2 = true ∧ idOk x.f3 = true), x.m.good = true := fun h => decide_eq_true h
  have jt : gatehouseref05_Good.j0 (k + 1) true x.f0 x.f1 x.f2 x.f3 x.f4 x.f5 x.f6 = some false := by rw [gatehouseref05_Good.j0, if_pos rfl]
  unfold gatehouseref05_Good.f
  by_cases h1 : x.f1 < 1
  · rw [if_pos h1, jt, no (by omega)]
  · by_cases h2 : x.f1 > 64
    · rw [if_neg h1, if_pos h2, jt, no (by omega)]
    · by_cases h3 : x.f0 < 0
      · rw [if_neg h1, if_neg h2, if_pos h3, jt, no (by omega)]
      · by_cases h4 : x.f0 > 67108864
        · rw [if_neg h1, if_neg h2, if_neg h3, if_pos h4, jt, no (by omega)]
        · by_cases h5 : x.f4 < 0
          · rw [if_neg h1, if_neg h2, if_neg h3, if_neg h4, if_pos h5, jt, no (by omega)]
          · rw [if_neg h1, if_neg h2, if_neg h3, if_neg h4, if_neg h5]
            by_cases h6 : x.f4 > 64
            · rw [decide_eq_true h6, jt, no (by omega)]
            · rw [decide_eq_false h6, gatehouseref05_Good.j0, if_neg (by simp), wrap_in (x := x.f0 + x.f1) (by omega) (by omega), wrap_in (x := x.f4 + x.f1) (by omega) (by omega)]
              by_cases h7 : x.f0 + x.f1 ≤ 67108864
              · by_cases h8 : x.f4 + x.f1 ≤ 64
                · rw [if_pos h7, if_pos h8, rid_eq, rid_eq]
                  simp only [Option.bind_some]
                  cases hi : idOk x.f2
                  · rw [if_neg (by simp), no (by rintro ⟨_, _, _, _, _, _, h, _⟩; rw [hi] at h; cases h)]
                  · rw [if_pos rfl]
                    congr 1
                    cases hj : idOk x.f3
                    · rw [no (by rintro ⟨_, _, _, _, _, _, _, h⟩; rw [hj] at h; cases h)]
                    · exact (yes ⟨by omega, by omega, by omega, by omega, by omega, by omega, hi, hj⟩).symm
                · rw [if_pos h7, if_neg h8, no (by omega)]
              · rw [if_neg h7, no (by omega)]
theorem rmeet_eq (x y : S31) (hx : x.m.good = true) (hy : y.m.good = true) : gatehouseref05_Meet.f x.f0 x.f1 x.f2 x.f3 x.f4 x.f5 x.f6 y.f0 y.f1 y.f2 y.f3 y.f4 y.f5 y.f6 = some (decide (x.f0 < y.f0 + y.f1 ∧ y.f0 < x.f0 + x.f1)) := by
  obtain ⟨g1, g2, g3, g4, _⟩ := good_out hx
  obtain ⟨e1, e2, e3, e4, _⟩ := good_out hy
  simp only [S31.m] at g1 g2 g3 g4 e1 e2 e3 e4
  unfold gatehouseref05_Meet.f
  rw [wrap_in (x := y.f0 + y.f1) (by omega) (by omega), wrap_in (x := x.f0 + x.f1) (by omega) (by omega)]
  by_cases h : x.f0 < y.f0 + y.f1
  · rw [if_pos h]; congr 1; exact decide_eq_decide.2 ⟨fun h2 => ⟨h, h2⟩, fun h2 => h2.2⟩
  · rw [if_neg h, decide_eq_false (fun h2 => h h2.1)]

theorem rright_ok (l : List S31) (i : Nat) (hi : i < l.length) (hl : l.length ≤ 16) (hgi : (l[i]).m.good = true) (hq : ∀ q (h : q < i), (l[q]).m.good = true ∧ (l[q]).f0 + (l[q]).f1 ≤ (l[i]).f0) :
    ∀ (d k t : Nat), t + d = i → gatehouseref05_Right.l1 (k + d + 1) l i t l.length i = gatehouseref05_Right.l0 k l l.length ((i + 1 : Nat) : Int) := by
  intro d
  induction d with
  | zero =>
    intro k t ht
    rw [gatehouseref05_Right.l1, if_neg (by omega), wrap_in (by omega) (by omega), show ((i : Int) + 1) = ((i + 1 : Nat) : Int) by omega, Nat.add_zero]
  | succ d ih =>
    intro k t ht
    have htl : t < l.length := by omega
    obtain ⟨h1, h2⟩ := hq t (by omega)
    have g := good_out h1
    have g2 := good_out hgi
    simp only [S31.m] at g g2
    rw [show k + (d + 1) + 1 = (k + d + 1) + 1 by omega, gatehouseref05_Right.l1, if_pos (by omega), if_pos (by omega), if_pos (by omega), if_pos (by omega), if_pos (by omega), rd31 l t htl, rd31 l i hi, if_neg (by omega), rmeet_eq _ _ h1 hgi, decide_eq_false (by omega)]
    rw [Option.bind_some, if_neg (by simp), wrap_in (by omega) (by omega), show ((t : Int) + 1) = ((t + 1 : Nat) : Int) by omega]
    exact ih k (t + 1) (by omega)
theorem rright_bad (l : List S31) (i : Nat) (hi : i < l.length) (hl : l.length ≤ 16) (hgi : (l[i]).m.good = true) (hq : ∀ q (h : q < i), (l[q]).m.good = true) (hb : ∃ q, ∃ h : q < i, (l[i]).f0 < (l[q]).f0 + (l[q]).f1 ∧ q + 1 = i) :
    ∀ (d k t : Nat), t + d + 1 = i → gatehouseref05_Right.l1 (k + d + 1) l i t l.length i = some false := by
  obtain ⟨q, hqi, hb, hq1⟩ := hb
  intro d
  induction d with
  | zero =>
    intro k t ht
    obtain rfl : t = q := by omega
    have h1 := hq t hqi
    have g := good_out h1
    have g2 := good_out hgi
    simp only [S31.m] at g g2
    rw [gatehouseref05_Right.l1, if_pos (by omega), if_pos (by omega), if_pos (by omega), if_pos (by omega), if_pos (by omega), rd31 l t (by omega), rd31 l i hi]
    by_cases h : (l[t]).f0 ≥ (l[i]).f0
    · rw [if_pos h]
    · rw [if_neg h, rmeet_eq _ _ h1 hgi, decide_eq_true (by omega)]
      simp
  | succ d ih =>
    intro k t ht
    have h1 := hq t (by omega)
    rw [show k + (d + 1) + 1 = (k + d + 1) + 1 by omega, gatehouseref05_Right.l1, if_pos (by omega), if_pos (by omega), if_pos (by omega), if_pos (by omega), if_pos (by omega), rd31 l t (by omega), rd31 l i hi]
    by_cases h : (l[t]).f0 ≥ (l[i]).f0
    · rw [if_pos h]
    · rw [if_neg h, rmeet_eq _ _ h1 hgi]
      rw [Option.bind_some]
      by_cases h2 : (l[t]).f0 < (l[i]).f0 + (l[i]).f1 ∧ (l[i]).f0 < (l[t]).f0 + (l[t]).f1
      · rw [decide_eq_true h2, if_pos rfl]
      · rw [decide_eq_false h2, if_neg (by simp), wrap_in (by omega) (by omega), show ((t : Int) + 1) = ((t + 1 : Nat) : Int) by omega]
        exact ih k (t + 1) (by omega)
def endAt (l : List S31) (i : Nat) : Int := if h : 0 < i ∧ i ≤ l.length then (l[i - 1]).f0 + (l[i - 1]).f1 else 0
theorem rright_loop (l : List S31) (hl : l.length ≤ 16) : ∀ (d k i : Nat), i + d = l.length → (∀ q (_ : q < i) (h : q < l.length), (l[q]).m.good = true ∧ (l[q]).f0 + (l[q]).f1 ≤ endAt l i) → 20 * d < k →
    gatehouseref05_Right.l0 k l l.length i = some (rightFrom (endAt l i) ((l.map S31.m).drop i)) := by
  intro d
  induction d with
  | zero =>
    intro k i hi hq hk
    obtain ⟨k, rfl⟩ : ∃ m, k = m + 1 := ⟨k - 1, by omega⟩
    rw [gatehouseref05_Right.l0, if_neg (by omega), List.drop_eq_nil_of_le (by simp; omega), rightFrom]
  | succ d ih =>
    intro k i hi hq hk
    have hlt : i < l.length := by omega
    obtain ⟨k, rfl⟩ : ∃ m, k = m + i + 1 + 1 := ⟨k - i - 2, by omega⟩
    rw [gatehouseref05_Right.l0, if_pos (by omega), if_pos (by omega), if_pos (by omega), rd31 l i hlt, rgood_eq _ _ (by omega), drop31 l i hlt, rightFrom]
    simp only [Option.bind_some]
    cases hg : (l[i]).m.good
    · rw [if_neg (by simp)]; rfl
    · rw [if_pos rfl]
      have hend : endAt l (i + 1) = (l[i]).f0 + (l[i]).f1 := by unfold endAt; rw [dif_pos ⟨by omega, by omega⟩]; rfl
      have g := good_out hg
      simp only [S31.m] at g
      by_cases hf : endAt l i ≤ (l[i]).f0
      · have h1 := rright_ok l i hlt hl hg (fun q h => ⟨(hq q h (by omega)).1, by have := (hq q h (by omega)).2; omega⟩) i k 0 (by omega)
        rw [show ((0 : Nat) : Int) = 0 from rfl] at h1
        rw [h1, decide_eq_true (show endAt l i ≤ (l[i]).m.va from hf)]
        have := ih k (i + 1) (by omega) (fun q h h' => by
          rw [hend]
          rcases Nat.lt_or_ge q i with h2 | h2
          · exact ⟨(hq q h2 h').1, by have := (hq q h2 h').2; omega⟩
          · obtain rfl : q = i := by omega
            exact ⟨hg, Int.le_refl _⟩) (by omega)
        rw [this, hend]
        rfl
      · rw [decide_eq_false (show ¬ endAt l i ≤ (l[i]).m.va from hf)]
        have hi0 : 0 < i := by
          rcases Nat.eq_zero_or_pos i with h | h
          · subst h; exact absurd (show endAt l 0 ≤ (l[0]).f0 from by unfold endAt; rw [dif_neg (by omega)]; omega) hf
          · exact h
        have he : endAt l i = (l[i - 1]).f0 + (l[i - 1]).f1 := by unfold endAt; rw [dif_pos ⟨hi0, by omega⟩]
        have h1 := rright_bad l i hlt hl hg (fun q h => (hq q h (by omega)).1) ⟨i - 1, by omega, by omega, by omega⟩ (i - 1) (k + 1) 0 (by omega)
        rw [show k + 1 + (i - 1) + 1 = k + i + 1 by omega, show ((0 : Nat) : Int) = 0 from rfl] at h1
        rw [h1]
        rfl
theorem rright_f (l : List S31) (k : Nat) (hk : 400 < k) : gatehouseref05_Right.f k l = some (rightL (l.map S31.m)) := by
  unfold gatehouseref05_Right.f rightL
  rw [List.length_map]
  by_cases h : l.length ≤ 16
  · rw [if_neg (by omega), decide_eq_true h, Bool.and_true]
    have := rright_loop l h l.length k 0 (by omega) (fun q h _ => by omega) (by omega)
    rw [List.drop_zero] at this
    exact this
  · rw [if_pos (by omega), decide_eq_false h, Bool.and_false]

end Go.Proofs.YtcgmlcblcioaeaaP
-- Written by a program of this session (gprint.py, over the kit's printer).
namespace Go.Proofs.YtcgmlcblcioaeaaZ
open Go.RowKit Go.Proofs.YtcgmlcblcioaeaaW.PrintWords Go.Proofs.YtcgmlcblcioaeaaW.PrintLast Go.Proofs.YtcgmlcblcioaeaaW.PrintMore
attribute [local go_sem] max2_int min2_int max_two min_two max_three min_three max_four min_four   -- for this text's walks alone
set_option linter.unusedVariables false
set_option linter.unusedSimpArgs false

/-! ### gatehouseref05_Put: function 15 -/
mutual
def gatehouseref05_Put.j0 : Nat → List (S31) → Bool → Int → Int → Int → Int → Int → Bool → Bool → Option ((List (S31)) × Int)
 | 0, _, _, _, _, _, _, _, _, _ => none
 | k + 1, x0, x19, x248000, x248001, x248002, x248003, x248004, x248005, x248006 => if x19 = true then (some (([] : List (S31)), 1)) else (gatehouseref05_Put.l0 k x0 x0 (x0.length : Int) 0 x248000 x248001 x248002 x248003 x248004 x248005 x248006)
def gatehouseref05_Put.l0 : Nat → List (S31) → List (S31) → Int → Int → Int → Int → Int → Int → Int → Bool → Bool → Option ((List (S31)) × Int)
 | 0, _, _, _, _, _, _, _, _, _, _, _ => none
 | k + 1, x0, x20, x21, x22, x248000, x248001, x248002, x248003, x248004, x248005, x248006 => if x22 < x21 then (if 0 ≤ x22 then (if x22 < (x20.length : Int) then ((gatehouseref05_Meet.f ((rd_T31 x20 x22).f0) ((rd_T31 x20 x22).f1) ((rd_T31 x20 x22).f2) ((rd_T31 x20 x22).f3) ((rd_T31 x20 x22).f4) ((rd_T31 x20 x22).f5) ((rd_T31 x20 x22).f6) x248000 x248001 x248002 x248003 x248004 x248005 x248006).bind fun t252 => (if t252 = true then (some (([] : List (S31)), 2)) else (gatehouseref05_Put.l0 k x0 x20 x21 (wrap64 (x22 + 1)) x248000 x248001 x248002 x248003 x248004 x248005 x248006))) else (none)) else (none)) else (if (x0.length : Int) = 16 then (some (([] : List (S31)), 7)) else (gatehouseref05_Put.l1 k (([] : List (S31))) false x0 (x0.length : Int) 0 x248000 x248001 x248002 x248003 x248004 x248005 x248006))
def gatehouseref05_Put.l1 : Nat → List (S31) → Bool → List (S31) → Int → Int → Int → Int → Int → Int → Int → Bool → Bool → Option ((List (S31)) × Int)
 | 0, _, _, _, _, _, _, _, _, _, _, _, _ => none
 | k + 1, x8, x9, x34, x35, x36, x248000, x248001, x248002, x248003, x248004, x248005, x248006 => if x36 < x35 then (if 0 ≤ x36 then (if x36 < (x34.length : Int) then (if x9 = true then (if x8.length < 2932031007402 then (gatehouseref05_Put.l1 k (x8 ++ [(⟨(rd_T31 x34 x36).f0, (rd_T31 x34 x36).f1, (rd_T31 x34 x36).f2, (rd_T31 x34 x36).f3, (rd_T31 x34 x36).f4, (rd_T31 x34 x36).f5, (rd_T31 x34 x36).f6⟩ : S31)]) x9 x34 x35 (wrap64 (x36 + 1)) x248000 x248001 x248002 x248003 x248004 x248005 x248006) else (none)) else (if ((rd_T31 x34 x36).f0) > x248000 then (if x8.length < 2932031007402 then ((some (x8 ++ [(⟨x248000, x248001, x248002, x248003, x248004, x248005, x248006⟩ : S31)] : List (S31))).bind fun y261 => (if y261.length < 2932031007402 then (gatehouseref05_Put.l1 k (y261 ++ [(⟨(rd_T31 x34 x36).f0, (rd_T31 x34 x36).f1, (rd_T31 x34 x36).f2, (rd_T31 x34 x36).f3, (rd_T31 x34 x36).f4, (rd_T31 x34 x36).f5, (rd_T31 x34 x36).f6⟩ : S31)]) true x34 x35 (wrap64 (x36 + 1)) x248000 x248001 x248002 x248003 x248004 x248005 x248006) else (none))) else (none)) else (if x8.length < 2932031007402 then (gatehouseref05_Put.l1 k (x8 ++ [(⟨(rd_T31 x34 x36).f0, (rd_T31 x34 x36).f1, (rd_T31 x34 x36).f2, (rd_T31 x34 x36).f3, (rd_T31 x34 x36).f4, (rd_T31 x34 x36).f5, (rd_T31 x34 x36).f6⟩ : S31)]) x9 x34 x35 (wrap64 (x36 + 1)) x248000 x248001 x248002 x248003 x248004 x248005 x248006) else (none)))) else (none)) else (none)) else (if x9 = true then (some (x8, 0)) else (if x8.length < 2932031007402 then (some ((x8 ++ [(⟨x248000, x248001, x248002, x248003, x248004, x248005, x248006⟩ : S31)]), 0)) else (none)))
end
def gatehouseref05_Put.f (k : Nat) (l0 : List (S31)) (a1_0 : Int) (a1_1 : Int) (a1_2 : Int) (a1_3 : Int) (a1_4 : Int) (a1_5 : Bool) (a1_6 : Bool) : Option ((List (S31)) × Int) := (gatehouseref05_Right.f k l0).bind fun t248 => (if t248 = true then ((gatehouseref05_Good.f k a1_0 a1_1 a1_2 a1_3 a1_4 a1_5 a1_6).bind fun t249 => (gatehouseref05_Put.j0 k l0 (!t249) a1_0 a1_1 a1_2 a1_3 a1_4 a1_5 a1_6)) else (gatehouseref05_Put.j0 k l0 true a1_0 a1_1 a1_2 a1_3 a1_4 a1_5 a1_6))
theorem gatehouseref05_Put.mono_l : ∀ k, (∀ y0 y1 y2 y3 y4 y5 y6 y7 y8, LeO (gatehouseref05_Put.j0 k y0 y1 y2 y3 y4 y5 y6 y7 y8) (gatehouseref05_Put.j0 (k + 1) y0 y1 y2 y3 y4 y5 y6 y7 y8)) ∧ (∀ y0 y1 y2 y3 y4 y5 y6 y7 y8 y9 y10, LeO (gatehouseref05_Put.l0 k y0 y1 y2 y3 y4 y5 y6 y7 y8 y9 y10) (gatehouseref05_Put.l0 (k + 1) y0 y1 y2 y3 y4 y5 y6 y7 y8 y9 y10)) ∧ (∀ y0 y1 y2 y3 y4 y5 y6 y7 y8 y9 y10 y11, LeO (gatehouseref05_Put.l1 k y0 y1 y2 y3 y4 y5 y6 y7 y8 y9 y10 y11) (gatehouseref05_Put.l1 (k + 1) y0 y1 y2 y3 y4 y5 y6 y7 y8 y9 y10 y11))
 | 0 => ⟨fun _ _ _ _ _ _ _ _ _ r h => by simp [gatehouseref05_Put.j0] at h, fun _ _ _ _ _ _ _ _ _ _ _ r h => by simp [gatehouseref05_Put.l0] at h, fun _ _ _ _ _ _ _ _ _ _ _ _ r h => by simp [gatehouseref05_Put.l1] at h⟩
 | k + 1 => by
  obtain ⟨ih0, ih1, ih2⟩ := gatehouseref05_Put.mono_l k
  refine ⟨?_, ?_, ?_⟩
  ·intro y0 y1 y2 y3 y4 y5 y6 y7 y8
   unfold gatehouseref05_Put.j0
   repeat' first
   | (with_reducible exact ih0 _ _ _ _ _ _ _ _ _)
   | (with_reducible exact ih1 _ _ _ _ _ _ _ _ _ _ _)
   | (with_reducible exact ih2 _ _ _ _ _ _ _ _ _ _ _ _)
   | (with_reducible exact gatehouseref05_Good.mono _ _ _ _ _ _ _ _)
   | (with_reducible exact gatehouseref05_Right.mono _ _)
   | (with_reducible exact LeO.refl _)
   | (with_reducible exact LeO.none _)
   | (with_reducible refine LeO.ite ?_ ?_)
   | (with_reducible refine LeO.bind ?_ (fun _ => ?_))
   | exact ih0 _ _ _ _ _ _ _ _ _
   | exact ih1 _ _ _ _ _ _ _ _ _ _ _
   | exact ih2 _ _ _ _ _ _ _ _ _ _ _ _
   | exact gatehouseref05_Good.mono _ _ _ _ _ _ _ _
   | exact gatehouseref05_Right.mono _ _
   | exact LeO.none _
   | refine LeO.ite ?_ ?_
   | refine LeO.bind ?_ (fun _ => ?_)
  ·intro y0 y1 y2 y3 y4 y5 y6 y7 y8 y9 y10
   unfold gatehouseref05_Put.l0
   repeat' first
   | (with_reducible exact ih0 _ _ _ _ _ _ _ _ _)
   | (with_reducible exact ih1 _ _ _ _ _ _ _ _ _ _ _)
   | (with_reducible exact ih2 _ _ _ _ _ _ _ _ _ _ _ _)
   | (with_reducible exact gatehouseref05_Good.mono _ _ _ _ _ _ _ _)
   | (with_reducible exact gatehouseref05_Right.mono _ _)
   | (with_reducible exact LeO.refl _)
   | (with_reducible exact LeO.none _)
   | (with_reducible refine LeO.ite ?_ ?_)
   | (with_reducible refine LeO.bind ?_ (fun _ => ?_))
   | exact ih0 _ _ _ _ _ _ _ _ _
   | exact ih1 _ _ _ _ _ _ _ _ _ _ _
   | exact ih2 _ _ _ _ _ _ _ _ _ _ _ _
   | exact gatehouseref05_Good.mono _ _ _ _ _ _ _ _
   | exact gatehouseref05_Right.mono _ _
   | exact LeO.none _
   | refine LeO.ite ?_ ?_
   | refine LeO.bind ?_ (fun _ => ?_)
  ·intro y0 y1 y2 y3 y4 y5 y6 y7 y8 y9 y10 y11
   unfold gatehouseref05_Put.l1
   repeat' first
   | (with_reducible exact ih0 _ _ _ _ _ _ _ _ _)
   | (with_reducible exact ih1 _ _ _ _ _ _ _ _ _ _ _)
   | (with_reducible exact ih2 _ _ _ _ _ _ _ _ _ _ _ _)
   | (with_reducible exact gatehouseref05_Good.mono _ _ _ _ _ _ _ _)
   | (with_reducible exact gatehouseref05_Right.mono _ _)
   | (with_reducible exact LeO.refl _)
   | (with_reducible exact LeO.none _)
   | (with_reducible refine LeO.ite ?_ ?_)
   | (with_reducible refine LeO.bind ?_ (fun _ => ?_))
   | exact ih0 _ _ _ _ _ _ _ _ _
   | exact ih1 _ _ _ _ _ _ _ _ _ _ _
   | exact ih2 _ _ _ _ _ _ _ _ _ _ _ _
   | exact gatehouseref05_Good.mono _ _ _ _ _ _ _ _
   | exact gatehouseref05_Right.mono _ _
   | exact LeO.none _
   | refine LeO.ite ?_ ?_
   | refine LeO.bind ?_ (fun _ => ?_)
theorem gatehouseref05_Put.mono : ∀ a0 a1 a2 a3 a4 a5 a6 a7 k, LeO (gatehouseref05_Put.f k a0 a1 a2 a3 a4 a5 a6 a7) (gatehouseref05_Put.f (k + 1) a0 a1 a2 a3 a4 a5 a6 a7) := by
 intro a0 a1 a2 a3 a4 a5 a6 a7 k
 obtain ⟨ih0, ih1, ih2⟩ := gatehouseref05_Put.mono_l k
 unfold gatehouseref05_Put.f
 repeat' first
   | (with_reducible exact ih0 _ _ _ _ _ _ _ _ _)
   | (with_reducible exact ih1 _ _ _ _ _ _ _ _ _ _ _)
   | (with_reducible exact ih2 _ _ _ _ _ _ _ _ _ _ _ _)
   | (with_reducible exact gatehouseref05_Good.mono _ _ _ _ _ _ _ _)
   | (with_reducible exact gatehouseref05_Right.mono _ _)
   | (with_reducible exact LeO.refl _)
   | (with_reducible exact LeO.none _)
   | (with_reducible refine LeO.ite ?_ ?_)
   | (with_reducible refine LeO.bind ?_ (fun _ => ?_))
   | exact ih0 _ _ _ _ _ _ _ _ _
   | exact ih1 _ _ _ _ _ _ _ _ _ _ _
   | exact ih2 _ _ _ _ _ _ _ _ _ _ _ _
   | exact gatehouseref05_Good.mono _ _ _ _ _ _ _ _
   | exact gatehouseref05_Right.mono _ _
   | exact LeO.none _
   | refine LeO.ite ?_ ?_
   | refine LeO.bind ?_ (fun _ => ?_)
set_option maxHeartbeats 8000000 in
set_option maxRecDepth 100000 in
theorem gatehouseref05_Put.calls (k : Nat) (A0 : Option Addr) (c0 : Nat) (l0 : List (S31)) (a1_0 : Int) (a1_1 : Int) (a1_2 : Int) (a1_3 : Int) (a1_4 : Int) (a1_5 : Bool) (a1_6 : Bool) (r1 : List (S31)) (r2 : Int) (w : World) (hr0 : Kd.C k31 w A0 l0.length l0) (hc0 : l0.length ≤ c0) (h : gatehouseref05_Put.f k l0 a1_0 a1_1 a1_2 a1_3 a1_4 a1_5 a1_6 = some (r1, r2)) :
  Calls Try.prog 15 #[.slice A0 l0.length c0, .agg #[.int .i64 a1_0, .int .i64 a1_1, .int .i64 a1_2, .int .i64 a1_3, .int .i64 a1_4, .bool a1_5, .bool a1_6]] w fun e w' => ∃ v0_ : Value, e = .returned (.tuple #[v0_, .int .i64 r2]) ∧ Kd.R k31 31 w' w.heap.size (fun _ => True) v0_ r1 ∧ Below w.heap.size w w' := by
 have hu31 := Try.underlying31
 have HR0 := am_ hr0
 have HC0 := am_ hc0
 clear hr0 hc0
 have HB := am_ (Below.refl w.heap.size w)
 have H : ((gatehouseref05_Right.f k l0).bind fun t248 => (if t248 = true then ((gatehouseref05_Good.f k a1_0 a1_1 a1_2 a1_3 a1_4 a1_5 a1_6).bind fun t249 => (gatehouseref05_Put.j0 k l0 (!t249) a1_0 a1_1 a1_2 a1_3 a1_4 a1_5 a1_6)) else (gatehouseref05_Put.j0 k l0 true a1_0 a1_1 a1_2 a1_3 a1_4 a1_5 a1_6))) = some (r1, r2) := h
 clear h
 have HC3 := am_ H
 clear H
 go_enter Try.func15, Try.ntmps15
 go_upto_region 1 with (first | ((with_reducible refine gate_dst (N := 3) rfl ?_); refine box_event ?hg (N := 3) ?hd (cs := #[.int .i64 a1_0, .int .i64 a1_1, .int .i64 a1_2, .int .i64 a1_3, .int .i64 a1_4, .bool a1_5, .bool a1_6]) (t := 31) ?hr ?_; (case hd => rfl); (case hg => rfl); (case hr => first | (go_simp; done) | (go_simp; rfl)); intro gb247 hg w4 hbox hb; have n0_ := am_ (below_step (by repeat (first | (with_reducible first | exact HB.out | apply ba_ | apply bn_ | apply bd_) | exact HB.out)) hb); have n1_ := am_ (hbox); have n2_ := am_ ((by rw [hg]; exact (below_size (by repeat (first | (with_reducible first | exact HB.out | apply ba_ | apply bn_ | apply bd_) | exact HB.out))) : w.heap.size ≤ gb247)); have n3_ := am_ ((by rw [hg]; exact (below_size (by repeat (first | (with_reducible first | exact HB.out | apply ba_ | apply bn_ | apply bd_) | exact HB.out))) : w.heap.size ≤ gb247)); clear HB; have HB := n0_; have BK247 := n1_; have GW247 := n2_; have GE247 := n3_; clear n0_ n1_ n2_ n3_; clear hb hbox hg))
 (try simp only [Act.put, List.setIfInBounds_toArray, List.set_cons_zero, List.set_cons_succ])
 go_cut [19] (fun v19 wc => ∃ (kq : Nat) (x19_2 : Bool), v19 = .bool x19_2 ∧ Aside0 (gatehouseref05_Put.j0 kq l0 x19_2 a1_0 a1_1 a1_2 a1_3 a1_4 a1_5 a1_6 = some (r1, r2)) ∧ Aside0 (kq ≤ k) ∧ Aside0 (wc.heap[gb247]? = some (.cells #[.int .i64 a1_0, .int .i64 a1_1, .int .i64 a1_2, .int .i64 a1_3, .int .i64 a1_4, .bool a1_5, .bool a1_6] 31 (0, 0))) ∧ Aside0 (Below w.heap.size w wc))
 case first =>
  have H := HC3.out
  clear HC3
  replace H := Option.bind_eq_some_iff.mp H
  obtain ⟨t248, A50, H⟩ := H
  replace H : (if t248 = true then ((gatehouseref05_Good.f k a1_0 a1_1 a1_2 a1_3 a1_4 a1_5 a1_6).bind fun t249 => (gatehouseref05_Put.j0 k l0 (!t249) a1_0 a1_1 a1_2 a1_3 a1_4 a1_5 a1_6)) else (gatehouseref05_Put.j0 k l0 true a1_0 a1_1 a1_2 a1_3 a1_4 a1_5 a1_6)) = some (r1, r2) := H
  have A5 := am_ A50
  clear A50
  by_cases c6 : t248 = true
  ·subst c6
   have H1 : ((gatehouseref05_Good.f k a1_0 a1_1 a1_2 a1_3 a1_4 a1_5 a1_6).bind fun t249 => (gatehouseref05_Put.j0 k l0 (!t249) a1_0 a1_1 a1_2 a1_3 a1_4 a1_5 a1_6)) = some (r1, r2) := by rw [if_pos rfl] at H; exact H
   clear H
   have H := H1
   clear H1
   replace H := Option.bind_eq_some_iff.mp H
   obtain ⟨t249, A70, H⟩ := H
   replace H : (gatehouseref05_Put.j0 k l0 (!t249) a1_0 a1_1 a1_2 a1_3 a1_4 a1_5 a1_6) = some (r1, r2) := H
   have A7 := am_ A70
   clear A70
   have H' := am_ H
   clear H
   go_wp2_with (first | ((with_reducible refine gate_callee (f := 19) rfl ?_); refine goesL_ (some 13) rfl rfl Try.func19 (by kernel_rfl) rfl #[.slice A0 l0.length c0] rfl (by (try simp only [List.map_toArray, List.map_cons, List.map_nil]); first | done | rfl | (simp only [List.length_drop, List.length_take]; rfl)) ?_; (with_reducible refine (gatehouseref05_Right.calls k _ _ l0 true _ ?side1 ?side2 A5.out).mono ?_); (case side1 => repeat (first | exact (Kd.C_below HR0.out HB.out) | (with_reducible refine ca_ ?_ _) | (with_reducible refine cn_ ?_ _) | (with_reducible refine cd_ ?_))); (case side2 => exact HC0.out); rintro e w8 ⟨rfl, hb⟩; refine ⟨_, rfl, ?_⟩; have n0_ := am_ (blk_below (g := gb247) (o := .cells #[.int .i64 a1_0, .int .i64 a1_1, .int .i64 a1_2, .int .i64 a1_3, .int .i64 a1_4, .bool a1_5, .bool a1_6] 31 (0, 0)) (by (with_reducible repeat (first | refine blk_drewN ?_ _ | refine blk_drew ?_ | refine blk_alloc ?_ _)); exact BK247.out) hb); have n1_ := am_ (below_step (by repeat (first | (with_reducible first | exact HB.out | apply ba_ | apply bn_ | apply bd_ | refine below_set ?_ GE247.out) | exact HB.out)) hb); clear BK247; clear HB; have BK247 := n0_; have HB := n1_; clear n0_ n1_; (try clear hb); (try clear hb2); (try clear hk); (try clear hi); have hcz9_0 : w8.cell? ⟨gb247, 0, none⟩ = some (.int .i64 a1_0) := (blk_cell BK247.out 0).trans rfl; have hcz9_1 : w8.cell? ⟨gb247, 1, none⟩ = some (.int .i64 a1_1) := (blk_cell BK247.out 1).trans rfl; have hcz9_2 : w8.cell? ⟨gb247, 2, none⟩ = some (.int .i64 a1_2) := (blk_cell BK247.out 2).trans rfl; have hcz9_3 : w8.cell? ⟨gb247, 3, none⟩ = some (.int .i64 a1_3) := (blk_cell BK247.out 3).trans rfl; have hcz9_4 : w8.cell? ⟨gb247, 4, none⟩ = some (.int .i64 a1_4) := (blk_cell BK247.out 4).trans rfl; have hcz9_5 : w8.cell? ⟨gb247, 5, none⟩ = some (.bool a1_5) := (blk_cell BK247.out 5).trans rfl; have hcz9_6 : w8.cell? ⟨gb247, 6, none⟩ = some (.bool a1_6) := (blk_cell BK247.out 6).trans rfl; have hfz9_0 := blk_frozen BK247.out 0; have hfz9_1 := blk_frozen BK247.out 1; have hfz9_2 := blk_frozen BK247.out 2; have hfz9_3 := blk_frozen BK247.out 3; have hfz9_4 := blk_frozen BK247.out 4; have hfz9_5 := blk_frozen BK247.out 5; have hfz9_6 := blk_frozen BK247.out 6) | (go_at_call 27; (with_reducible refine (gatehouseref05_Good.calls k a1_0 a1_1 a1_2 a1_3 a1_4 a1_5 a1_6 t249 _ A7.out).mono ?_); rintro e w10 ⟨rfl, hb⟩; have n0_ := am_ (blk_below (g := gb247) (o := .cells #[.int .i64 a1_0, .int .i64 a1_1, .int .i64 a1_2, .int .i64 a1_3, .int .i64 a1_4, .bool a1_5, .bool a1_6] 31 (0, 0)) (by (with_reducible repeat (first | refine blk_drewN ?_ _ | refine blk_drew ?_ | refine blk_alloc ?_ _)); exact BK247.out) hb); have n1_ := am_ (below_step (by repeat (first | (with_reducible first | exact HB.out | apply ba_ | apply bn_ | apply bd_ | refine below_set ?_ GE247.out) | exact HB.out)) hb); clear BK247; clear HB; have BK247 := n0_; have HB := n1_; clear n0_ n1_; (try clear hb); (try clear hb2); (try clear hk); (try clear hi)))
   go_meet
   case rel => exact ⟨_, (!t249), (by first | rfl | (simp; done) | (simp [*]; done)), H', ⟨by first | omega | exact Nat.le_refl _⟩, ⟨by (with_reducible repeat (first | refine blk_drewN ?_ _ | refine blk_drew ?_ | refine blk_alloc ?_ _)); exact BK247.out⟩, ⟨by repeat (first | (with_reducible first | exact HB.out | apply ba_ | apply bn_ | apply bd_ | refine below_set ?_ GE247.out) | exact HB.out)⟩⟩
  ·replace c6 := Bool.eq_false_iff.mpr c6
   subst c6
   have H1 : (gatehouseref05_Put.j0 k l0 true a1_0 a1_1 a1_2 a1_3 a1_4 a1_5 a1_6) = some (r1, r2) := by rw [if_neg (show ¬ (false = true) by decide)] at H; exact H
   clear H
   have H := H1
   clear H1
   have H' := am_ H
   clear H
   go_wp2_with (first | ((with_reducible refine gate_callee (f := 19) rfl ?_); refine goesL_ (some 13) rfl rfl Try.func19 (by kernel_rfl) rfl #[.slice A0 l0.length c0] rfl (by (try simp only [List.map_toArray, List.map_cons, List.map_nil]); first | done | rfl | (simp only [List.length_drop, List.length_take]; rfl)) ?_; (with_reducible refine (gatehouseref05_Right.calls k _ _ l0 false _ ?side1 ?side2 A5.out).mono ?_); (case side1 => repeat (first | exact (Kd.C_below HR0.out HB.out) | (with_reducible refine ca_ ?_ _) | (with_reducible refine cn_ ?_ _) | (with_reducible refine cd_ ?_))); (case side2 => exact HC0.out); rintro e w11 ⟨rfl, hb⟩; refine ⟨_, rfl, ?_⟩; have n0_ := am_ (blk_below (g := gb247) (o := .cells #[.int .i64 a1_0, .int .i64 a1_1, .int .i64 a1_2, .int .i64 a1_3, .int .i64 a1_4, .bool a1_5, .bool a1_6] 31 (0, 0)) (by (with_reducible repeat (first | refine blk_drewN ?_ _ | refine blk_drew ?_ | refine blk_alloc ?_ _)); exact BK247.out) hb); have n1_ := am_ (below_step (by repeat (first | (with_reducible first | exact HB.out | apply ba_ | apply bn_ | apply bd_ | refine below_set ?_ GE247.out) | exact HB.out)) hb); clear BK247; clear HB; have BK247 := n0_; have HB := n1_; clear n0_ n1_; (try clear hb); (try clear hb2); (try clear hk); (try clear hi)))
   go_meet
   case rel => exact ⟨_, (true), (by first | rfl | (simp; done) | (simp [*]; done)), H', ⟨by first | omega | exact Nat.le_refl _⟩, ⟨by (with_reducible repeat (first | refine blk_drewN ?_ _ | refine blk_drew ?_ | refine blk_alloc ?_ _)); exact BK247.out⟩, ⟨by repeat (first | (with_reducible first | exact HB.out | apply ba_ | apply bn_ | apply bd_ | refine below_set ?_ GE247.out) | exact HB.out)⟩⟩
 case rest =>
  clear HC3
  try clear c1
  try clear p2
  try clear c6
  try clear hcz9_0
  try clear hcz9_1
  try clear hcz9_2
  try clear hcz9_3
  try clear hcz9_4
  try clear hcz9_5
  try clear hcz9_6
  try clear hfz9_0
  try clear hfz9_1
  try clear hfz9_2
  try clear hfz9_3
  try clear hfz9_4
  try clear hfz9_5
  try clear hfz9_6
  obtain ⟨kq, x19_2, rfl, HA, HJ2, BK247, HB⟩ := hcut
  cases kq with
  | zero => exact absurd HA.out (by simp [gatehouseref05_Put.j0])
  | succ kj2 =>
   have H := HA.out
   clear HA
   simp only [gatehouseref05_Put.j0] at H
   by_cases c12 : x19_2 = true
   ·subst c12
    have H1 : (some (([] : List (S31)), 1)) = some (r1, r2) := by rw [if_pos rfl] at H; exact H
    clear H
    have H := H1
    clear H1
    simp only [Option.some.injEq, Prod.mk.injEq] at H
    obtain ⟨rfl, rfl⟩ := H
    go_wp2
    go_ret2
    exact ⟨_, by first | rfl | (simp [errW_none, errW_some] <;> rfl) | (simp [*, errW_none, errW_some] <;> rfl), by first | exact Kd.R_nil _ _ _ _ _ | exact Kd.N_nil _ _ _ _ _ | exact Kd.V_nil _ _ _ _ _ | exact Kd.Q_nil _ _ _ _ _ | exact Kd.S_nil _ _ _ _ _, by repeat (first | (with_reducible first | exact HB.out | apply ba_ | apply bn_ | apply bd_ | refine below_set ?_ GE247.out) | exact HB.out)⟩
   ·replace c12 := Bool.eq_false_iff.mpr c12
    subst c12
    have H1 : (gatehouseref05_Put.l0 kj2 l0 l0 (l0.length : Int) 0 a1_0 a1_1 a1_2 a1_3 a1_4 a1_5 a1_6) = some (r1, r2) := by rw [if_neg (show ¬ (false = true) by decide)] at H; exact H
    clear H
    have H := H1
    clear H1
    have H' := am_ H
    clear H
    go_wp2
    go_loopg [22] kj2 (fun kq v22 w' => ∃ (x22_2 : Int), v22 = .int .i64 x22_2 ∧ Aside0 (gatehouseref05_Put.l0 kq l0 l0 (l0.length : Int) x22_2 a1_0 a1_1 a1_2 a1_3 a1_4 a1_5 a1_6 = some (r1, r2)) ∧ Aside0 (kq ≤ kj2) ∧ Aside0 (w'.heap[gb247]? = some (.cells #[.int .i64 a1_0, .int .i64 a1_1, .int .i64 a1_2, .int .i64 a1_3, .int .i64 a1_4, .bool a1_5, .bool a1_6] 31 (0, 0))) ∧ Aside0 (Below w.heap.size w w'))
    case atStart => exact ⟨(0), (by first | rfl | (simp; done) | (simp [*]; done)), H', ⟨Nat.le_refl _⟩, ⟨by (with_reducible repeat (first | refine blk_drewN ?_ _ | refine blk_drew ?_ | refine blk_alloc ?_ _)); exact BK247.out⟩, ⟨by repeat (first | (with_reducible first | exact HB.out | apply ba_ | apply bn_ | apply bd_ | refine below_set ?_ GE247.out) | exact HB.out)⟩⟩
    case round =>
     clear H'
     try clear c1
     try clear p2
     try clear c6
     try clear c12
     try clear hcz9_0
     try clear hcz9_1
     try clear hcz9_2
     try clear hcz9_3
     try clear hcz9_4
     try clear hcz9_5
     try clear hcz9_6
     try clear hfz9_0
     try clear hfz9_1
     try clear hfz9_2
     try clear hfz9_3
     try clear hfz9_4
     try clear hfz9_5
     try clear hfz9_6
     try clear p2
     obtain ⟨x22_2, rfl, HA, HK2, BK247, HB⟩ := hrel
     cases gk with
     | zero => exact absurd HA.out (by simp [gatehouseref05_Put.l0])
     | succ k2 =>
      have H := HA.out
      clear HA
      simp only [gatehouseref05_Put.l0] at H
      by_cases c13 : x22_2 < (l0.length : Int)
      ·rw [if_pos c13] at H
       have c13b0 : decide (x22_2 < (l0.length : Int)) = true := decide_eq_true c13
       clear c13
       by_cases c14 : 0 ≤ x22_2
       ·rw [if_pos c14] at H
        have c14b0 : decide (0 ≤ x22_2) = true := decide_eq_true c14
        clear c14
        by_cases c15 : x22_2 < (l0.length : Int)
        ·rw [if_pos c15] at H
         have c15b0 : decide (x22_2 < (l0.length : Int)) = true := decide_eq_true c15
         clear c15
         replace H := Option.bind_eq_some_iff.mp H
         obtain ⟨t252, A160, H⟩ := H
         replace H : (if t252 = true then (some (([] : List (S31)), 2)) else (gatehouseref05_Put.l0 k2 l0 l0 (l0.length : Int) (wrap64 (x22_2 + 1)) a1_0 a1_1 a1_2 a1_3 a1_4 a1_5 a1_6)) = some (r1, r2) := H
         have A16 := am_ A160
         clear A160
         by_cases c17 : t252 = true
         ·subst c17
          have H1 : (some (([] : List (S31)), 2)) = some (r1, r2) := by rw [if_pos rfl] at H; exact H
          clear H
          have H := H1
          clear H1
          simp only [Option.some.injEq, Prod.mk.injEq] at H
          obtain ⟨rfl, rfl⟩ := H
          have p250 : 0 ≤ (x22_2 : Int) := of_decide_eq_true (by first | (with_reducible assumption) | assumption)
          have q250 : x22_2 < (l0.length : Int) := of_decide_eq_true (by first | (with_reducible assumption) | assumption)
          obtain ⟨ad250, e250, hx250_0, hx250_1, hx250_2, hx250_3, hx250_4, hx250_5, hx250_6⟩ := at_T31 HR0.out x22_2 p250 q250
          cases e250
          replace hx250_0 := (HB.out.cell (World.block_lt_of_cell? w _ hx250_0)).trans hx250_0
          replace hx250_1 := (HB.out.cell (World.block_lt_of_cell? w _ hx250_1)).trans hx250_1
          replace hx250_2 := (HB.out.cell (World.block_lt_of_cell? w _ hx250_2)).trans hx250_2
          replace hx250_3 := (HB.out.cell (World.block_lt_of_cell? w _ hx250_3)).trans hx250_3
          replace hx250_4 := (HB.out.cell (World.block_lt_of_cell? w _ hx250_4)).trans hx250_4
          replace hx250_5 := (HB.out.cell (World.block_lt_of_cell? w _ hx250_5)).trans hx250_5
          replace hx250_6 := (HB.out.cell (World.block_lt_of_cell? w _ hx250_6)).trans hx250_6
          replace p250 := eq_true p250
          replace q250 := eq_true q250
          go_wp2_with (first | ((with_reducible refine gate_dst (N := 7) rfl ?_); refine box_event ?hg (N := 7) ?hd (cs := #[.int .i64 0, .int .i64 0, .int .i64 0, .int .i64 0, .int .i64 0, .bool false, .bool false]) (t := 31) ?hr ?_; (case hd => rfl); (case hg => rfl); (case hr => first | (go_simp; done) | (go_simp; rfl)); intro gb251 hg w18 hbox hb; have n0_ := am_ (blk_below (g := gb247) (o := .cells #[.int .i64 a1_0, .int .i64 a1_1, .int .i64 a1_2, .int .i64 a1_3, .int .i64 a1_4, .bool a1_5, .bool a1_6] 31 (0, 0)) (by (with_reducible repeat (first | refine blk_drewN ?_ _ | refine blk_drew ?_ | refine blk_alloc ?_ _)); exact BK247.out) hb); have n1_ := am_ (below_step (by repeat (first | (with_reducible first | exact HB.out | apply ba_ | apply bn_ | apply bd_ | refine below_set ?_ GE247.out) | exact HB.out)) hb); have n2_ := am_ (hbox); have n3_ := am_ ((by rw [hg]; exact (below_size (by repeat (first | (with_reducible first | exact HB.out | apply ba_ | apply bn_ | apply bd_ | refine below_set ?_ GE247.out) | exact HB.out))) : w.heap.size ≤ gb251)); have n4_ := am_ ((by rw [hg]; exact (below_size (by repeat (first | (with_reducible first | exact HB.out | apply ba_ | apply bn_ | apply bd_ | refine below_set ?_ GE247.out) | exact HB.out))) : w.heap.size ≤ gb251)); have n5_ := am_ ((by rw [hg]; exact Nat.ne_of_lt (blk_lt (g := gb247) (o := .cells #[.int .i64 a1_0, .int .i64 a1_1, .int .i64 a1_2, .int .i64 a1_3, .int .i64 a1_4, .bool a1_5, .bool a1_6] 31 (0, 0)) (by (with_reducible repeat (first | refine blk_drewN ?_ _ | refine blk_drew ?_ | refine blk_alloc ?_ _)); exact BK247.out)) : gb247 ≠ gb251)); have n6_ := am_ ((by rw [hg]; exact Nat.ne_of_gt (blk_lt (g := gb247) (o := .cells #[.int .i64 a1_0, .int .i64 a1_1, .int .i64 a1_2, .int .i64 a1_3, .int .i64 a1_4, .bool a1_5, .bool a1_6] 31 (0, 0)) (by (with_reducible repeat (first | refine blk_drewN ?_ _ | refine blk_drew ?_ | refine blk_alloc ?_ _)); exact BK247.out)) : gb251 ≠ gb247)); clear BK247; clear HB; have BK247 := n0_; have HB := n1_; have BK251 := n2_; have GW251 := n3_; have GE251 := n4_; have NB247_251 := n5_; have NB251_247 := n6_; clear n0_ n1_ n2_ n3_ n4_ n5_ n6_; clear hb hbox hg; have hnb19 := NB251_247.out; have hnc19 := NB247_251.out; have hcz20_0 : w18.cell? ⟨gb251, 0, none⟩ = some (.int .i64 0) := (blk_cell BK251.out 0).trans rfl; have hcz20_1 : w18.cell? ⟨gb251, 1, none⟩ = some (.int .i64 0) := (blk_cell BK251.out 1).trans rfl; have hcz20_2 : w18.cell? ⟨gb251, 2, none⟩ = some (.int .i64 0) := (blk_cell BK251.out 2).trans rfl; have hcz20_3 : w18.cell? ⟨gb251, 3, none⟩ = some (.int .i64 0) := (blk_cell BK251.out 3).trans rfl; have hcz20_4 : w18.cell? ⟨gb251, 4, none⟩ = some (.int .i64 0) := (blk_cell BK251.out 4).trans rfl; have hcz20_5 : w18.cell? ⟨gb251, 5, none⟩ = some (.bool false) := (blk_cell BK251.out 5).trans rfl; have hcz20_6 : w18.cell? ⟨gb251, 6, none⟩ = some (.bool false) := (blk_cell BK251.out 6).trans rfl; have hfz20_0 := blk_frozen BK251.out 0; have hfz20_1 := blk_frozen BK251.out 1; have hfz20_2 := blk_frozen BK251.out 2; have hfz20_3 := blk_frozen BK251.out 3; have hfz20_4 := blk_frozen BK251.out 4; have hfz20_5 := blk_frozen BK251.out 5; have hfz20_6 := blk_frozen BK251.out 6; have hcz21_0 : w18.cell? ⟨gb247, 0, none⟩ = some (.int .i64 a1_0) := (blk_cell BK247.out 0).trans rfl; have hcz21_1 : w18.cell? ⟨gb247, 1, none⟩ = some (.int .i64 a1_1) := (blk_cell BK247.out 1).trans rfl; have hcz21_2 : w18.cell? ⟨gb247, 2, none⟩ = some (.int .i64 a1_2) := (blk_cell BK247.out 2).trans rfl; have hcz21_3 : w18.cell? ⟨gb247, 3, none⟩ = some (.int .i64 a1_3) := (blk_cell BK247.out 3).trans rfl; have hcz21_4 : w18.cell? ⟨gb247, 4, none⟩ = some (.int .i64 a1_4) := (blk_cell BK247.out 4).trans rfl; have hcz21_5 : w18.cell? ⟨gb247, 5, none⟩ = some (.bool a1_5) := (blk_cell BK247.out 5).trans rfl; have hcz21_6 : w18.cell? ⟨gb247, 6, none⟩ = some (.bool a1_6) := (blk_cell BK247.out 6).trans rfl; have hfz21_0 := blk_frozen BK247.out 0; have hfz21_1 := blk_frozen BK247.out 1; have hfz21_2 := blk_frozen BK247.out 2; have hfz21_3 := blk_frozen BK247.out 3; have hfz21_4 := blk_frozen BK247.out 4; have hfz21_5 := blk_frozen BK247.out 5; have hfz21_6 := blk_frozen BK247.out 6) | ((with_reducible refine gate_callee (f := 28) rfl ?_); refine goesL_ (some 28) rfl rfl Try.func28 (by kernel_rfl) rfl #[.agg #[.int .i64 ((rd_T31 l0 x22_2).f0), .int .i64 ((rd_T31 l0 x22_2).f1), .int .i64 ((rd_T31 l0 x22_2).f2), .int .i64 ((rd_T31 l0 x22_2).f3), .int .i64 ((rd_T31 l0 x22_2).f4), .bool ((rd_T31 l0 x22_2).f5), .bool ((rd_T31 l0 x22_2).f6)], .agg #[.int .i64 a1_0, .int .i64 a1_1, .int .i64 a1_2, .int .i64 a1_3, .int .i64 a1_4, .bool a1_5, .bool a1_6]] rfl (by (try simp only [List.map_toArray, List.map_cons, List.map_nil]); first | done | rfl | (simp only [List.length_drop, List.length_take]; rfl)) ?_; (with_reducible refine (gatehouseref05_Meet.calls ((rd_T31 l0 x22_2).f0) ((rd_T31 l0 x22_2).f1) ((rd_T31 l0 x22_2).f2) ((rd_T31 l0 x22_2).f3) ((rd_T31 l0 x22_2).f4) ((rd_T31 l0 x22_2).f5) ((rd_T31 l0 x22_2).f6) a1_0 a1_1 a1_2 a1_3 a1_4 a1_5 a1_6 true _ A16.out).mono ?_); rintro e w22 ⟨rfl, hb⟩; refine ⟨_, rfl, ?_⟩; have n0_ := am_ (blk_below (g := gb247) (o := .cells #[.int .i64 a1_0, .int .i64 a1_1, .int .i64 a1_2, .int .i64 a1_3, .int .i64 a1_4, .bool a1_5, .bool a1_6] 31 (0, 0)) (by (with_reducible repeat (first | refine blk_drewN ?_ _ | refine blk_drew ?_ | refine blk_alloc ?_ _)); refine blk_far ?_ NB247_251.out _; (with_reducible repeat (first | refine blk_drewN ?_ _ | refine blk_drew ?_ | refine blk_alloc ?_ _)); refine blk_far ?_ NB247_251.out _; (with_reducible repeat (first | refine blk_drewN ?_ _ | refine blk_drew ?_ | refine blk_alloc ?_ _)); refine blk_far ?_ NB247_251.out _; (with_reducible repeat (first | refine blk_drewN ?_ _ | refine blk_drew ?_ | refine blk_alloc ?_ _)); refine blk_far ?_ NB247_251.out _; (with_reducible repeat (first | refine blk_drewN ?_ _ | refine blk_drew ?_ | refine blk_alloc ?_ _)); refine blk_far ?_ NB247_251.out _; (with_reducible repeat (first | refine blk_drewN ?_ _ | refine blk_drew ?_ | refine blk_alloc ?_ _)); refine blk_far ?_ NB247_251.out _; (with_reducible repeat (first | refine blk_drewN ?_ _ | refine blk_drew ?_ | refine blk_alloc ?_ _)); refine blk_far ?_ NB247_251.out _; (with_reducible repeat (first | refine blk_drewN ?_ _ | refine blk_drew ?_ | refine blk_alloc ?_ _)); exact BK247.out) hb); have n1_ := am_ (blk_below (g := gb251) (o := .cells #[.int .i64 ((rd_T31 l0 x22_2).f0), .int .i64 ((rd_T31 l0 x22_2).f1), .int .i64 ((rd_T31 l0 x22_2).f2), .int .i64 ((rd_T31 l0 x22_2).f3), .int .i64 ((rd_T31 l0 x22_2).f4), .bool ((rd_T31 l0 x22_2).f5), .bool ((rd_T31 l0 x22_2).f6)] 31 (0, 0)) (by (with_reducible repeat (first | refine blk_drewN ?_ _ | refine blk_drew ?_ | refine blk_alloc ?_ _)); refine blk_put (cs := #[.int .i64 ((rd_T31 l0 x22_2).f0), .int .i64 ((rd_T31 l0 x22_2).f1), .int .i64 ((rd_T31 l0 x22_2).f2), .int .i64 ((rd_T31 l0 x22_2).f3), .int .i64 ((rd_T31 l0 x22_2).f4), .bool ((rd_T31 l0 x22_2).f5), .bool false]) ?_ 6 _ rfl; (with_reducible repeat (first | refine blk_drewN ?_ _ | refine blk_drew ?_ | refine blk_alloc ?_ _)); refine blk_put (cs := #[.int .i64 ((rd_T31 l0 x22_2).f0), .int .i64 ((rd_T31 l0 x22_2).f1), .int .i64 ((rd_T31 l0 x22_2).f2), .int .i64 ((rd_T31 l0 x22_2).f3), .int .i64 ((rd_T31 l0 x22_2).f4), .bool false, .bool false]) ?_ 5 _ rfl; (with_reducible repeat (first | refine blk_drewN ?_ _ | refine blk_drew ?_ | refine blk_alloc ?_ _)); refine blk_put (cs := #[.int .i64 ((rd_T31 l0 x22_2).f0), .int .i64 ((rd_T31 l0 x22_2).f1), .int .i64 ((rd_T31 l0 x22_2).f2), .int .i64 ((rd_T31 l0 x22_2).f3), .int .i64 0, .bool false, .bool false]) ?_ 4 _ rfl; (with_reducible repeat (first | refine blk_drewN ?_ _ | refine blk_drew ?_ | refine blk_alloc ?_ _)); refine blk_put (cs := #[.int .i64 ((rd_T31 l0 x22_2).f0), .int .i64 ((rd_T31 l0 x22_2).f1), .int .i64 ((rd_T31 l0 x22_2).f2), .int .i64 0, .int .i64 0, .bool false, .bool false]) ?_ 3 _ rfl; (with_reducible repeat (first | refine blk_drewN ?_ _ | refine blk_drew ?_ | refine blk_alloc ?_ _)); refine blk_put (cs := #[.int .i64 ((rd_T31 l0 x22_2).f0), .int .i64 ((rd_T31 l0 x22_2).f1), .int .i64 0, .int .i64 0, .int .i64 0, .bool false, .bool false]) ?_ 2 _ rfl; (with_reducible repeat (first | refine blk_drewN ?_ _ | refine blk_drew ?_ | refine blk_alloc ?_ _)); refine blk_put (cs := #[.int .i64 ((rd_T31 l0 x22_2).f0), .int .i64 0, .int .i64 0, .int .i64 0, .int .i64 0, .bool false, .bool false]) ?_ 1 _ rfl; (with_reducible repeat (first | refine blk_drewN ?_ _ | refine blk_drew ?_ | refine blk_alloc ?_ _)); refine blk_put (cs := #[.int .i64 0, .int .i64 0, .int .i64 0, .int .i64 0, .int .i64 0, .bool false, .bool false]) ?_ 0 _ rfl; (with_reducible repeat (first | refine blk_drewN ?_ _ | refine blk_drew ?_ | refine blk_alloc ?_ _)); exact BK251.out) hb); have n2_ := am_ (below_step (by repeat (first | (with_reducible first | exact HB.out | apply ba_ | apply bn_ | apply bd_ | refine below_set ?_ GE247.out | refine below_set ?_ GE251.out) | exact HB.out)) hb); clear BK247; clear BK251; clear HB; have BK247 := n0_; have BK251 := n1_; have HB := n2_; clear n0_ n1_ n2_; (try clear hb); (try clear hb2); (try clear hk); (try clear hi)))
          go_ret2
          exact ⟨_, by first | rfl | (simp [errW_none, errW_some] <;> rfl) | (simp [*, errW_none, errW_some] <;> rfl), by first | exact Kd.R_nil _ _ _ _ _ | exact Kd.N_nil _ _ _ _ _ | exact Kd.V_nil _ _ _ _ _ | exact Kd.Q_nil _ _ _ _ _ | exact Kd.S_nil _ _ _ _ _, by repeat (first | (with_reducible first | exact HB.out | apply ba_ | apply bn_ | apply bd_ | refine below_set ?_ GE247.out | refine below_set ?_ GE251.out) | exact HB.out)⟩
         ·replace c17 := Bool.eq_false_iff.mpr c17
          subst c17
          have H1 : (gatehouseref05_Put.l0 k2 l0 l0 (l0.length : Int) (wrap64 (x22_2 + 1)) a1_0 a1_1 a1_2 a1_3 a1_4 a1_5 a1_6) = some (r1, r2) := by rw [if_neg (show ¬ (false = true) by decide)] at H; exact H
          clear H
          have H := H1
          clear H1
          have H' := am_ H
          clear H
          have p250 : 0 ≤ (x22_2 : Int) := of_decide_eq_true (by first | (with_reducible assumption) | assumption)
          have q250 : x22_2 < (l0.length : Int) := of_decide_eq_true (by first | (with_reducible assumption) | assumption)
          obtain ⟨ad250, e250, hx250_0, hx250_1, hx250_2, hx250_3, hx250_4, hx250_5, hx250_6⟩ := at_T31 HR0.out x22_2 p250 q250
          cases e250
          replace hx250_0 := (HB.out.cell (World.block_lt_of_cell? w _ hx250_0)).trans hx250_0
          replace hx250_1 := (HB.out.cell (World.block_lt_of_cell? w _ hx250_1)).trans hx250_1
          replace hx250_2 := (HB.out.cell (World.block_lt_of_cell? w _ hx250_2)).trans hx250_2
          replace hx250_3 := (HB.out.cell (World.block_lt_of_cell? w _ hx250_3)).trans hx250_3
          replace hx250_4 := (HB.out.cell (World.block_lt_of_cell? w _ hx250_4)).trans hx250_4
          replace hx250_5 := (HB.out.cell (World.block_lt_of_cell? w _ hx250_5)).trans hx250_5
          replace hx250_6 := (HB.out.cell (World.block_lt_of_cell? w _ hx250_6)).trans hx250_6
          replace p250 := eq_true p250
          replace q250 := eq_true q250
          go_wp2_with (first | ((with_reducible refine gate_dst (N := 7) rfl ?_); refine box_event ?hg (N := 7) ?hd (cs := #[.int .i64 0, .int .i64 0, .int .i64 0, .int .i64 0, .int .i64 0, .bool false, .bool false]) (t := 31) ?hr ?_; (case hd => rfl); (case hg => rfl); (case hr => first | (go_simp; done) | (go_simp; rfl)); intro gb251 hg w23 hbox hb; have n0_ := am_ (blk_below (g := gb247) (o := .cells #[.int .i64 a1_0, .int .i64 a1_1, .int .i64 a1_2, .int .i64 a1_3, .int .i64 a1_4, .bool a1_5, .bool a1_6] 31 (0, 0)) (by (with_reducible repeat (first | refine blk_drewN ?_ _ | refine blk_drew ?_ | refine blk_alloc ?_ _)); exact BK247.out) hb); have n1_ := am_ (below_step (by repeat (first | (with_reducible first | exact HB.out | apply ba_ | apply bn_ | apply bd_ | refine below_set ?_ GE247.out) | exact HB.out)) hb); have n2_ := am_ (hbox); have n3_ := am_ ((by rw [hg]; exact (below_size (by repeat (first | (with_reducible first | exact HB.out | apply ba_ | apply bn_ | apply bd_ | refine below_set ?_ GE247.out) | exact HB.out))) : w.heap.size ≤ gb251)); have n4_ := am_ ((by rw [hg]; exact (below_size (by repeat (first | (with_reducible first | exact HB.out | apply ba_ | apply bn_ | apply bd_ | refine below_set ?_ GE247.out) | exact HB.out))) : w.heap.size ≤ gb251)); have n5_ := am_ ((by rw [hg]; exact Nat.ne_of_lt (blk_lt (g := gb247) (o := .cells #[.int .i64 a1_0, .int .i64 a1_1, .int .i64 a1_2, .int .i64 a1_3, .int .i64 a1_4, .bool a1_5, .bool a1_6] 31 (0, 0)) (by (with_reducible repeat (first | refine blk_drewN ?_ _ | refine blk_drew ?_ | refine blk_alloc ?_ _)); exact BK247.out)) : gb247 ≠ gb251)); have n6_ := am_ ((by rw [hg]; exact Nat.ne_of_gt (blk_lt (g := gb247) (o := .cells #[.int .i64 a1_0, .int .i64 a1_1, .int .i64 a1_2, .int .i64 a1_3, .int .i64 a1_4, .bool a1_5, .bool a1_6] 31 (0, 0)) (by (with_reducible repeat (first | refine blk_drewN ?_ _ | refine blk_drew ?_ | refine blk_alloc ?_ _)); exact BK247.out)) : gb251 ≠ gb247)); clear BK247; clear HB; have BK247 := n0_; have HB := n1_; have BK251 := n2_; have GW251 := n3_; have GE251 := n4_; have NB247_251 := n5_; have NB251_247 := n6_; clear n0_ n1_ n2_ n3_ n4_ n5_ n6_; clear hb hbox hg; have hnb24 := NB251_247.out; have hnc24 := NB247_251.out; have hcz25_0 : w23.cell? ⟨gb251, 0, none⟩ = some (.int .i64 0) := (blk_cell BK251.out 0).trans rfl; have hcz25_1 : w23.cell? ⟨gb251, 1, none⟩ = some (.int .i64 0) := (blk_cell BK251.out 1).trans rfl; have hcz25_2 : w23.cell? ⟨gb251, 2, none⟩ = some (.int .i64 0) := (blk_cell BK251.out 2).trans rfl; have hcz25_3 : w23.cell? ⟨gb251, 3, none⟩ = some (.int .i64 0) := (blk_cell BK251.out 3).trans rfl; have hcz25_4 : w23.cell? ⟨gb251, 4, none⟩ = some (.int .i64 0) := (blk_cell BK251.out 4).trans rfl; have hcz25_5 : w23.cell? ⟨gb251, 5, none⟩ = some (.bool false) := (blk_cell BK251.out 5).trans rfl; have hcz25_6 : w23.cell? ⟨gb251, 6, none⟩ = some (.bool false) := (blk_cell BK251.out 6).trans rfl; have hfz25_0 := blk_frozen BK251.out 0; have hfz25_1 := blk_frozen BK251.out 1; have hfz25_2 := blk_frozen BK251.out 2; have hfz25_3 := blk_frozen BK251.out 3; have hfz25_4 := blk_frozen BK251.out 4; have hfz25_5 := blk_frozen BK251.out 5; have hfz25_6 := blk_frozen BK251.out 6; have hcz26_0 : w23.cell? ⟨gb247, 0, none⟩ = some (.int .i64 a1_0) := (blk_cell BK247.out 0).trans rfl; have hcz26_1 : w23.cell? ⟨gb247, 1, none⟩ = some (.int .i64 a1_1) := (blk_cell BK247.out 1).trans rfl; have hcz26_2 : w23.cell? ⟨gb247, 2, none⟩ = some (.int .i64 a1_2) := (blk_cell BK247.out 2).trans rfl; have hcz26_3 : w23.cell? ⟨gb247, 3, none⟩ = some (.int .i64 a1_3) := (blk_cell BK247.out 3).trans rfl; have hcz26_4 : w23.cell? ⟨gb247, 4, none⟩ = some (.int .i64 a1_4) := (blk_cell BK247.out 4).trans rfl; have hcz26_5 : w23.cell? ⟨gb247, 5, none⟩ = some (.bool a1_5) := (blk_cell BK247.out 5).trans rfl; have hcz26_6 : w23.cell? ⟨gb247, 6, none⟩ = some (.bool a1_6) := (blk_cell BK247.out 6).trans rfl; have hfz26_0 := blk_frozen BK247.out 0; have hfz26_1 := blk_frozen BK247.out 1; have hfz26_2 := blk_frozen BK247.out 2; have hfz26_3 := blk_frozen BK247.out 3; have hfz26_4 := blk_frozen BK247.out 4; have hfz26_5 := blk_frozen BK247.out 5; have hfz26_6 := blk_frozen BK247.out 6) | ((with_reducible refine gate_callee (f := 28) rfl ?_); refine goesL_ (some 28) rfl rfl Try.func28 (by kernel_rfl) rfl #[.agg #[.int .i64 ((rd_T31 l0 x22_2).f0), .int .i64 ((rd_T31 l0 x22_2).f1), .int .i64 ((rd_T31 l0 x22_2).f2), .int .i64 ((rd_T31 l0 x22_2).f3), .int .i64 ((rd_T31 l0 x22_2).f4), .bool ((rd_T31 l0 x22_2).f5), .bool ((rd_T31 l0 x22_2).f6)], .agg #[.int .i64 a1_0, .int .i64 a1_1, .int .i64 a1_2, .int .i64 a1_3, .int .i64 a1_4, .bool a1_5, .bool a1_6]] rfl (by (try simp only [List.map_toArray, List.map_cons, List.map_nil]); first | done | rfl | (simp only [List.length_drop, List.length_take]; rfl)) ?_; (with_reducible refine (gatehouseref05_Meet.calls ((rd_T31 l0 x22_2).f0) ((rd_T31 l0 x22_2).f1) ((rd_T31 l0 x22_2).f2) ((rd_T31 l0 x22_2).f3) ((rd_T31 l0 x22_2).f4) ((rd_T31 l0 x22_2).f5) ((rd_T31 l0 x22_2).f6) a1_0 a1_1 a1_2 a1_3 a1_4 a1_5 a1_6 false _ A16.out).mono ?_); rintro e w27 ⟨rfl, hb⟩; refine ⟨_, rfl, ?_⟩; have n0_ := am_ (blk_below (g := gb247) (o := .cells #[.int .i64 a1_0, .int .i64 a1_1, .int .i64 a1_2, .int .i64 a1_3, .int .i64 a1_4, .bool a1_5, .bool a1_6] 31 (0, 0)) (by (with_reducible repeat (first | refine blk_drewN ?_ _ | refine blk_drew ?_ | refine blk_alloc ?_ _)); refine blk_far ?_ NB247_251.out _; (with_reducible repeat (first | refine blk_drewN ?_ _ | refine blk_drew ?_ | refine blk_alloc ?_ _)); refine blk_far ?_ NB247_251.out _; (with_reducible repeat (first | refine blk_drewN ?_ _ | refine blk_drew ?_ | refine blk_alloc ?_ _)); refine blk_far ?_ NB247_251.out _; (with_reducible repeat (first | refine blk_drewN ?_ _ | refine blk_drew ?_ | refine blk_alloc ?_ _)); refine blk_far ?_ NB247_251.out _; (with_reducible repeat (first | refine blk_drewN ?_ _ | refine blk_drew ?_ | refine blk_alloc ?_ _)); refine blk_far ?_ NB247_251.out _; (with_reducible repeat (first | refine blk_drewN ?_ _ | refine blk_drew ?_ | refine blk_alloc ?_ _)); refine blk_far ?_ NB247_251.out _; (with_reducible repeat (first | refine blk_drewN ?_ _ | refine blk_drew ?_ | refine blk_alloc ?_ _)); refine blk_far ?_ NB247_251.out _; (with_reducible repeat (first | refine blk_drewN ?_ _ | refine blk_drew ?_ | refine blk_alloc ?_ _)); exact BK247.out) hb); have n1_ := am_ (blk_below (g := gb251) (o := .cells #[.int .i64 ((rd_T31 l0 x22_2).f0), .int .i64 ((rd_T31 l0 x22_2).f1), .int .i64 ((rd_T31 l0 x22_2).f2), .int .i64 ((rd_T31 l0 x22_2).f3), .int .i64 ((rd_T31 l0 x22_2).f4), .bool ((rd_T31 l0 x22_2).f5), .bool ((rd_T31 l0 x22_2).f6)] 31 (0, 0)) (by (with_reducible repeat (first | refine blk_drewN ?_ _ | refine blk_drew ?_ | refine blk_alloc ?_ _)); refine blk_put (cs := #[.int .i64 ((rd_T31 l0 x22_2).f0), .int .i64 ((rd_T31 l0 x22_2).f1), .int .i64 ((rd_T31 l0 x22_2).f2), .int .i64 ((rd_T31 l0 x22_2).f3), .int .i64 ((rd_T31 l0 x22_2).f4), .bool ((rd_T31 l0 x22_2).f5), .bool false]) ?_ 6 _ rfl; (with_reducible repeat (first | refine blk_drewN ?_ _ | refine blk_drew ?_ | refine blk_alloc ?_ _)); refine blk_put (cs := #[.int .i64 ((rd_T31 l0 x22_2).f0), .int .i64 ((rd_T31 l0 x22_2).f1), .int .i64 ((rd_T31 l0 x22_2).f2), .int .i64 ((rd_T31 l0 x22_2).f3), .int .i64 ((rd_T31 l0 x22_2).f4), .bool false, .bool false]) ?_ 5 _ rfl; (with_reducible repeat (first | refine blk_drewN ?_ _ | refine blk_drew ?_ | refine blk_alloc ?_ _)); refine blk_put (cs := #[.int .i64 ((rd_T31 l0 x22_2).f0), .int .i64 ((rd_T31 l0 x22_2).f1), .int .i64 ((rd_T31 l0 x22_2).f2), .int .i64 ((rd_T31 l0 x22_2).f3), .int .i64 0, .bool false, .bool false]) ?_ 4 _ rfl; (with_reducible repeat (first | refine blk_drewN ?_ _ | refine blk_drew ?_ | refine blk_alloc ?_ _)); refine blk_put (cs := #[.int .i64 ((rd_T31 l0 x22_2).f0), .int .i64 ((rd_T31 l0 x22_2).f1), .int .i64 ((rd_T31 l0 x22_2).f2), .int .i64 0, .int .i64 0, .bool false, .bool false]) ?_ 3 _ rfl; (with_reducible repeat (first | refine blk_drewN ?_ _ | refine blk_drew ?_ | refine blk_alloc ?_ _)); refine blk_put (cs := #[.int .i64 ((rd_T31 l0 x22_2).f0), .int .i64 ((rd_T31 l0 x22_2).f1), .int .i64 0, .int .i64 0, .int .i64 0, .bool false, .bool false]) ?_ 2 _ rfl; (with_reducible repeat (first | refine blk_drewN ?_ _ | refine blk_drew ?_ | refine blk_alloc ?_ _)); refine blk_put (cs := #[.int .i64 ((rd_T31 l0 x22_2).f0), .int .i64 0, .int .i64 0, .int .i64 0, .int .i64 0, .bool false, .bool false]) ?_ 1 _ rfl; (with_reducible repeat (first | refine blk_drewN ?_ _ | refine blk_drew ?_ | refine blk_alloc ?_ _)); refine blk_put (cs := #[.int .i64 0, .int .i64 0, .int .i64 0, .int .i64 0, .int .i64 0, .bool false, .bool false]) ?_ 0 _ rfl; (with_reducible repeat (first | refine blk_drewN ?_ _ | refine blk_drew ?_ | refine blk_alloc ?_ _)); exact BK251.out) hb); have n2_ := am_ (below_step (by repeat (first | (with_reducible first | exact HB.out | apply ba_ | apply bn_ | apply bd_ | refine below_set ?_ GE247.out | refine below_set ?_ GE251.out) | exact HB.out)) hb); clear BK247; clear BK251; clear HB; have BK247 := n0_; have BK251 := n1_; have HB := n2_; clear n0_ n1_ n2_; (try clear hb); (try clear hb2); (try clear hk); (try clear hi)))
          go_roundg k2
          case measure => have := HJ2.out; have := HK2.out; omega
          case rel => exact ⟨(wrap64 (x22_2 + 1)), (by first | rfl | (simp; done) | (simp [*]; done)), H', ⟨by have := HJ2.out; have := HK2.out; omega⟩, ⟨by (with_reducible repeat (first | refine blk_drewN ?_ _ | refine blk_drew ?_ | refine blk_alloc ?_ _)); exact BK247.out⟩, ⟨by repeat (first | (with_reducible first | exact HB.out | apply ba_ | apply bn_ | apply bd_ | refine below_set ?_ GE247.out | refine below_set ?_ GE251.out) | exact HB.out)⟩⟩
        ·rw [if_neg c15] at H
         exact absurd H (by simp)
       ·rw [if_neg c14] at H
        exact absurd H (by simp)
      ·rw [if_neg c13] at H
       have c13b0 : decide (x22_2 < (l0.length : Int)) = false := decide_eq_false c13
       clear c13
       by_cases c28 : (l0.length : Int) = 16
       ·rw [if_pos c28] at H
        have c28b0 : ((l0.length : Int) == 16) = true := beq_iff_eq.mpr c28
        have c28b1 : ((l0.length : Int) != 16) = false := bne_eq_false_iff_eq.mpr c28
        clear c28
        simp only [Option.some.injEq, Prod.mk.injEq] at H
        obtain ⟨rfl, rfl⟩ := H
        go_wp2
        go_ret2
        exact ⟨_, by first | rfl | (simp [errW_none, errW_some] <;> rfl) | (simp [*, errW_none, errW_some] <;> rfl), by first | exact Kd.R_nil _ _ _ _ _ | exact Kd.N_nil _ _ _ _ _ | exact Kd.V_nil _ _ _ _ _ | exact Kd.Q_nil _ _ _ _ _ | exact Kd.S_nil _ _ _ _ _, by repeat (first | (with_reducible first | exact HB.out | apply ba_ | apply bn_ | apply bd_ | refine below_set ?_ GE247.out) | exact HB.out)⟩
       ·rw [if_neg c28] at H
        have c28b0 : ((l0.length : Int) == 16) = false := beq_eq_false_iff_ne.mpr c28
        have c28b1 : ((l0.length : Int) != 16) = true := bne_iff_ne.mpr c28
        obtain ⟨y253, hy253⟩ : ∃ y_ : List (S31), y_ = (([] : List (S31))) := ⟨_, rfl⟩
        replace H : (gatehouseref05_Put.l1 k2 y253 false l0 (l0.length : Int) 0 a1_0 a1_1 a1_2 a1_3 a1_4 a1_5 a1_6) = some (r1, r2) := by first | (rw [hy253]; with_reducible exact H) | (have H2_ := (Option.bind_some _ _).symm.trans H; rw [hy253]; with_reducible exact H2_) | (have H2_ := (Option.bind_some _ _).symm.trans H; with_reducible exact H2_) | with_reducible exact H | (rw [hy253]; exact H) | exact H
        have Ny253 := am_ hy253
        clear hy253
        have H' := am_ H
        clear H
        go_wp2_with (first | ((with_reducible refine gate_dst (N := 33) rfl ?_); refine Kd.R_lit k31 _ 31 ?hg (N := 33) ?hd (xs := ([] : List (S31))) (inner := []) (ok := fun _ => True) (okp := fun _ => True) ?hr ?hp (fun _ hk => hk) trivial (Below.refl _ _) (Nat.le_refl _) (by simp) ?_; (case hd => rfl); (case hg => rfl); (case hr => first | (go_simp; done) | (go_simp; rfl)); (case hp => exact (Reps.none _ _)); intro v254 w29 ho30 hb hg_ hnew_; clear hg_ hnew_; (first | rw [← Ny253.out] at ho30 | (simp only [Int.reduceToNat] at ho30; rw [← Ny253.out] at ho30)); have n0_ := am_ (Kd.R_lower (Kd.R_newB ho30 (g := gb247) (o := .cells #[.int .i64 a1_0, .int .i64 a1_1, .int .i64 a1_2, .int .i64 a1_3, .int .i64 a1_4, .bool a1_5, .bool a1_6] 31 (0, 0)) (by (with_reducible repeat (first | refine blk_drewN ?_ _ | refine blk_drew ?_ | refine blk_alloc ?_ _)); exact BK247.out)) (below_size (by repeat (first | (with_reducible first | exact HB.out | apply ba_ | apply bn_ | apply bd_ | refine below_set ?_ GE247.out) | exact HB.out)))); have n1_ := am_ (blk_below (g := gb247) (o := .cells #[.int .i64 a1_0, .int .i64 a1_1, .int .i64 a1_2, .int .i64 a1_3, .int .i64 a1_4, .bool a1_5, .bool a1_6] 31 (0, 0)) (by (with_reducible repeat (first | refine blk_drewN ?_ _ | refine blk_drew ?_ | refine blk_alloc ?_ _)); exact BK247.out) hb); have n2_ := am_ (below_step (by repeat (first | (with_reducible first | exact HB.out | apply ba_ | apply bn_ | apply bd_ | refine below_set ?_ GE247.out) | exact HB.out)) hb); clear BK247; clear HB; have HO255 := n0_; have BK247 := n1_; have HB := n2_; clear n0_ n1_ n2_; clear hb ho30))
        go_loopg [8, 9, 36] k2 (fun kq v8 v9 v36 w' => ∃ (x8_3 : List (S31)) (x9_3 : Bool) (x36_3 : Int), v9 = .bool x9_3 ∧ v36 = .int .i64 x36_3 ∧ Aside0 (gatehouseref05_Put.l1 kq x8_3 x9_3 l0 (l0.length : Int) x36_3 a1_0 a1_1 a1_2 a1_3 a1_4 a1_5 a1_6 = some (r1, r2)) ∧ Aside0 (kq ≤ k2) ∧ Aside0 (Kd.R k31 31 w' w.heap.size (fun k_ => k_ ≠ gb247) v8 x8_3) ∧ Aside0 (w'.heap[gb247]? = some (.cells #[.int .i64 a1_0, .int .i64 a1_1, .int .i64 a1_2, .int .i64 a1_3, .int .i64 a1_4, .bool a1_5, .bool a1_6] 31 (0, 0))) ∧ Aside0 (Below w.heap.size w w'))
        case atStart => exact ⟨(y253), (false), (0), (by first | rfl | (simp; done) | (simp [*]; done)), (by first | rfl | (simp; done) | (simp [*]; done)), H', ⟨Nat.le_refl _⟩, ⟨by (with_reducible repeat (first | apply ra_ | apply rn_ | apply rd1_)); exact Kd.R_mono HO255.out (fun _ hk => hk.2)⟩, ⟨by (with_reducible repeat (first | refine blk_drewN ?_ _ | refine blk_drew ?_ | refine blk_alloc ?_ _)); exact BK247.out⟩, ⟨by repeat (first | (with_reducible first | exact HB.out | apply ba_ | apply bn_ | apply bd_ | refine below_set ?_ GE247.out) | exact HB.out)⟩⟩
        case round =>
         clear H'
         try clear c1
         try clear c2
         try clear p2
         try clear q2
         try clear hx2
         try clear c6
         try clear p6
         try clear c12
         try clear c13
         try clear c13b0
         try clear c14
         try clear c14b0
         try clear c15
         try clear c15b0
         try clear c17
         try clear c19
         try clear c24
         try clear p25
         try clear q25
         try clear hx25
         try clear c28
         try clear c28b0
         try clear c28b1
         try clear hcz20_0
         try clear hcz20_1
         try clear hcz20_2
         try clear hcz20_3
         try clear hcz20_4
         try clear hcz20_5
         try clear hcz20_6
         try clear hcz21_0
         try clear hcz21_1
         try clear hcz21_2
         try clear hcz21_3
         try clear hcz21_4
         try clear hcz21_5
         try clear hcz21_6
         try clear hcz25_0
         try clear hcz25_1
         try clear hcz25_2
         try clear hcz25_3
         try clear hcz25_4
         try clear hcz25_5
         try clear hcz25_6
         try clear hcz26_0
         try clear hcz26_1
         try clear hcz26_2
         try clear hcz26_3
         try clear hcz26_4
         try clear hcz26_5
         try clear hcz26_6
         try clear hcz9_0
         try clear hcz9_1
         try clear hcz9_2
         try clear hcz9_3
         try clear hcz9_4
         try clear hcz9_5
         try clear hcz9_6
         try clear hfz20_0
         try clear hfz20_1
         try clear hfz20_2
         try clear hfz20_3
         try clear hfz20_4
         try clear hfz20_5
         try clear hfz20_6
         try clear hfz21_0
         try clear hfz21_1
         try clear hfz21_2
         try clear hfz21_3
         try clear hfz21_4
         try clear hfz21_5
         try clear hfz21_6
         try clear hfz25_0
         try clear hfz25_1
         try clear hfz25_2
         try clear hfz25_3
         try clear hfz25_4
         try clear hfz25_5
         try clear hfz25_6
         try clear hfz26_0
         try clear hfz26_1
         try clear hfz26_2
         try clear hfz26_3
         try clear hfz26_4
         try clear hfz26_5
         try clear hfz26_6
         try clear hfz9_0
         try clear hfz9_1
         try clear hfz9_2
         try clear hfz9_3
         try clear hfz9_4
         try clear hfz9_5
         try clear hfz9_6
         try clear hx250_0
         try clear hx250_1
         try clear hx250_2
         try clear hx250_3
         try clear hx250_4
         try clear hx250_5
         try clear hx250_6
         try clear p2
         try clear p250
         try clear q250
         obtain ⟨x8_3, x9_3, x36_3, rfl, rfl, HA, HK3, HO_8, BK247, HB⟩ := hrel
         cases gk with
         | zero => exact absurd HA.out (by simp [gatehouseref05_Put.l1])
         | succ k3 =>
          have H := HA.out
          clear HA
          simp only [gatehouseref05_Put.l1] at H
          by_cases c31 : x36_3 < (l0.length : Int)
          ·rw [if_pos c31] at H
           have c31b0 : decide (x36_3 < (l0.length : Int)) = true := decide_eq_true c31
           clear c31
           by_cases c32 : 0 ≤ x36_3
           ·rw [if_pos c32] at H
            have c32b0 : decide (0 ≤ x36_3) = true := decide_eq_true c32
            clear c32
            by_cases c33 : x36_3 < (l0.length : Int)
            ·rw [if_pos c33] at H
             have c33b0 : decide (x36_3 < (l0.length : Int)) = true := decide_eq_true c33
             clear c33
             by_cases c34 : x9_3 = true
             ·subst c34
              have H1 : (if x8_3.length < 2932031007402 then (gatehouseref05_Put.l1 k3 (x8_3 ++ [(⟨(rd_T31 l0 x36_3).f0, (rd_T31 l0 x36_3).f1, (rd_T31 l0 x36_3).f2, (rd_T31 l0 x36_3).f3, (rd_T31 l0 x36_3).f4, (rd_T31 l0 x36_3).f5, (rd_T31 l0 x36_3).f6⟩ : S31)]) true l0 (l0.length : Int) (wrap64 (x36_3 + 1)) a1_0 a1_1 a1_2 a1_3 a1_4 a1_5 a1_6) else (none)) = some (r1, r2) := by rw [if_pos rfl] at H; exact H
              clear H
              have H := H1
              clear H1
              by_cases c35 : x8_3.length < 2932031007402
              ·rw [if_pos c35] at H
               have LMc35 := am_ c35
               clear c35
               obtain ⟨y258, hy258⟩ : ∃ y_ : List (S31), y_ = (x8_3 ++ [(⟨(rd_T31 l0 x36_3).f0, (rd_T31 l0 x36_3).f1, (rd_T31 l0 x36_3).f2, (rd_T31 l0 x36_3).f3, (rd_T31 l0 x36_3).f4, (rd_T31 l0 x36_3).f5, (rd_T31 l0 x36_3).f6⟩ : S31)]) := ⟨_, rfl⟩
               replace H : (gatehouseref05_Put.l1 k3 y258 true l0 (l0.length : Int) (wrap64 (x36_3 + 1)) a1_0 a1_1 a1_2 a1_3 a1_4 a1_5 a1_6) = some (r1, r2) := by first | (rw [hy258]; with_reducible exact H) | (have H2_ := (Option.bind_some _ _).symm.trans H; rw [hy258]; with_reducible exact H2_) | (have H2_ := (Option.bind_some _ _).symm.trans H; with_reducible exact H2_) | with_reducible exact H | (rw [hy258]; exact H) | exact H
               have Ny258 := am_ hy258
               clear hy258
               have H' := am_ H
               clear H
               have p256 : 0 ≤ (x36_3 : Int) := of_decide_eq_true (by first | (with_reducible assumption) | assumption)
               have q256 : x36_3 < (l0.length : Int) := of_decide_eq_true (by first | (with_reducible assumption) | assumption)
               obtain ⟨ad256, e256, hx256_0, hx256_1, hx256_2, hx256_3, hx256_4, hx256_5, hx256_6⟩ := at_T31 HR0.out x36_3 p256 q256
               cases e256
               replace hx256_0 := (HB.out.cell (World.block_lt_of_cell? w _ hx256_0)).trans hx256_0
               replace hx256_1 := (HB.out.cell (World.block_lt_of_cell? w _ hx256_1)).trans hx256_1
               replace hx256_2 := (HB.out.cell (World.block_lt_of_cell? w _ hx256_2)).trans hx256_2
               replace hx256_3 := (HB.out.cell (World.block_lt_of_cell? w _ hx256_3)).trans hx256_3
               replace hx256_4 := (HB.out.cell (World.block_lt_of_cell? w _ hx256_4)).trans hx256_4
               replace hx256_5 := (HB.out.cell (World.block_lt_of_cell? w _ hx256_5)).trans hx256_5
               replace hx256_6 := (HB.out.cell (World.block_lt_of_cell? w _ hx256_6)).trans hx256_6
               replace p256 := eq_true p256
               replace q256 := eq_true q256
               go_wp2_with (first | ((with_reducible refine gate_dst (N := 11) rfl ?_); refine box_event ?hg (N := 11) ?hd (cs := #[.int .i64 0, .int .i64 0, .int .i64 0, .int .i64 0, .int .i64 0, .bool false, .bool false]) (t := 31) ?hr ?_; (case hd => rfl); (case hg => rfl); (case hr => first | (go_simp; done) | (go_simp; rfl)); intro gb257 hg w36 hbox hb; have n0_ := am_ (Kd.R_below (Kd.R_elderB (by (with_reducible repeat (first | apply ra_ | apply rn_ | apply rd1_)); exact HO_8.out) gb257 (Nat.le_of_eq hg.symm)) hb); have n1_ := am_ (blk_below (g := gb247) (o := .cells #[.int .i64 a1_0, .int .i64 a1_1, .int .i64 a1_2, .int .i64 a1_3, .int .i64 a1_4, .bool a1_5, .bool a1_6] 31 (0, 0)) (by (with_reducible repeat (first | refine blk_drewN ?_ _ | refine blk_drew ?_ | refine blk_alloc ?_ _)); exact BK247.out) hb); have n2_ := am_ (below_step (by repeat (first | (with_reducible first | exact HB.out | apply ba_ | apply bn_ | apply bd_ | refine below_set ?_ GE247.out) | exact HB.out)) hb); have n3_ := am_ (hbox); have n4_ := am_ ((by rw [hg]; exact (below_size (by repeat (first | (with_reducible first | exact HB.out | apply ba_ | apply bn_ | apply bd_ | refine below_set ?_ GE247.out) | exact HB.out))) : w.heap.size ≤ gb257)); have n5_ := am_ ((by rw [hg]; exact (below_size (by repeat (first | (with_reducible first | exact HB.out | apply ba_ | apply bn_ | apply bd_ | refine below_set ?_ GE247.out) | exact HB.out))) : w.heap.size ≤ gb257)); have n6_ := am_ ((by rw [hg]; exact Nat.ne_of_lt (blk_lt (g := gb247) (o := .cells #[.int .i64 a1_0, .int .i64 a1_1, .int .i64 a1_2, .int .i64 a1_3, .int .i64 a1_4, .bool a1_5, .bool a1_6] 31 (0, 0)) (by (with_reducible repeat (first | refine blk_drewN ?_ _ | refine blk_drew ?_ | refine blk_alloc ?_ _)); exact BK247.out)) : gb247 ≠ gb257)); have n7_ := am_ ((by rw [hg]; exact Nat.ne_of_gt (blk_lt (g := gb247) (o := .cells #[.int .i64 a1_0, .int .i64 a1_1, .int .i64 a1_2, .int .i64 a1_3, .int .i64 a1_4, .bool a1_5, .bool a1_6] 31 (0, 0)) (by (with_reducible repeat (first | refine blk_drewN ?_ _ | refine blk_drew ?_ | refine blk_alloc ?_ _)); exact BK247.out)) : gb257 ≠ gb247)); clear HO_8; clear BK247; clear HB; have HO_8 := n0_; have BK247 := n1_; have HB := n2_; have BK257 := n3_; have GW257 := n4_; have GE257 := n5_; have NB247_257 := n6_; have NB257_247 := n7_; clear n0_ n1_ n2_ n3_ n4_ n5_ n6_ n7_; clear hb hbox hg; have hnb37 := NB257_247.out; have hnc37 := NB247_257.out; have hcz38_0 : w36.cell? ⟨gb257, 0, none⟩ = some (.int .i64 0) := (blk_cell BK257.out 0).trans rfl; have hcz38_1 : w36.cell? ⟨gb257, 1, none⟩ = some (.int .i64 0) := (blk_cell BK257.out 1).trans rfl; have hcz38_2 : w36.cell? ⟨gb257, 2, none⟩ = some (.int .i64 0) := (blk_cell BK257.out 2).trans rfl; have hcz38_3 : w36.cell? ⟨gb257, 3, none⟩ = some (.int .i64 0) := (blk_cell BK257.out 3).trans rfl; have hcz38_4 : w36.cell? ⟨gb257, 4, none⟩ = some (.int .i64 0) := (blk_cell BK257.out 4).trans rfl; have hcz38_5 : w36.cell? ⟨gb257, 5, none⟩ = some (.bool false) := (blk_cell BK257.out 5).trans rfl; have hcz38_6 : w36.cell? ⟨gb257, 6, none⟩ = some (.bool false) := (blk_cell BK257.out 6).trans rfl; have hfz38_0 := blk_frozen BK257.out 0; have hfz38_1 := blk_frozen BK257.out 1; have hfz38_2 := blk_frozen BK257.out 2; have hfz38_3 := blk_frozen BK257.out 3; have hfz38_4 := blk_frozen BK257.out 4; have hfz38_5 := blk_frozen BK257.out 5; have hfz38_6 := blk_frozen BK257.out 6) | ((with_reducible refine gate_builtin (b := .append) (xs := #[.tmp 53, .tmp 55]) rfl ?_); at_builtin; refine Kd.R_append k31 (w0 := w) w.heap.size rfl (.tmp 53) (.tmp 55) 22 31 (.agg #[(.int .i64 0), (.int .i64 0), (.int .i64 0), (.int .i64 0), (.int .i64 0), (.bool false), (.bool false)]) 48 rfl Try.underlying22 info31 rfl (by decide) (by omega) u8 x8_3 (⟨(rd_T31 l0 x36_3).f0, (rd_T31 l0 x36_3).f1, (rd_T31 l0 x36_3).f2, (rd_T31 l0 x36_3).f3, (rd_T31 l0 x36_3).f4, (rd_T31 l0 x36_3).f5, (rd_T31 l0 x36_3).f6⟩ : S31) [.int .i64 ((rd_T31 l0 x36_3).f0), .int .i64 ((rd_T31 l0 x36_3).f1), .int .i64 ((rd_T31 l0 x36_3).f2), .int .i64 ((rd_T31 l0 x36_3).f3), .int .i64 ((rd_T31 l0 x36_3).f4), .bool ((rd_T31 l0 x36_3).f5), .bool ((rd_T31 l0 x36_3).f6)] (fun k_ => k_ ≠ gb247 ∧ k_ ≠ gb257) (fun _ => False) rfl (by first | (go_simp; done) | (go_simp; rfl)) ?aP (fun _ hk => hk.elim) ?aF ?aO ?aB ?aS ?aL ?_; (case aP => exact k31_mkM _ _ _ (⟨(rd_T31 l0 x36_3).f0, (rd_T31 l0 x36_3).f1, (rd_T31 l0 x36_3).f2, (rd_T31 l0 x36_3).f3, (rd_T31 l0 x36_3).f4, (rd_T31 l0 x36_3).f5, (rd_T31 l0 x36_3).f6⟩ : S31)); (case aB => exact (by repeat (first | (with_reducible first | exact HB.out | apply ba_ | apply bn_ | apply bd_ | refine below_set ?_ GE247.out | refine below_set ?_ GE257.out) | exact HB.out))); (case aF => exact (fun k_ hk => ⟨Kd.freshB (g := gb247) (o := .cells #[.int .i64 a1_0, .int .i64 a1_1, .int .i64 a1_2, .int .i64 a1_3, .int .i64 a1_4, .bool a1_5, .bool a1_6] 31 (0, 0)) (by (with_reducible repeat (first | refine blk_drewN ?_ _ | refine blk_drew ?_ | refine blk_alloc ?_ _)); refine blk_far ?_ NB247_257.out _; (with_reducible repeat (first | refine blk_drewN ?_ _ | refine blk_drew ?_ | refine blk_alloc ?_ _)); refine blk_far ?_ NB247_257.out _; (with_reducible repeat (first | refine blk_drewN ?_ _ | refine blk_drew ?_ | refine blk_alloc ?_ _)); refine blk_far ?_ NB247_257.out _; (with_reducible repeat (first | refine blk_drewN ?_ _ | refine blk_drew ?_ | refine blk_alloc ?_ _)); refine blk_far ?_ NB247_257.out _; (with_reducible repeat (first | refine blk_drewN ?_ _ | refine blk_drew ?_ | refine blk_alloc ?_ _)); refine blk_far ?_ NB247_257.out _; (with_reducible repeat (first | refine blk_drewN ?_ _ | refine blk_drew ?_ | refine blk_alloc ?_ _)); refine blk_far ?_ NB247_257.out _; (with_reducible repeat (first | refine blk_drewN ?_ _ | refine blk_drew ?_ | refine blk_alloc ?_ _)); refine blk_far ?_ NB247_257.out _; (with_reducible repeat (first | refine blk_drewN ?_ _ | refine blk_drew ?_ | refine blk_alloc ?_ _)); exact BK247.out) k_ hk, Kd.freshB (g := gb257) (o := .cells #[.int .i64 ((rd_T31 l0 x36_3).f0), .int .i64 ((rd_T31 l0 x36_3).f1), .int .i64 ((rd_T31 l0 x36_3).f2), .int .i64 ((rd_T31 l0 x36_3).f3), .int .i64 ((rd_T31 l0 x36_3).f4), .bool ((rd_T31 l0 x36_3).f5), .bool ((rd_T31 l0 x36_3).f6)] 31 (0, 0)) (by (with_reducible repeat (first | refine blk_drewN ?_ _ | refine blk_drew ?_ | refine blk_alloc ?_ _)); refine blk_put (cs := #[.int .i64 ((rd_T31 l0 x36_3).f0), .int .i64 ((rd_T31 l0 x36_3).f1), .int .i64 ((rd_T31 l0 x36_3).f2), .int .i64 ((rd_T31 l0 x36_3).f3), .int .i64 ((rd_T31 l0 x36_3).f4), .bool ((rd_T31 l0 x36_3).f5), .bool false]) ?_ 6 _ rfl; (with_reducible repeat (first | refine blk_drewN ?_ _ | refine blk_drew ?_ | refine blk_alloc ?_ _)); refine blk_put (cs := #[.int .i64 ((rd_T31 l0 x36_3).f0), .int .i64 ((rd_T31 l0 x36_3).f1), .int .i64 ((rd_T31 l0 x36_3).f2), .int .i64 ((rd_T31 l0 x36_3).f3), .int .i64 ((rd_T31 l0 x36_3).f4), .bool false, .bool false]) ?_ 5 _ rfl; (with_reducible repeat (first | refine blk_drewN ?_ _ | refine blk_drew ?_ | refine blk_alloc ?_ _)); refine blk_put (cs := #[.int .i64 ((rd_T31 l0 x36_3).f0), .int .i64 ((rd_T31 l0 x36_3).f1), .int .i64 ((rd_T31 l0 x36_3).f2), .int .i64 ((rd_T31 l0 x36_3).f3), .int .i64 0, .bool false, .bool false]) ?_ 4 _ rfl; (with_reducible repeat (first | refine blk_drewN ?_ _ | refine blk_drew ?_ | refine blk_alloc ?_ _)); refine blk_put (cs := #[.int .i64 ((rd_T31 l0 x36_3).f0), .int .i64 ((rd_T31 l0 x36_3).f1), .int .i64 ((rd_T31 l0 x36_3).f2), .int .i64 0, .int .i64 0, .bool false, .bool false]) ?_ 3 _ rfl; (with_reducible repeat (first | refine blk_drewN ?_ _ | refine blk_drew ?_ | refine blk_alloc ?_ _)); refine blk_put (cs := #[.int .i64 ((rd_T31 l0 x36_3).f0), .int .i64 ((rd_T31 l0 x36_3).f1), .int .i64 0, .int .i64 0, .int .i64 0, .bool false, .bool false]) ?_ 2 _ rfl; (with_reducible repeat (first | refine blk_drewN ?_ _ | refine blk_drew ?_ | refine blk_alloc ?_ _)); refine blk_put (cs := #[.int .i64 ((rd_T31 l0 x36_3).f0), .int .i64 0, .int .i64 0, .int .i64 0, .int .i64 0, .bool false, .bool false]) ?_ 1 _ rfl; (with_reducible repeat (first | refine blk_drewN ?_ _ | refine blk_drew ?_ | refine blk_alloc ?_ _)); refine blk_put (cs := #[.int .i64 0, .int .i64 0, .int .i64 0, .int .i64 0, .int .i64 0, .bool false, .bool false]) ?_ 0 _ rfl; (with_reducible repeat (first | refine blk_drewN ?_ _ | refine blk_drew ?_ | refine blk_alloc ?_ _)); exact BK257.out) k_ hk⟩)); (case aO => exact (by (with_reducible repeat (first | apply ra_ | apply rn_ | apply rd1_)); exact Kd.R_mono (Kd.R_far (p := ⟨gb257, 6, none⟩) (Kd.R_far (p := ⟨gb257, 5, none⟩) (Kd.R_far (p := ⟨gb257, 4, none⟩) (Kd.R_far (p := ⟨gb257, 3, none⟩) (Kd.R_far (p := ⟨gb257, 2, none⟩) (Kd.R_far (p := ⟨gb257, 1, none⟩) (Kd.R_far (p := ⟨gb257, 0, none⟩) (Kd.R_mono HO_8.out (fun k_ hk => (⟨hk, hk.2⟩ : _ ∧ k_ ≠ gb257))) (fun _ hk => hk.2) (.int .i64 ((rd_T31 l0 x36_3).f0))) (fun _ hk => hk.2) (.int .i64 ((rd_T31 l0 x36_3).f1))) (fun _ hk => hk.2) (.int .i64 ((rd_T31 l0 x36_3).f2))) (fun _ hk => hk.2) (.int .i64 ((rd_T31 l0 x36_3).f3))) (fun _ hk => hk.2) (.int .i64 ((rd_T31 l0 x36_3).f4))) (fun _ hk => hk.2) (.bool ((rd_T31 l0 x36_3).f5))) (fun _ hk => hk.2) (.bool ((rd_T31 l0 x36_3).f6))) (fun _ hk => ⟨hk.1.1, hk.1.2⟩))); (case aS => exact (below_size (by repeat (first | (with_reducible first | exact HB.out | apply ba_ | apply bn_ | apply bd_ | refine below_set ?_ GE247.out | refine below_set ?_ GE257.out) | exact HB.out)))); (case aL => have := LMc35.out; omega); intro v259 w39 ho hb hg hat; rw [← Ny258.out] at ho; have n0_ := am_ (blk_grown (g := gb247) (o := .cells #[.int .i64 a1_0, .int .i64 a1_1, .int .i64 a1_2, .int .i64 a1_3, .int .i64 a1_4, .bool a1_5, .bool a1_6] 31 (0, 0)) (by (with_reducible repeat (first | refine blk_drewN ?_ _ | refine blk_drew ?_ | refine blk_alloc ?_ _)); refine blk_far ?_ NB247_257.out _; (with_reducible repeat (first | refine blk_drewN ?_ _ | refine blk_drew ?_ | refine blk_alloc ?_ _)); refine blk_far ?_ NB247_257.out _; (with_reducible repeat (first | refine blk_drewN ?_ _ | refine blk_drew ?_ | refine blk_alloc ?_ _)); refine blk_far ?_ NB247_257.out _; (with_reducible repeat (first | refine blk_drewN ?_ _ | refine blk_drew ?_ | refine blk_alloc ?_ _)); refine blk_far ?_ NB247_257.out _; (with_reducible repeat (first | refine blk_drewN ?_ _ | refine blk_drew ?_ | refine blk_alloc ?_ _)); refine blk_far ?_ NB247_257.out _; (with_reducible repeat (first | refine blk_drewN ?_ _ | refine blk_drew ?_ | refine blk_alloc ?_ _)); refine blk_far ?_ NB247_257.out _; (with_reducible repeat (first | refine blk_drewN ?_ _ | refine blk_drew ?_ | refine blk_alloc ?_ _)); refine blk_far ?_ NB247_257.out _; (with_reducible repeat (first | refine blk_drewN ?_ _ | refine blk_drew ?_ | refine blk_alloc ?_ _)); exact BK247.out) hg (Kd.R_away HO_8.out (fun _ hk => hk.1))); have n1_ := am_ (blk_grown (g := gb257) (o := .cells #[.int .i64 ((rd_T31 l0 x36_3).f0), .int .i64 ((rd_T31 l0 x36_3).f1), .int .i64 ((rd_T31 l0 x36_3).f2), .int .i64 ((rd_T31 l0 x36_3).f3), .int .i64 ((rd_T31 l0 x36_3).f4), .bool ((rd_T31 l0 x36_3).f5), .bool ((rd_T31 l0 x36_3).f6)] 31 (0, 0)) (by (with_reducible repeat (first | refine blk_drewN ?_ _ | refine blk_drew ?_ | refine blk_alloc ?_ _)); refine blk_put (cs := #[.int .i64 ((rd_T31 l0 x36_3).f0), .int .i64 ((rd_T31 l0 x36_3).f1), .int .i64 ((rd_T31 l0 x36_3).f2), .int .i64 ((rd_T31 l0 x36_3).f3), .int .i64 ((rd_T31 l0 x36_3).f4), .bool ((rd_T31 l0 x36_3).f5), .bool false]) ?_ 6 _ rfl; (with_reducible repeat (first | refine blk_drewN ?_ _ | refine blk_drew ?_ | refine blk_alloc ?_ _)); refine blk_put (cs := #[.int .i64 ((rd_T31 l0 x36_3).f0), .int .i64 ((rd_T31 l0 x36_3).f1), .int .i64 ((rd_T31 l0 x36_3).f2), .int .i64 ((rd_T31 l0 x36_3).f3), .int .i64 ((rd_T31 l0 x36_3).f4), .bool false, .bool false]) ?_ 5 _ rfl; (with_reducible repeat (first | refine blk_drewN ?_ _ | refine blk_drew ?_ | refine blk_alloc ?_ _)); refine blk_put (cs := #[.int .i64 ((rd_T31 l0 x36_3).f0), .int .i64 ((rd_T31 l0 x36_3).f1), .int .i64 ((rd_T31 l0 x36_3).f2), .int .i64 ((rd_T31 l0 x36_3).f3), .int .i64 0, .bool false, .bool false]) ?_ 4 _ rfl; (with_reducible repeat (first | refine blk_drewN ?_ _ | refine blk_drew ?_ | refine blk_alloc ?_ _)); refine blk_put (cs := #[.int .i64 ((rd_T31 l0 x36_3).f0), .int .i64 ((rd_T31 l0 x36_3).f1), .int .i64 ((rd_T31 l0 x36_3).f2), .int .i64 0, .int .i64 0, .bool false, .bool false]) ?_ 3 _ rfl; (with_reducible repeat (first | refine blk_drewN ?_ _ | refine blk_drew ?_ | refine blk_alloc ?_ _)); refine blk_put (cs := #[.int .i64 ((rd_T31 l0 x36_3).f0), .int .i64 ((rd_T31 l0 x36_3).f1), .int .i64 0, .int .i64 0, .int .i64 0, .bool false, .bool false]) ?_ 2 _ rfl; (with_reducible repeat (first | refine blk_drewN ?_ _ | refine blk_drew ?_ | refine blk_alloc ?_ _)); refine blk_put (cs := #[.int .i64 ((rd_T31 l0 x36_3).f0), .int .i64 0, .int .i64 0, .int .i64 0, .int .i64 0, .bool false, .bool false]) ?_ 1 _ rfl; (with_reducible repeat (first | refine blk_drewN ?_ _ | refine blk_drew ?_ | refine blk_alloc ?_ _)); refine blk_put (cs := #[.int .i64 0, .int .i64 0, .int .i64 0, .int .i64 0, .int .i64 0, .bool false, .bool false]) ?_ 0 _ rfl; (with_reducible repeat (first | refine blk_drewN ?_ _ | refine blk_drew ?_ | refine blk_alloc ?_ _)); exact BK257.out) hg (Kd.R_away HO_8.out (fun _ hk => hk.2))); have n2_ := am_ (hb); have n3_ := am_ (ho); clear BK247; clear BK257; clear HB; clear HO_8; have BK247 := n0_; have BK257 := n1_; have HB := n2_; have HO260 := n3_; clear n0_ n1_ n2_ n3_; clear ho hb hg hat))
               go_roundg k3
               case measure => have := HJ2.out; have := HK2.out; have := HK3.out; omega
               case rel => exact ⟨(y258), (true), (wrap64 (x36_3 + 1)), (by first | rfl | (simp; done) | (simp [*]; done)), (by first | rfl | (simp; done) | (simp [*]; done)), H', ⟨by have := HJ2.out; have := HK2.out; have := HK3.out; omega⟩, ⟨by (with_reducible repeat (first | apply ra_ | apply rn_ | apply rd1_)); exact Kd.R_mono HO260.out (fun _ hk => hk.1)⟩, ⟨by (with_reducible repeat (first | refine blk_drewN ?_ _ | refine blk_drew ?_ | refine blk_alloc ?_ _)); exact BK247.out⟩, ⟨by repeat (first | (with_reducible first | exact HB.out | apply ba_ | apply bn_ | apply bd_ | refine below_set ?_ GE247.out | refine below_set ?_ GE257.out) | exact HB.out)⟩⟩
              ·rw [if_neg c35] at H
               exact absurd H (by simp)
             ·replace c34 := Bool.eq_false_iff.mpr c34
              subst c34
              have H1 : (if ((rd_T31 l0 x36_3).f0) > a1_0 then (if x8_3.length < 2932031007402 then ((some (x8_3 ++ [(⟨a1_0, a1_1, a1_2, a1_3, a1_4, a1_5, a1_6⟩ : S31)] : List (S31))).bind fun y261 => (if y261.length < 2932031007402 then (gatehouseref05_Put.l1 k3 (y261 ++ [(⟨(rd_T31 l0 x36_3).f0, (rd_T31 l0 x36_3).f1, (rd_T31 l0 x36_3).f2, (rd_T31 l0 x36_3).f3, (rd_T31 l0 x36_3).f4, (rd_T31 l0 x36_3).f5, (rd_T31 l0 x36_3).f6⟩ : S31)]) true l0 (l0.length : Int) (wrap64 (x36_3 + 1)) a1_0 a1_1 a1_2 a1_3 a1_4 a1_5 a1_6) else (none))) else (none)) else (if x8_3.length < 2932031007402 then (gatehouseref05_Put.l1 k3 (x8_3 ++ [(⟨(rd_T31 l0 x36_3).f0, (rd_T31 l0 x36_3).f1, (rd_T31 l0 x36_3).f2, (rd_T31 l0 x36_3).f3, (rd_T31 l0 x36_3).f4, (rd_T31 l0 x36_3).f5, (rd_T31 l0 x36_3).f6⟩ : S31)]) false l0 (l0.length : Int) (wrap64 (x36_3 + 1)) a1_0 a1_1 a1_2 a1_3 a1_4 a1_5 a1_6) else (none))) = some (r1, r2) := by rw [if_neg (show ¬ (false = true) by decide)] at H; exact H
              clear H
              have H := H1
              clear H1
              by_cases c40 : ((rd_T31 l0 x36_3).f0) > a1_0
              ·rw [if_pos c40] at H
               have c40b0 : decide (a1_0 < ((rd_T31 l0 x36_3).f0)) = true := decide_eq_true c40
               clear c40
               by_cases c41 : x8_3.length < 2932031007402
               ·rw [if_pos c41] at H
                have LMc41 := am_ c41
                clear c41
                obtain ⟨y261, hy261⟩ : ∃ y_ : List (S31), y_ = (x8_3 ++ [(⟨a1_0, a1_1, a1_2, a1_3, a1_4, a1_5, a1_6⟩ : S31)]) := ⟨_, rfl⟩
                replace H : (if y261.length < 2932031007402 then (gatehouseref05_Put.l1 k3 (y261 ++ [(⟨(rd_T31 l0 x36_3).f0, (rd_T31 l0 x36_3).f1, (rd_T31 l0 x36_3).f2, (rd_T31 l0 x36_3).f3, (rd_T31 l0 x36_3).f4, (rd_T31 l0 x36_3).f5, (rd_T31 l0 x36_3).f6⟩ : S31)]) true l0 (l0.length : Int) (wrap64 (x36_3 + 1)) a1_0 a1_1 a1_2 a1_3 a1_4 a1_5 a1_6) else (none)) = some (r1, r2) := by first | (rw [hy261]; with_reducible exact H) | (have H2_ := (Option.bind_some _ _).symm.trans H; rw [hy261]; with_reducible exact H2_) | (have H2_ := (Option.bind_some _ _).symm.trans H; with_reducible exact H2_) | with_reducible exact H | (rw [hy261]; exact H) | exact H
                have Ny261 := am_ hy261
                clear hy261
                by_cases c42 : y261.length < 2932031007402
                ·rw [if_pos c42] at H
                 have LMc42 := am_ c42
                 clear c42
                 obtain ⟨y264, hy264⟩ : ∃ y_ : List (S31), y_ = (y261 ++ [(⟨(rd_T31 l0 x36_3).f0, (rd_T31 l0 x36_3).f1, (rd_T31 l0 x36_3).f2, (rd_T31 l0 x36_3).f3, (rd_T31 l0 x36_3).f4, (rd_T31 l0 x36_3).f5, (rd_T31 l0 x36_3).f6⟩ : S31)]) := ⟨_, rfl⟩
                 replace H : (gatehouseref05_Put.l1 k3 y264 true l0 (l0.length : Int) (wrap64 (x36_3 + 1)) a1_0 a1_1 a1_2 a1_3 a1_4 a1_5 a1_6) = some (r1, r2) := by first | (rw [hy264]; with_reducible exact H) | (have H2_ := (Option.bind_some _ _).symm.trans H; rw [hy264]; with_reducible exact H2_) | (have H2_ := (Option.bind_some _ _).symm.trans H; with_reducible exact H2_) | with_reducible exact H | (rw [hy264]; exact H) | exact H
                 have Ny264 := am_ hy264
                 clear hy264
                 have H' := am_ H
                 clear H
                 have p256 : 0 ≤ (x36_3 : Int) := of_decide_eq_true (by first | (with_reducible assumption) | assumption)
                 have q256 : x36_3 < (l0.length : Int) := of_decide_eq_true (by first | (with_reducible assumption) | assumption)
                 obtain ⟨ad256, e256, hx256_0, hx256_1, hx256_2, hx256_3, hx256_4, hx256_5, hx256_6⟩ := at_T31 HR0.out x36_3 p256 q256
                 cases e256
                 replace hx256_0 := (HB.out.cell (World.block_lt_of_cell? w _ hx256_0)).trans hx256_0
                 replace hx256_1 := (HB.out.cell (World.block_lt_of_cell? w _ hx256_1)).trans hx256_1
                 replace hx256_2 := (HB.out.cell (World.block_lt_of_cell? w _ hx256_2)).trans hx256_2
                 replace hx256_3 := (HB.out.cell (World.block_lt_of_cell? w _ hx256_3)).trans hx256_3
                 replace hx256_4 := (HB.out.cell (World.block_lt_of_cell? w _ hx256_4)).trans hx256_4
                 replace hx256_5 := (HB.out.cell (World.block_lt_of_cell? w _ hx256_5)).trans hx256_5
                 replace hx256_6 := (HB.out.cell (World.block_lt_of_cell? w _ hx256_6)).trans hx256_6
                 replace p256 := eq_true p256
                 replace q256 := eq_true q256
                 go_wp2_with (first | ((with_reducible refine gate_dst (N := 11) rfl ?_); refine box_event ?hg (N := 11) ?hd (cs := #[.int .i64 0, .int .i64 0, .int .i64 0, .int .i64 0, .int .i64 0, .bool false, .bool false]) (t := 31) ?hr ?_; (case hd => rfl); (case hg => rfl); (case hr => first | (go_simp; done) | (go_simp; rfl)); intro gb257 hg w43 hbox hb; have n0_ := am_ (Kd.R_below (Kd.R_elderB (by (with_reducible repeat (first | apply ra_ | apply rn_ | apply rd1_)); exact HO_8.out) gb257 (Nat.le_of_eq hg.symm)) hb); have n1_ := am_ (blk_below (g := gb247) (o := .cells #[.int .i64 a1_0, .int .i64 a1_1, .int .i64 a1_2, .int .i64 a1_3, .int .i64 a1_4, .bool a1_5, .bool a1_6] 31 (0, 0)) (by (with_reducible repeat (first | refine blk_drewN ?_ _ | refine blk_drew ?_ | refine blk_alloc ?_ _)); exact BK247.out) hb); have n2_ := am_ (below_step (by repeat (first | (with_reducible first | exact HB.out | apply ba_ | apply bn_ | apply bd_ | refine below_set ?_ GE247.out) | exact HB.out)) hb); have n3_ := am_ (hbox); have n4_ := am_ ((by rw [hg]; exact (below_size (by repeat (first | (with_reducible first | exact HB.out | apply ba_ | apply bn_ | apply bd_ | refine below_set ?_ GE247.out) | exact HB.out))) : w.heap.size ≤ gb257)); have n5_ := am_ ((by rw [hg]; exact (below_size (by repeat (first | (with_reducible first | exact HB.out | apply ba_ | apply bn_ | apply bd_ | refine below_set ?_ GE247.out) | exact HB.out))) : w.heap.size ≤ gb257)); have n6_ := am_ ((by rw [hg]; exact Nat.ne_of_lt (blk_lt (g := gb247) (o := .cells #[.int .i64 a1_0, .int .i64 a1_1, .int .i64 a1_2, .int .i64 a1_3, .int .i64 a1_4, .bool a1_5, .bool a1_6] 31 (0, 0)) (by (with_reducible repeat (first | refine blk_drewN ?_ _ | refine blk_drew ?_ | refine blk_alloc ?_ _)); exact BK247.out)) : gb247 ≠ gb257)); have n7_ := am_ ((by rw [hg]; exact Nat.ne_of_gt (blk_lt (g := gb247) (o := .cells #[.int .i64 a1_0, .int .i64 a1_1, .int .i64 a1_2, .int .i64 a1_3, .int .i64 a1_4, .bool a1_5, .bool a1_6] 31 (0, 0)) (by (with_reducible repeat (first | refine blk_drewN ?_ _ | refine blk_drew ?_ | refine blk_alloc ?_ _)); exact BK247.out)) : gb257 ≠ gb247)); clear HO_8; clear BK247; clear HB; have HO_8 := n0_; have BK247 := n1_; have HB := n2_; have BK257 := n3_; have GW257 := n4_; have GE257 := n5_; have NB247_257 := n6_; have NB257_247 := n7_; clear n0_ n1_ n2_ n3_ n4_ n5_ n6_ n7_; clear hb hbox hg; have hnb44 := NB257_247.out; have hnc44 := NB247_257.out; have hcz45_0 : w43.cell? ⟨gb257, 0, none⟩ = some (.int .i64 0) := (blk_cell BK257.out 0).trans rfl; have hcz45_1 : w43.cell? ⟨gb257, 1, none⟩ = some (.int .i64 0) := (blk_cell BK257.out 1).trans rfl; have hcz45_2 : w43.cell? ⟨gb257, 2, none⟩ = some (.int .i64 0) := (blk_cell BK257.out 2).trans rfl; have hcz45_3 : w43.cell? ⟨gb257, 3, none⟩ = some (.int .i64 0) := (blk_cell BK257.out 3).trans rfl; have hcz45_4 : w43.cell? ⟨gb257, 4, none⟩ = some (.int .i64 0) := (blk_cell BK257.out 4).trans rfl; have hcz45_5 : w43.cell? ⟨gb257, 5, none⟩ = some (.bool false) := (blk_cell BK257.out 5).trans rfl; have hcz45_6 : w43.cell? ⟨gb257, 6, none⟩ = some (.bool false) := (blk_cell BK257.out 6).trans rfl; have hfz45_0 := blk_frozen BK257.out 0; have hfz45_1 := blk_frozen BK257.out 1; have hfz45_2 := blk_frozen BK257.out 2; have hfz45_3 := blk_frozen BK257.out 3; have hfz45_4 := blk_frozen BK257.out 4; have hfz45_5 := blk_frozen BK257.out 5; have hfz45_6 := blk_frozen BK257.out 6; have hcz46_0 : w43.cell? ⟨gb247, 0, none⟩ = some (.int .i64 a1_0) := (blk_cell BK247.out 0).trans rfl; have hcz46_1 : w43.cell? ⟨gb247, 1, none⟩ = some (.int .i64 a1_1) := (blk_cell BK247.out 1).trans rfl; have hcz46_2 : w43.cell? ⟨gb247, 2, none⟩ = some (.int .i64 a1_2) := (blk_cell BK247.out 2).trans rfl; have hcz46_3 : w43.cell? ⟨gb247, 3, none⟩ = some (.int .i64 a1_3) := (blk_cell BK247.out 3).trans rfl; have hcz46_4 : w43.cell? ⟨gb247, 4, none⟩ = some (.int .i64 a1_4) := (blk_cell BK247.out 4).trans rfl; have hcz46_5 : w43.cell? ⟨gb247, 5, none⟩ = some (.bool a1_5) := (blk_cell BK247.out 5).trans rfl; have hcz46_6 : w43.cell? ⟨gb247, 6, none⟩ = some (.bool a1_6) := (blk_cell BK247.out 6).trans rfl; have hfz46_0 := blk_frozen BK247.out 0; have hfz46_1 := blk_frozen BK247.out 1; have hfz46_2 := blk_frozen BK247.out 2; have hfz46_3 := blk_frozen BK247.out 3; have hfz46_4 := blk_frozen BK247.out 4; have hfz46_5 := blk_frozen BK247.out 5; have hfz46_6 := blk_frozen BK247.out 6) | ((with_reducible refine gate_builtin (b := .append) (xs := #[.tmp 49, .tmp 51]) rfl ?_); at_builtin; refine Kd.R_append k31 (w0 := w) w.heap.size rfl (.tmp 49) (.tmp 51) 22 31 (.agg #[(.int .i64 0), (.int .i64 0), (.int .i64 0), (.int .i64 0), (.int .i64 0), (.bool false), (.bool false)]) 48 rfl Try.underlying22 info31 rfl (by decide) (by omega) u8 x8_3 (⟨a1_0, a1_1, a1_2, a1_3, a1_4, a1_5, a1_6⟩ : S31) [.int .i64 a1_0, .int .i64 a1_1, .int .i64 a1_2, .int .i64 a1_3, .int .i64 a1_4, .bool a1_5, .bool a1_6] (fun k_ => k_ ≠ gb247 ∧ k_ ≠ gb257) (fun _ => False) rfl (by first | (go_simp; done) | (go_simp; rfl)) ?aP (fun _ hk => hk.elim) ?aF ?aO ?aB ?aS ?aL ?_; (case aP => exact k31_mkM _ _ _ (⟨a1_0, a1_1, a1_2, a1_3, a1_4, a1_5, a1_6⟩ : S31)); (case aB => exact (by repeat (first | (with_reducible first | exact HB.out | apply ba_ | apply bn_ | apply bd_ | refine below_set ?_ GE247.out | refine below_set ?_ GE257.out) | exact HB.out))); (case aF => exact (fun k_ hk => ⟨Kd.freshB (g := gb247) (o := .cells #[.int .i64 a1_0, .int .i64 a1_1, .int .i64 a1_2, .int .i64 a1_3, .int .i64 a1_4, .bool a1_5, .bool a1_6] 31 (0, 0)) (by (with_reducible repeat (first | refine blk_drewN ?_ _ | refine blk_drew ?_ | refine blk_alloc ?_ _)); refine blk_far ?_ NB247_257.out _; (with_reducible repeat (first | refine blk_drewN ?_ _ | refine blk_drew ?_ | refine blk_alloc ?_ _)); refine blk_far ?_ NB247_257.out _; (with_reducible repeat (first | refine blk_drewN ?_ _ | refine blk_drew ?_ | refine blk_alloc ?_ _)); refine blk_far ?_ NB247_257.out _; (with_reducible repeat (first | refine blk_drewN ?_ _ | refine blk_drew ?_ | refine blk_alloc ?_ _)); refine blk_far ?_ NB247_257.out _; (with_reducible repeat (first | refine blk_drewN ?_ _ | refine blk_drew ?_ | refine blk_alloc ?_ _)); refine blk_far ?_ NB247_257.out _; (with_reducible repeat (first | refine blk_drewN ?_ _ | refine blk_drew ?_ | refine blk_alloc ?_ _)); refine blk_far ?_ NB247_257.out _; (with_reducible repeat (first | refine blk_drewN ?_ _ | refine blk_drew ?_ | refine blk_alloc ?_ _)); refine blk_far ?_ NB247_257.out _; (with_reducible repeat (first | refine blk_drewN ?_ _ | refine blk_drew ?_ | refine blk_alloc ?_ _)); exact BK247.out) k_ hk, Kd.freshB (g := gb257) (o := .cells #[.int .i64 ((rd_T31 l0 x36_3).f0), .int .i64 ((rd_T31 l0 x36_3).f1), .int .i64 ((rd_T31 l0 x36_3).f2), .int .i64 ((rd_T31 l0 x36_3).f3), .int .i64 ((rd_T31 l0 x36_3).f4), .bool ((rd_T31 l0 x36_3).f5), .bool ((rd_T31 l0 x36_3).f6)] 31 (0, 0)) (by (with_reducible repeat (first | refine blk_drewN ?_ _ | refine blk_drew ?_ | refine blk_alloc ?_ _)); refine blk_put (cs := #[.int .i64 ((rd_T31 l0 x36_3).f0), .int .i64 ((rd_T31 l0 x36_3).f1), .int .i64 ((rd_T31 l0 x36_3).f2), .int .i64 ((rd_T31 l0 x36_3).f3), .int .i64 ((rd_T31 l0 x36_3).f4), .bool ((rd_T31 l0 x36_3).f5), .bool false]) ?_ 6 _ rfl; (with_reducible repeat (first | refine blk_drewN ?_ _ | refine blk_drew ?_ | refine blk_alloc ?_ _)); refine blk_put (cs := #[.int .i64 ((rd_T31 l0 x36_3).f0), .int .i64 ((rd_T31 l0 x36_3).f1), .int .i64 ((rd_T31 l0 x36_3).f2), .int .i64 ((rd_T31 l0 x36_3).f3), .int .i64 ((rd_T31 l0 x36_3).f4), .bool false, .bool false]) ?_ 5 _ rfl; (with_reducible repeat (first | refine blk_drewN ?_ _ | refine blk_drew ?_ | refine blk_alloc ?_ _)); refine blk_put (cs := #[.int .i64 ((rd_T31 l0 x36_3).f0), .int .i64 ((rd_T31 l0 x36_3).f1), .int .i64 ((rd_T31 l0 x36_3).f2), .int .i64 ((rd_T31 l0 x36_3).f3), .int .i64 0, .bool false, .bool false]) ?_ 4 _ rfl; (with_reducible repeat (first | refine blk_drewN ?_ _ | refine blk_drew ?_ | refine blk_alloc ?_ _)); refine blk_put (cs := #[.int .i64 ((rd_T31 l0 x36_3).f0), .int .i64 ((rd_T31 l0 x36_3).f1), .int .i64 ((rd_T31 l0 x36_3).f2), .int .i64 0, .int .i64 0, .bool false, .bool false]) ?_ 3 _ rfl; (with_reducible repeat (first | refine blk_drewN ?_ _ | refine blk_drew ?_ | refine blk_alloc ?_ _)); refine blk_put (cs := #[.int .i64 ((rd_T31 l0 x36_3).f0), .int .i64 ((rd_T31 l0 x36_3).f1), .int .i64 0, .int .i64 0, .int .i64 0, .bool false, .bool false]) ?_ 2 _ rfl; (with_reducible repeat (first | refine blk_drewN ?_ _ | refine blk_drew ?_ | refine blk_alloc ?_ _)); refine blk_put (cs := #[.int .i64 ((rd_T31 l0 x36_3).f0), .int .i64 0, .int .i64 0, .int .i64 0, .int .i64 0, .bool false, .bool false]) ?_ 1 _ rfl; (with_reducible repeat (first | refine blk_drewN ?_ _ | refine blk_drew ?_ | refine blk_alloc ?_ _)); refine blk_put (cs := #[.int .i64 0, .int .i64 0, .int .i64 0, .int .i64 0, .int .i64 0, .bool false, .bool false]) ?_ 0 _ rfl; (with_reducible repeat (first | refine blk_drewN ?_ _ | refine blk_drew ?_ | refine blk_alloc ?_ _)); exact BK257.out) k_ hk⟩)); (case aO => exact (by (with_reducible repeat (first | apply ra_ | apply rn_ | apply rd1_)); exact Kd.R_mono (Kd.R_far (p := ⟨gb257, 6, none⟩) (Kd.R_far (p := ⟨gb257, 5, none⟩) (Kd.R_far (p := ⟨gb257, 4, none⟩) (Kd.R_far (p := ⟨gb257, 3, none⟩) (Kd.R_far (p := ⟨gb257, 2, none⟩) (Kd.R_far (p := ⟨gb257, 1, none⟩) (Kd.R_far (p := ⟨gb257, 0, none⟩) (Kd.R_mono HO_8.out (fun k_ hk => (⟨hk, hk.2⟩ : _ ∧ k_ ≠ gb257))) (fun _ hk => hk.2) (.int .i64 ((rd_T31 l0 x36_3).f0))) (fun _ hk => hk.2) (.int .i64 ((rd_T31 l0 x36_3).f1))) (fun _ hk => hk.2) (.int .i64 ((rd_T31 l0 x36_3).f2))) (fun _ hk => hk.2) (.int .i64 ((rd_T31 l0 x36_3).f3))) (fun _ hk => hk.2) (.int .i64 ((rd_T31 l0 x36_3).f4))) (fun _ hk => hk.2) (.bool ((rd_T31 l0 x36_3).f5))) (fun _ hk => hk.2) (.bool ((rd_T31 l0 x36_3).f6))) (fun _ hk => ⟨hk.1.1, hk.1.2⟩))); (case aS => exact (below_size (by repeat (first | (with_reducible first | exact HB.out | apply ba_ | apply bn_ | apply bd_ | refine below_set ?_ GE247.out | refine below_set ?_ GE257.out) | exact HB.out)))); (case aL => have := LMc41.out; omega); intro v262 w47 ho hb hg hat; rw [← Ny261.out] at ho; have n0_ := am_ (blk_grown (g := gb247) (o := .cells #[.int .i64 a1_0, .int .i64 a1_1, .int .i64 a1_2, .int .i64 a1_3, .int .i64 a1_4, .bool a1_5, .bool a1_6] 31 (0, 0)) (by (with_reducible repeat (first | refine blk_drewN ?_ _ | refine blk_drew ?_ | refine blk_alloc ?_ _)); refine blk_far ?_ NB247_257.out _; (with_reducible repeat (first | refine blk_drewN ?_ _ | refine blk_drew ?_ | refine blk_alloc ?_ _)); refine blk_far ?_ NB247_257.out _; (with_reducible repeat (first | refine blk_drewN ?_ _ | refine blk_drew ?_ | refine blk_alloc ?_ _)); refine blk_far ?_ NB247_257.out _; (with_reducible repeat (first | refine blk_drewN ?_ _ | refine blk_drew ?_ | refine blk_alloc ?_ _)); refine blk_far ?_ NB247_257.out _; (with_reducible repeat (first | refine blk_drewN ?_ _ | refine blk_drew ?_ | refine blk_alloc ?_ _)); refine blk_far ?_ NB247_257.out _; (with_reducible repeat (first | refine blk_drewN ?_ _ | refine blk_drew ?_ | refine blk_alloc ?_ _)); refine blk_far ?_ NB247_257.out _; (with_reducible repeat (first | refine blk_drewN ?_ _ | refine blk_drew ?_ | refine blk_alloc ?_ _)); refine blk_far ?_ NB247_257.out _; (with_reducible repeat (first | refine blk_drewN ?_ _ | refine blk_drew ?_ | refine blk_alloc ?_ _)); exact BK247.out) hg (Kd.R_away HO_8.out (fun _ hk => hk.1))); have n1_ := am_ (blk_grown (g := gb257) (o := .cells #[.int .i64 ((rd_T31 l0 x36_3).f0), .int .i64 ((rd_T31 l0 x36_3).f1), .int .i64 ((rd_T31 l0 x36_3).f2), .int .i64 ((rd_T31 l0 x36_3).f3), .int .i64 ((rd_T31 l0 x36_3).f4), .bool ((rd_T31 l0 x36_3).f5), .bool ((rd_T31 l0 x36_3).f6)] 31 (0, 0)) (by (with_reducible repeat (first | refine blk_drewN ?_ _ | refine blk_drew ?_ | refine blk_alloc ?_ _)); refine blk_put (cs := #[.int .i64 ((rd_T31 l0 x36_3).f0), .int .i64 ((rd_T31 l0 x36_3).f1), .int .i64 ((rd_T31 l0 x36_3).f2), .int .i64 ((rd_T31 l0 x36_3).f3), .int .i64 ((rd_T31 l0 x36_3).f4), .bool ((rd_T31 l0 x36_3).f5), .bool false]) ?_ 6 _ rfl; (with_reducible repeat (first | refine blk_drewN ?_ _ | refine blk_drew ?_ | refine blk_alloc ?_ _)); refine blk_put (cs := #[.int .i64 ((rd_T31 l0 x36_3).f0), .int .i64 ((rd_T31 l0 x36_3).f1), .int .i64 ((rd_T31 l0 x36_3).f2), .int .i64 ((rd_T31 l0 x36_3).f3), .int .i64 ((rd_T31 l0 x36_3).f4), .bool false, .bool false]) ?_ 5 _ rfl; (with_reducible repeat (first | refine blk_drewN ?_ _ | refine blk_drew ?_ | refine blk_alloc ?_ _)); refine blk_put (cs := #[.int .i64 ((rd_T31 l0 x36_3).f0), .int .i64 ((rd_T31 l0 x36_3).f1), .int .i64 ((rd_T31 l0 x36_3).f2), .int .i64 ((rd_T31 l0 x36_3).f3), .int .i64 0, .bool false, .bool false]) ?_ 4 _ rfl; (with_reducible repeat (first | refine blk_drewN ?_ _ | refine blk_drew ?_ | refine blk_alloc ?_ _)); refine blk_put (cs := #[.int .i64 ((rd_T31 l0 x36_3).f0), .int .i64 ((rd_T31 l0 x36_3).f1), .int .i64 ((rd_T31 l0 x36_3).f2), .int .i64 0, .int .i64 0, .bool false, .bool false]) ?_ 3 _ rfl; (with_reducible repeat (first | refine blk_drewN ?_ _ | refine blk_drew ?_ | refine blk_alloc ?_ _)); refine blk_put (cs := #[.int .i64 ((rd_T31 l0 x36_3).f0), .int .i64 ((rd_T31 l0 x36_3).f1), .int .i64 0, .int .i64 0, .int .i64 0, .bool false, .bool false]) ?_ 2 _ rfl; (with_reducible repeat (first | refine blk_drewN ?_ _ | refine blk_drew ?_ | refine blk_alloc ?_ _)); refine blk_put (cs := #[.int .i64 ((rd_T31 l0 x36_3).f0), .int .i64 0, .int .i64 0, .int .i64 0, .int .i64 0, .bool false, .bool false]) ?_ 1 _ rfl; (with_reducible repeat (first | refine blk_drewN ?_ _ | refine blk_drew ?_ | refine blk_alloc ?_ _)); refine blk_put (cs := #[.int .i64 0, .int .i64 0, .int .i64 0, .int .i64 0, .int .i64 0, .bool false, .bool false]) ?_ 0 _ rfl; (with_reducible repeat (first | refine blk_drewN ?_ _ | refine blk_drew ?_ | refine blk_alloc ?_ _)); exact BK257.out) hg (Kd.R_away HO_8.out (fun _ hk => hk.2))); have n2_ := am_ (hb); have n3_ := am_ (ho); clear BK247; clear BK257; clear HB; clear HO_8; have BK247 := n0_; have BK257 := n1_; have HB := n2_; have HO263 := n3_; clear n0_ n1_ n2_ n3_; clear ho hb hg hat; have hcz48_0 : w47.cell? ⟨gb257, 0, none⟩ = some (.int .i64 ((rd_T31 l0 x36_3).f0)) := (blk_cell BK257.out 0).trans rfl; have hcz48_1 : w47.cell? ⟨gb257, 1, none⟩ = some (.int .i64 ((rd_T31 l0 x36_3).f1)) := (blk_cell BK257.out 1).trans rfl; have hcz48_2 : w47.cell? ⟨gb257, 2, none⟩ = some (.int .i64 ((rd_T31 l0 x36_3).f2)) := (blk_cell BK257.out 2).trans rfl; have hcz48_3 : w47.cell? ⟨gb257, 3, none⟩ = some (.int .i64 ((rd_T31 l0 x36_3).f3)) := (blk_cell BK257.out 3).trans rfl; have hcz48_4 : w47.cell? ⟨gb257, 4, none⟩ = some (.int .i64 ((rd_T31 l0 x36_3).f4)) := (blk_cell BK257.out 4).trans rfl; have hcz48_5 : w47.cell? ⟨gb257, 5, none⟩ = some (.bool ((rd_T31 l0 x36_3).f5)) := (blk_cell BK257.out 5).trans rfl; have hcz48_6 : w47.cell? ⟨gb257, 6, none⟩ = some (.bool ((rd_T31 l0 x36_3).f6)) := (blk_cell BK257.out 6).trans rfl; have hfz48_0 := blk_frozen BK257.out 0; have hfz48_1 := blk_frozen BK257.out 1; have hfz48_2 := blk_frozen BK257.out 2; have hfz48_3 := blk_frozen BK257.out 3; have hfz48_4 := blk_frozen BK257.out 4; have hfz48_5 := blk_frozen BK257.out 5; have hfz48_6 := blk_frozen BK257.out 6) | ((with_reducible refine gate_builtin (b := .append) (xs := #[.tmp 53, .tmp 55]) rfl ?_); at_builtin; refine Kd.R_append k31 (w0 := w) w.heap.size rfl (.tmp 53) (.tmp 55) 22 31 (.agg #[(.int .i64 0), (.int .i64 0), (.int .i64 0), (.int .i64 0), (.int .i64 0), (.bool false), (.bool false)]) 48 rfl Try.underlying22 info31 rfl (by decide) (by omega) v262 y261 (⟨(rd_T31 l0 x36_3).f0, (rd_T31 l0 x36_3).f1, (rd_T31 l0 x36_3).f2, (rd_T31 l0 x36_3).f3, (rd_T31 l0 x36_3).f4, (rd_T31 l0 x36_3).f5, (rd_T31 l0 x36_3).f6⟩ : S31) [.int .i64 ((rd_T31 l0 x36_3).f0), .int .i64 ((rd_T31 l0 x36_3).f1), .int .i64 ((rd_T31 l0 x36_3).f2), .int .i64 ((rd_T31 l0 x36_3).f3), .int .i64 ((rd_T31 l0 x36_3).f4), .bool ((rd_T31 l0 x36_3).f5), .bool ((rd_T31 l0 x36_3).f6)] (fun k_ => k_ ≠ gb247 ∧ k_ ≠ gb257) (fun _ => False) rfl rfl ?aP (fun _ hk => hk.elim) ?aF ?aO ?aB ?aS ?aL ?_; (case aP => exact k31_mkM _ _ _ (⟨(rd_T31 l0 x36_3).f0, (rd_T31 l0 x36_3).f1, (rd_T31 l0 x36_3).f2, (rd_T31 l0 x36_3).f3, (rd_T31 l0 x36_3).f4, (rd_T31 l0 x36_3).f5, (rd_T31 l0 x36_3).f6⟩ : S31)); (case aB => exact (by repeat (first | (with_reducible first | exact HB.out | apply ba_ | apply bn_ | apply bd_ | refine below_set ?_ GE247.out | refine below_set ?_ GE257.out) | exact HB.out))); (case aF => exact (fun k_ hk => ⟨Kd.freshB (g := gb247) (o := .cells #[.int .i64 a1_0, .int .i64 a1_1, .int .i64 a1_2, .int .i64 a1_3, .int .i64 a1_4, .bool a1_5, .bool a1_6] 31 (0, 0)) (by (with_reducible repeat (first | refine blk_drewN ?_ _ | refine blk_drew ?_ | refine blk_alloc ?_ _)); exact BK247.out) k_ hk, Kd.freshB (g := gb257) (o := .cells #[.int .i64 ((rd_T31 l0 x36_3).f0), .int .i64 ((rd_T31 l0 x36_3).f1), .int .i64 ((rd_T31 l0 x36_3).f2), .int .i64 ((rd_T31 l0 x36_3).f3), .int .i64 ((rd_T31 l0 x36_3).f4), .bool ((rd_T31 l0 x36_3).f5), .bool ((rd_T31 l0 x36_3).f6)] 31 (0, 0)) (by (with_reducible repeat (first | refine blk_drewN ?_ _ | refine blk_drew ?_ | refine blk_alloc ?_ _)); exact BK257.out) k_ hk⟩)); (case aO => exact (by (with_reducible repeat (first | apply ra_ | apply rn_ | apply rd1_)); exact HO263.out)); (case aS => exact (below_size (by repeat (first | (with_reducible first | exact HB.out | apply ba_ | apply bn_ | apply bd_ | refine below_set ?_ GE247.out | refine below_set ?_ GE257.out) | exact HB.out)))); (case aL => have := LMc42.out; omega); intro v265 w49 ho hb hg hat; rw [← Ny264.out] at ho; have n0_ := am_ (blk_grown (g := gb247) (o := .cells #[.int .i64 a1_0, .int .i64 a1_1, .int .i64 a1_2, .int .i64 a1_3, .int .i64 a1_4, .bool a1_5, .bool a1_6] 31 (0, 0)) (by (with_reducible repeat (first | refine blk_drewN ?_ _ | refine blk_drew ?_ | refine blk_alloc ?_ _)); exact BK247.out) hg (Kd.R_away HO263.out (fun _ hk => hk.1))); have n1_ := am_ (blk_grown (g := gb257) (o := .cells #[.int .i64 ((rd_T31 l0 x36_3).f0), .int .i64 ((rd_T31 l0 x36_3).f1), .int .i64 ((rd_T31 l0 x36_3).f2), .int .i64 ((rd_T31 l0 x36_3).f3), .int .i64 ((rd_T31 l0 x36_3).f4), .bool ((rd_T31 l0 x36_3).f5), .bool ((rd_T31 l0 x36_3).f6)] 31 (0, 0)) (by (with_reducible repeat (first | refine blk_drewN ?_ _ | refine blk_drew ?_ | refine blk_alloc ?_ _)); exact BK257.out) hg (Kd.R_away HO263.out (fun _ hk => hk.2))); have n2_ := am_ (hb); have n3_ := am_ (ho); clear BK247; clear BK257; clear HB; clear HO263; have BK247 := n0_; have BK257 := n1_; have HB := n2_; have HO266 := n3_; clear n0_ n1_ n2_ n3_; clear ho hb hg hat))
                 go_roundg k3
                 case measure => have := HJ2.out; have := HK2.out; have := HK3.out; omega
                 case rel => exact ⟨(y264), (true), (wrap64 (x36_3 + 1)), (by first | rfl | (simp; done) | (simp [*]; done)), (by first | rfl | (simp; done) | (simp [*]; done)), H', ⟨by have := HJ2.out; have := HK2.out; have := HK3.out; omega⟩, ⟨by (with_reducible repeat (first | apply ra_ | apply rn_ | apply rd1_)); exact Kd.R_mono HO266.out (fun _ hk => hk.1)⟩, ⟨by (with_reducible repeat (first | refine blk_drewN ?_ _ | refine blk_drew ?_ | refine blk_alloc ?_ _)); exact BK247.out⟩, ⟨by repeat (first | (with_reducible first | exact HB.out | apply ba_ | apply bn_ | apply bd_ | refine below_set ?_ GE247.out | refine below_set ?_ GE257.out) | exact HB.out)⟩⟩
                ·rw [if_neg c42] at H
                 exact absurd H (by simp)
               ·rw [if_neg c41] at H
                exact absurd H (by simp)
              ·rw [if_neg c40] at H
               have c40b0 : decide (a1_0 < ((rd_T31 l0 x36_3).f0)) = false := decide_eq_false c40
               clear c40
               by_cases c50 : x8_3.length < 2932031007402
               ·rw [if_pos c50] at H
                have LMc50 := am_ c50
                clear c50
                obtain ⟨y267, hy267⟩ : ∃ y_ : List (S31), y_ = (x8_3 ++ [(⟨(rd_T31 l0 x36_3).f0, (rd_T31 l0 x36_3).f1, (rd_T31 l0 x36_3).f2, (rd_T31 l0 x36_3).f3, (rd_T31 l0 x36_3).f4, (rd_T31 l0 x36_3).f5, (rd_T31 l0 x36_3).f6⟩ : S31)]) := ⟨_, rfl⟩
                replace H : (gatehouseref05_Put.l1 k3 y267 false l0 (l0.length : Int) (wrap64 (x36_3 + 1)) a1_0 a1_1 a1_2 a1_3 a1_4 a1_5 a1_6) = some (r1, r2) := by first | (rw [hy267]; with_reducible exact H) | (have H2_ := (Option.bind_some _ _).symm.trans H; rw [hy267]; with_reducible exact H2_) | (have H2_ := (Option.bind_some _ _).symm.trans H; with_reducible exact H2_) | with_reducible exact H | (rw [hy267]; exact H) | exact H
                have Ny267 := am_ hy267
                clear hy267
                have H' := am_ H
                clear H
                have p256 : 0 ≤ (x36_3 : Int) := of_decide_eq_true (by first | (with_reducible assumption) | assumption)
                have q256 : x36_3 < (l0.length : Int) := of_decide_eq_true (by first | (with_reducible assumption) | assumption)
                obtain ⟨ad256, e256, hx256_0, hx256_1, hx256_2, hx256_3, hx256_4, hx256_5, hx256_6⟩ := at_T31 HR0.out x36_3 p256 q256
                cases e256
                replace hx256_0 := (HB.out.cell (World.block_lt_of_cell? w _ hx256_0)).trans hx256_0
                replace hx256_1 := (HB.out.cell (World.block_lt_of_cell? w _ hx256_1)).trans hx256_1
                replace hx256_2 := (HB.out.cell (World.block_lt_of_cell? w _ hx256_2)).trans hx256_2
                replace hx256_3 := (HB.out.cell (World.block_lt_of_cell? w _ hx256_3)).trans hx256_3
                replace hx256_4 := (HB.out.cell (World.block_lt_of_cell? w _ hx256_4)).trans hx256_4
                replace hx256_5 := (HB.out.cell (World.block_lt_of_cell? w _ hx256_5)).trans hx256_5
                replace hx256_6 := (HB.out.cell (World.block_lt_of_cell? w _ hx256_6)).trans hx256_6
                replace p256 := eq_true p256
                replace q256 := eq_true q256
                go_wp2_with (first | ((with_reducible refine gate_dst (N := 11) rfl ?_); refine box_event ?hg (N := 11) ?hd (cs := #[.int .i64 0, .int .i64 0, .int .i64 0, .int .i64 0, .int .i64 0, .bool false, .bool false]) (t := 31) ?hr ?_; (case hd => rfl); (case hg => rfl); (case hr => first | (go_simp; done) | (go_simp; rfl)); intro gb257 hg w51 hbox hb; have n0_ := am_ (Kd.R_below (Kd.R_elderB (by (with_reducible repeat (first | apply ra_ | apply rn_ | apply rd1_)); exact HO_8.out) gb257 (Nat.le_of_eq hg.symm)) hb); have n1_ := am_ (blk_below (g := gb247) (o := .cells #[.int .i64 a1_0, .int .i64 a1_1, .int .i64 a1_2, .int .i64 a1_3, .int .i64 a1_4, .bool a1_5, .bool a1_6] 31 (0, 0)) (by (with_reducible repeat (first | refine blk_drewN ?_ _ | refine blk_drew ?_ | refine blk_alloc ?_ _)); exact BK247.out) hb); have n2_ := am_ (below_step (by repeat (first | (with_reducible first | exact HB.out | apply ba_ | apply bn_ | apply bd_ | refine below_set ?_ GE247.out) | exact HB.out)) hb); have n3_ := am_ (hbox); have n4_ := am_ ((by rw [hg]; exact (below_size (by repeat (first | (with_reducible first | exact HB.out | apply ba_ | apply bn_ | apply bd_ | refine below_set ?_ GE247.out) | exact HB.out))) : w.heap.size ≤ gb257)); have n5_ := am_ ((by rw [hg]; exact (below_size (by repeat (first | (with_reducible first | exact HB.out | apply ba_ | apply bn_ | apply bd_ | refine below_set ?_ GE247.out) | exact HB.out))) : w.heap.size ≤ gb257)); have n6_ := am_ ((by rw [hg]; exact Nat.ne_of_lt (blk_lt (g := gb247) (o := .cells #[.int .i64 a1_0, .int .i64 a1_1, .int .i64 a1_2, .int .i64 a1_3, .int .i64 a1_4, .bool a1_5, .bool a1_6] 31 (0, 0)) (by (with_reducible repeat (first | refine blk_drewN ?_ _ | refine blk_drew ?_ | refine blk_alloc ?_ _)); exact BK247.out)) : gb247 ≠ gb257)); have n7_ := am_ ((by rw [hg]; exact Nat.ne_of_gt (blk_lt (g := gb247) (o := .cells #[.int .i64 a1_0, .int .i64 a1_1, .int .i64 a1_2, .int .i64 a1_3, .int .i64 a1_4, .bool a1_5, .bool a1_6] 31 (0, 0)) (by (with_reducible repeat (first | refine blk_drewN ?_ _ | refine blk_drew ?_ | refine blk_alloc ?_ _)); exact BK247.out)) : gb257 ≠ gb247)); clear HO_8; clear BK247; clear HB; have HO_8 := n0_; have BK247 := n1_; have HB := n2_; have BK257 := n3_; have GW257 := n4_; have GE257 := n5_; have NB247_257 := n6_; have NB257_247 := n7_; clear n0_ n1_ n2_ n3_ n4_ n5_ n6_ n7_; clear hb hbox hg; have hnb52 := NB257_247.out; have hnc52 := NB247_257.out; have hcz53_0 : w51.cell? ⟨gb257, 0, none⟩ = some (.int .i64 0) := (blk_cell BK257.out 0).trans rfl; have hcz53_1 : w51.cell? ⟨gb257, 1, none⟩ = some (.int .i64 0) := (blk_cell BK257.out 1).trans rfl; have hcz53_2 : w51.cell? ⟨gb257, 2, none⟩ = some (.int .i64 0) := (blk_cell BK257.out 2).trans rfl; have hcz53_3 : w51.cell? ⟨gb257, 3, none⟩ = some (.int .i64 0) := (blk_cell BK257.out 3).trans rfl; have hcz53_4 : w51.cell? ⟨gb257, 4, none⟩ = some (.int .i64 0) := (blk_cell BK257.out 4).trans rfl; have hcz53_5 : w51.cell? ⟨gb257, 5, none⟩ = some (.bool false) := (blk_cell BK257.out 5).trans rfl; have hcz53_6 : w51.cell? ⟨gb257, 6, none⟩ = some (.bool false) := (blk_cell BK257.out 6).trans rfl; have hfz53_0 := blk_frozen BK257.out 0; have hfz53_1 := blk_frozen BK257.out 1; have hfz53_2 := blk_frozen BK257.out 2; have hfz53_3 := blk_frozen BK257.out 3; have hfz53_4 := blk_frozen BK257.out 4; have hfz53_5 := blk_frozen BK257.out 5; have hfz53_6 := blk_frozen BK257.out 6; have hcz54_0 : w51.cell? ⟨gb247, 0, none⟩ = some (.int .i64 a1_0) := (blk_cell BK247.out 0).trans rfl; have hcz54_1 : w51.cell? ⟨gb247, 1, none⟩ = some (.int .i64 a1_1) := (blk_cell BK247.out 1).trans rfl; have hcz54_2 : w51.cell? ⟨gb247, 2, none⟩ = some (.int .i64 a1_2) := (blk_cell BK247.out 2).trans rfl; have hcz54_3 : w51.cell? ⟨gb247, 3, none⟩ = some (.int .i64 a1_3) := (blk_cell BK247.out 3).trans rfl; have hcz54_4 : w51.cell? ⟨gb247, 4, none⟩ = some (.int .i64 a1_4) := (blk_cell BK247.out 4).trans rfl; have hcz54_5 : w51.cell? ⟨gb247, 5, none⟩ = some (.bool a1_5) := (blk_cell BK247.out 5).trans rfl; have hcz54_6 : w51.cell? ⟨gb247, 6, none⟩ = some (.bool a1_6) := (blk_cell BK247.out 6).trans rfl; have hfz54_0 := blk_frozen BK247.out 0; have hfz54_1 := blk_frozen BK247.out 1; have hfz54_2 := blk_frozen BK247.out 2; have hfz54_3 := blk_frozen BK247.out 3; have hfz54_4 := blk_frozen BK247.out 4; have hfz54_5 := blk_frozen BK247.out 5; have hfz54_6 := blk_frozen BK247.out 6) | ((with_reducible refine gate_builtin (b := .append) (xs := #[.tmp 53, .tmp 55]) rfl ?_); at_builtin; refine Kd.R_append k31 (w0 := w) w.heap.size rfl (.tmp 53) (.tmp 55) 22 31 (.agg #[(.int .i64 0), (.int .i64 0), (.int .i64 0), (.int .i64 0), (.int .i64 0), (.bool false), (.bool false)]) 48 rfl Try.underlying22 info31 rfl (by decide) (by omega) u8 x8_3 (⟨(rd_T31 l0 x36_3).f0, (rd_T31 l0 x36_3).f1, (rd_T31 l0 x36_3).f2, (rd_T31 l0 x36_3).f3, (rd_T31 l0 x36_3).f4, (rd_T31 l0 x36_3).f5, (rd_T31 l0 x36_3).f6⟩ : S31) [.int .i64 ((rd_T31 l0 x36_3).f0), .int .i64 ((rd_T31 l0 x36_3).f1), .int .i64 ((rd_T31 l0 x36_3).f2), .int .i64 ((rd_T31 l0 x36_3).f3), .int .i64 ((rd_T31 l0 x36_3).f4), .bool ((rd_T31 l0 x36_3).f5), .bool ((rd_T31 l0 x36_3).f6)] (fun k_ => k_ ≠ gb247 ∧ k_ ≠ gb257) (fun _ => False) rfl (by first | (go_simp; done) | (go_simp; rfl)) ?aP (fun _ hk => hk.elim) ?aF ?aO ?aB ?aS ?aL ?_; (case aP => exact k31_mkM _ _ _ (⟨(rd_T31 l0 x36_3).f0, (rd_T31 l0 x36_3).f1, (rd_T31 l0 x36_3).f2, (rd_T31 l0 x36_3).f3, (rd_T31 l0 x36_3).f4, (rd_T31 l0 x36_3).f5, (rd_T31 l0 x36_3).f6⟩ : S31)); (case aB => exact (by repeat (first | (with_reducible first | exact HB.out | apply ba_ | apply bn_ | apply bd_ | refine below_set ?_ GE247.out | refine below_set ?_ GE257.out) | exact HB.out))); (case aF => exact (fun k_ hk => ⟨Kd.freshB (g := gb247) (o := .cells #[.int .i64 a1_0, .int .i64 a1_1, .int .i64 a1_2, .int .i64 a1_3, .int .i64 a1_4, .bool a1_5, .bool a1_6] 31 (0, 0)) (by (with_reducible repeat (first | refine blk_drewN ?_ _ | refine blk_drew ?_ | refine blk_alloc ?_ _)); refine blk_far ?_ NB247_257.out _; (with_reducible repeat (first | refine blk_drewN ?_ _ | refine blk_drew ?_ | refine blk_alloc ?_ _)); refine blk_far ?_ NB247_257.out _; (with_reducible repeat (first | refine blk_drewN ?_ _ | refine blk_drew ?_ | refine blk_alloc ?_ _)); refine blk_far ?_ NB247_257.out _; (with_reducible repeat (first | refine blk_drewN ?_ _ | refine blk_drew ?_ | refine blk_alloc ?_ _)); refine blk_far ?_ NB247_257.out _; (with_reducible repeat (first | refine blk_drewN ?_ _ | refine blk_drew ?_ | refine blk_alloc ?_ _)); refine blk_far ?_ NB247_257.out _; (with_reducible repeat (first | refine blk_drewN ?_ _ | refine blk_drew ?_ | refine blk_alloc ?_ _)); refine blk_far ?_ NB247_257.out _; (with_reducible repeat (first | refine blk_drewN ?_ _ | refine blk_drew ?_ | refine blk_alloc ?_ _)); refine blk_far ?_ NB247_257.out _; (with_reducible repeat (first | refine blk_drewN ?_ _ | refine blk_drew ?_ | refine blk_alloc ?_ _)); exact BK247.out) k_ hk, Kd.freshB (g := gb257) (o := .cells #[.int .i64 ((rd_T31 l0 x36_3).f0), .int .i64 ((rd_T31 l0 x36_3).f1), .int .i64 ((rd_T31 l0 x36_3).f2), .int .i64 ((rd_T31 l0 x36_3).f3), .int .i64 ((rd_T31 l0 x36_3).f4), .bool ((rd_T31 l0 x36_3).f5), .bool ((rd_T31 l0 x36_3).f6)] 31 (0, 0)) (by (with_reducible repeat (first | refine blk_drewN ?_ _ | refine blk_drew ?_ | refine blk_alloc ?_ _)); refine blk_put (cs := #[.int .i64 ((rd_T31 l0 x36_3).f0), .int .i64 ((rd_T31 l0 x36_3).f1), .int .i64 ((rd_T31 l0 x36_3).f2), .int .i64 ((rd_T31 l0 x36_3).f3), .int .i64 ((rd_T31 l0 x36_3).f4), .bool ((rd_T31 l0 x36_3).f5), .bool false]) ?_ 6 _ rfl; (with_reducible repeat (first | refine blk_drewN ?_ _ | refine blk_drew ?_ | refine blk_alloc ?_ _)); refine blk_put (cs := #[.int .i64 ((rd_T31 l0 x36_3).f0), .int .i64 ((rd_T31 l0 x36_3).f1), .int .i64 ((rd_T31 l0 x36_3).f2), .int .i64 ((rd_T31 l0 x36_3).f3), .int .i64 ((rd_T31 l0 x36_3).f4), .bool false, .bool false]) ?_ 5 _ rfl; (with_reducible repeat (first | refine blk_drewN ?_ _ | refine blk_drew ?_ | refine blk_alloc ?_ _)); refine blk_put (cs := #[.int .i64 ((rd_T31 l0 x36_3).f0), .int .i64 ((rd_T31 l0 x36_3).f1), .int .i64 ((rd_T31 l0 x36_3).f2), .int .i64 ((rd_T31 l0 x36_3).f3), .int .i64 0, .bool false, .bool false]) ?_ 4 _ rfl; (with_reducible repeat (first | refine blk_drewN ?_ _ | refine blk_drew ?_ | refine blk_alloc ?_ _)); refine blk_put (cs := #[.int .i64 ((rd_T31 l0 x36_3).f0), .int .i64 ((rd_T31 l0 x36_3).f1), .int .i64 ((rd_T31 l0 x36_3).f2), .int .i64 0, .int .i64 0, .bool false, .bool false]) ?_ 3 _ rfl; (with_reducible repeat (first | refine blk_drewN ?_ _ | refine blk_drew ?_ | refine blk_alloc ?_ _)); refine blk_put (cs := #[.int .i64 ((rd_T31 l0 x36_3).f0), .int .i64 ((rd_T31 l0 x36_3).f1), .int .i64 0, .int .i64 0, .int .i64 0, .bool false, .bool false]) ?_ 2 _ rfl; (with_reducible repeat (first | refine blk_drewN ?_ _ | refine blk_drew ?_ | refine blk_alloc ?_ _)); refine blk_put (cs := #[.int .i64 ((rd_T31 l0 x36_3).f0), .int .i64 0, .int .i64 0, .int .i64 0, .int .i64 0, .bool false, .bool false]) ?_ 1 _ rfl; (with_reducible repeat (first | refine blk_drewN ?_ _ | refine blk_drew ?_ | refine blk_alloc ?_ _)); refine blk_put (cs := #[.int .i64 0, .int .i64 0, .int .i64 0, .int .i64 0, .int .i64 0, .bool false, .bool false]) ?_ 0 _ rfl; (with_reducible repeat (first | refine blk_drewN ?_ _ | refine blk_drew ?_ | refine blk_alloc ?_ _)); exact BK257.out) k_ hk⟩)); (case aO => exact (by (with_reducible repeat (first | apply ra_ | apply rn_ | apply rd1_)); exact Kd.R_mono (Kd.R_far (p := ⟨gb257, 6, none⟩) (Kd.R_far (p := ⟨gb257, 5, none⟩) (Kd.R_far (p := ⟨gb257, 4, none⟩) (Kd.R_far (p := ⟨gb257, 3, none⟩) (Kd.R_far (p := ⟨gb257, 2, none⟩) (Kd.R_far (p := ⟨gb257, 1, none⟩) (Kd.R_far (p := ⟨gb257, 0, none⟩) (Kd.R_mono HO_8.out (fun k_ hk => (⟨hk, hk.2⟩ : _ ∧ k_ ≠ gb257))) (fun _ hk => hk.2) (.int .i64 ((rd_T31 l0 x36_3).f0))) (fun _ hk => hk.2) (.int .i64 ((rd_T31 l0 x36_3).f1))) (fun _ hk => hk.2) (.int .i64 ((rd_T31 l0 x36_3).f2))) (fun _ hk => hk.2) (.int .i64 ((rd_T31 l0 x36_3).f3))) (fun _ hk => hk.2) (.int .i64 ((rd_T31 l0 x36_3).f4))) (fun _ hk => hk.2) (.bool ((rd_T31 l0 x36_3).f5))) (fun _ hk => hk.2) (.bool ((rd_T31 l0 x36_3).f6))) (fun _ hk => ⟨hk.1.1, hk.1.2⟩))); (case aS => exact (below_size (by repeat (first | (with_reducible first | exact HB.out | apply ba_ | apply bn_ | apply bd_ | refine below_set ?_ GE247.out | refine below_set ?_ GE257.out) | exact HB.out)))); (case aL => have := LMc50.out; omega); intro v268 w55 ho hb hg hat; rw [← Ny267.out] at ho; have n0_ := am_ (blk_grown (g := gb247) (o := .cells #[.int .i64 a1_0, .int .i64 a1_1, .int .i64 a1_2, .int .i64 a1_3, .int .i64 a1_4, .bool a1_5, .bool a1_6] 31 (0, 0)) (by (with_reducible repeat (first | refine blk_drewN ?_ _ | refine blk_drew ?_ | refine blk_alloc ?_ _)); refine blk_far ?_ NB247_257.out _; (with_reducible repeat (first | refine blk_drewN ?_ _ | refine blk_drew ?_ | refine blk_alloc ?_ _)); refine blk_far ?_ NB247_257.out _; (with_reducible repeat (first | refine blk_drewN ?_ _ | refine blk_drew ?_ | refine blk_alloc ?_ _)); refine blk_far ?_ NB247_257.out _; (with_reducible repeat (first | refine blk_drewN ?_ _ | refine blk_drew ?_ | refine blk_alloc ?_ _)); refine blk_far ?_ NB247_257.out _; (with_reducible repeat (first | refine blk_drewN ?_ _ | refine blk_drew ?_ | refine blk_alloc ?_ _)); refine blk_far ?_ NB247_257.out _; (with_reducible repeat (first | refine blk_drewN ?_ _ | refine blk_drew ?_ | refine blk_alloc ?_ _)); refine blk_far ?_ NB247_257.out _; (with_reducible repeat (first | refine blk_drewN ?_ _ | refine blk_drew ?_ | refine blk_alloc ?_ _)); refine blk_far ?_ NB247_257.out _; (with_reducible repeat (first | refine blk_drewN ?_ _ | refine blk_drew ?_ | refine blk_alloc ?_ _)); exact BK247.out) hg (Kd.R_away HO_8.out (fun _ hk => hk.1))); have n1_ := am_ (blk_grown (g := gb257) (o := .cells #[.int .i64 ((rd_T31 l0 x36_3).f0), .int .i64 ((rd_T31 l0 x36_3).f1), .int .i64 ((rd_T31 l0 x36_3).f2), .int .i64 ((rd_T31 l0 x36_3).f3), .int .i64 ((rd_T31 l0 x36_3).f4), .bool ((rd_T31 l0 x36_3).f5), .bool ((rd_T31 l0 x36_3).f6)] 31 (0, 0)) (by (with_reducible repeat (first | refine blk_drewN ?_ _ | refine blk_drew ?_ | refine blk_alloc ?_ _)); refine blk_put (cs := #[.int .i64 ((rd_T31 l0 x36_3).f0), .int .i64 ((rd_T31 l0 x36_3).f1), .int .i64 ((rd_T31 l0 x36_3).f2), .int .i64 ((rd_T31 l0 x36_3).f3), .int .i64 ((rd_T31 l0 x36_3).f4), .bool ((rd_T31 l0 x36_3).f5), .bool false]) ?_ 6 _ rfl; (with_reducible repeat (first | refine blk_drewN ?_ _ | refine blk_drew ?_ | refine blk_alloc ?_ _)); refine blk_put (cs := #[.int .i64 ((rd_T31 l0 x36_3).f0), .int .i64 ((rd_T31 l0 x36_3).f1), .int .i64 ((rd_T31 l0 x36_3).f2), .int .i64 ((rd_T31 l0 x36_3).f3), .int .i64 ((rd_T31 l0 x36_3).f4), .bool false, .bool false]) ?_ 5 _ rfl; (with_reducible repeat (first | refine blk_drewN ?_ _ | refine blk_drew ?_ | refine blk_alloc ?_ _)); refine blk_put (cs := #[.int .i64 ((rd_T31 l0 x36_3).f0), .int .i64 ((rd_T31 l0 x36_3).f1), .int .i64 ((rd_T31 l0 x36_3).f2), .int .i64 ((rd_T31 l0 x36_3).f3), .int .i64 0, .bool false, .bool false]) ?_ 4 _ rfl; (with_reducible repeat (first | refine blk_drewN ?_ _ | refine blk_drew ?_ | refine blk_alloc ?_ _)); refine blk_put (cs := #[.int .i64 ((rd_T31 l0 x36_3).f0), .int .i64 ((rd_T31 l0 x36_3).f1), .int .i64 ((rd_T31 l0 x36_3).f2), .int .i64 0, .int .i64 0, .bool false, .bool false]) ?_ 3 _ rfl; (with_reducible repeat (first | refine blk_drewN ?_ _ | refine blk_drew ?_ | refine blk_alloc ?_ _)); refine blk_put (cs := #[.int .i64 ((rd_T31 l0 x36_3).f0), .int .i64 ((rd_T31 l0 x36_3).f1), .int .i64 0, .int .i64 0, .int .i64 0, .bool false, .bool false]) ?_ 2 _ rfl; (with_reducible repeat (first | refine blk_drewN ?_ _ | refine blk_drew ?_ | refine blk_alloc ?_ _)); refine blk_put (cs := #[.int .i64 ((rd_T31 l0 x36_3).f0), .int .i64 0, .int .i64 0, .int .i64 0, .int .i64 0, .bool false, .bool false]) ?_ 1 _ rfl; (with_reducible repeat (first | refine blk_drewN ?_ _ | refine blk_drew ?_ | refine blk_alloc ?_ _)); refine blk_put (cs := #[.int .i64 0, .int .i64 0, .int .i64 0, .int .i64 0, .int .i64 0, .bool false, .bool false]) ?_ 0 _ rfl; (with_reducible repeat (first | refine blk_drewN ?_ _ | refine blk_drew ?_ | refine blk_alloc ?_ _)); exact BK257.out) hg (Kd.R_away HO_8.out (fun _ hk => hk.2))); have n2_ := am_ (hb); have n3_ := am_ (ho); clear BK247; clear BK257; clear HB; clear HO_8; have BK247 := n0_; have BK257 := n1_; have HB := n2_; have HO269 := n3_; clear n0_ n1_ n2_ n3_; clear ho hb hg hat))
                go_roundg k3
                case measure => have := HJ2.out; have := HK2.out; have := HK3.out; omega
                case rel => exact ⟨(y267), (false), (wrap64 (x36_3 + 1)), (by first | rfl | (simp; done) | (simp [*]; done)), (by first | rfl | (simp; done) | (simp [*]; done)), H', ⟨by have := HJ2.out; have := HK2.out; have := HK3.out; omega⟩, ⟨by (with_reducible repeat (first | apply ra_ | apply rn_ | apply rd1_)); exact Kd.R_mono HO269.out (fun _ hk => hk.1)⟩, ⟨by (with_reducible repeat (first | refine blk_drewN ?_ _ | refine blk_drew ?_ | refine blk_alloc ?_ _)); exact BK247.out⟩, ⟨by repeat (first | (with_reducible first | exact HB.out | apply ba_ | apply bn_ | apply bd_ | refine below_set ?_ GE247.out | refine below_set ?_ GE257.out) | exact HB.out)⟩⟩
               ·rw [if_neg c50] at H
                exact absurd H (by simp)
            ·rw [if_neg c33] at H
             exact absurd H (by simp)
           ·rw [if_neg c32] at H
            exact absurd H (by simp)
          ·rw [if_neg c31] at H
           have c31b0 : decide (x36_3 < (l0.length : Int)) = false := decide_eq_false c31
           clear c31
           by_cases c56 : x9_3 = true
           ·subst c56
            have H1 : (some (x8_3, 0)) = some (r1, r2) := by rw [if_pos rfl] at H; exact H
            clear H
            have H := H1
            clear H1
            simp only [Option.some.injEq, Prod.mk.injEq] at H
            obtain ⟨rfl, rfl⟩ := H
            go_wp2
            go_ret2
            exact ⟨_, by first | rfl | (simp [errW_none, errW_some] <;> rfl) | (simp [*, errW_none, errW_some] <;> rfl), by (with_reducible repeat (first | apply ra_ | apply rn_ | apply rd1_)); exact Kd.R_mono HO_8.out (fun _ hk => trivial), by repeat (first | (with_reducible first | exact HB.out | apply ba_ | apply bn_ | apply bd_ | refine below_set ?_ GE247.out) | exact HB.out)⟩
           ·replace c56 := Bool.eq_false_iff.mpr c56
            subst c56
            have H1 : (if x8_3.length < 2932031007402 then (some ((x8_3 ++ [(⟨a1_0, a1_1, a1_2, a1_3, a1_4, a1_5, a1_6⟩ : S31)]), 0)) else (none)) = some (r1, r2) := by rw [if_neg (show ¬ (false = true) by decide)] at H; exact H
            clear H
            have H := H1
            clear H1
            by_cases c57 : x8_3.length < 2932031007402
            ·rw [if_pos c57] at H
             have LMc57 := am_ c57
             clear c57
             obtain ⟨y270, hy270⟩ : ∃ y_ : List (S31), y_ = (x8_3 ++ [(⟨a1_0, a1_1, a1_2, a1_3, a1_4, a1_5, a1_6⟩ : S31)]) := ⟨_, rfl⟩
             replace H : (some (y270, 0)) = some (r1, r2) := by first | (rw [hy270]; with_reducible exact H) | (have H2_ := (Option.bind_some _ _).symm.trans H; rw [hy270]; with_reducible exact H2_) | (have H2_ := (Option.bind_some _ _).symm.trans H; with_reducible exact H2_) | with_reducible exact H | (rw [hy270]; exact H) | exact H
             have Ny270 := am_ hy270
             clear hy270
             simp only [Option.some.injEq, Prod.mk.injEq] at H
             obtain ⟨rfl, rfl⟩ := H
             have hcz58_0 : wr.cell? ⟨gb247, 0, none⟩ = some (.int .i64 a1_0) := (blk_cell BK247.out 0).trans rfl
             have hcz58_1 : wr.cell? ⟨gb247, 1, none⟩ = some (.int .i64 a1_1) := (blk_cell BK247.out 1).trans rfl
             have hcz58_2 : wr.cell? ⟨gb247, 2, none⟩ = some (.int .i64 a1_2) := (blk_cell BK247.out 2).trans rfl
             have hcz58_3 : wr.cell? ⟨gb247, 3, none⟩ = some (.int .i64 a1_3) := (blk_cell BK247.out 3).trans rfl
             have hcz58_4 : wr.cell? ⟨gb247, 4, none⟩ = some (.int .i64 a1_4) := (blk_cell BK247.out 4).trans rfl
             have hcz58_5 : wr.cell? ⟨gb247, 5, none⟩ = some (.bool a1_5) := (blk_cell BK247.out 5).trans rfl
             have hcz58_6 : wr.cell? ⟨gb247, 6, none⟩ = some (.bool a1_6) := (blk_cell BK247.out 6).trans rfl
             have hfz58_0 := blk_frozen BK247.out 0
             have hfz58_1 := blk_frozen BK247.out 1
             have hfz58_2 := blk_frozen BK247.out 2
             have hfz58_3 := blk_frozen BK247.out 3
             have hfz58_4 := blk_frozen BK247.out 4
             have hfz58_5 := blk_frozen BK247.out 5
             have hfz58_6 := blk_frozen BK247.out 6
             go_wp2_with (first | ((with_reducible refine gate_builtin (b := .append) (xs := #[.tmp 60, .tmp 62]) rfl ?_); at_builtin; refine Kd.R_append k31 (w0 := w) w.heap.size rfl (.tmp 60) (.tmp 62) 22 31 (.agg #[(.int .i64 0), (.int .i64 0), (.int .i64 0), (.int .i64 0), (.int .i64 0), (.bool false), (.bool false)]) 48 rfl Try.underlying22 info31 rfl (by decide) (by omega) u8 x8_3 (⟨a1_0, a1_1, a1_2, a1_3, a1_4, a1_5, a1_6⟩ : S31) [.int .i64 a1_0, .int .i64 a1_1, .int .i64 a1_2, .int .i64 a1_3, .int .i64 a1_4, .bool a1_5, .bool a1_6] (fun k_ => k_ ≠ gb247) (fun _ => False) rfl rfl ?aP (fun _ hk => hk.elim) ?aF ?aO ?aB ?aS ?aL ?_; (case aP => exact k31_mkM _ _ _ (⟨a1_0, a1_1, a1_2, a1_3, a1_4, a1_5, a1_6⟩ : S31)); (case aB => exact (by repeat (first | (with_reducible first | exact HB.out | apply ba_ | apply bn_ | apply bd_ | refine below_set ?_ GE247.out) | exact HB.out))); (case aF => exact (fun k_ hk => Kd.freshB (g := gb247) (o := .cells #[.int .i64 a1_0, .int .i64 a1_1, .int .i64 a1_2, .int .i64 a1_3, .int .i64 a1_4, .bool a1_5, .bool a1_6] 31 (0, 0)) (by (with_reducible repeat (first | refine blk_drewN ?_ _ | refine blk_drew ?_ | refine blk_alloc ?_ _)); exact BK247.out) k_ hk)); (case aO => exact (by (with_reducible repeat (first | apply ra_ | apply rn_ | apply rd1_)); exact HO_8.out)); (case aS => exact (below_size (by repeat (first | (with_reducible first | exact HB.out | apply ba_ | apply bn_ | apply bd_ | refine below_set ?_ GE247.out) | exact HB.out)))); (case aL => have := LMc57.out; omega); intro v271 w59 ho hb hg hat; rw [← Ny270.out] at ho; have n0_ := am_ (blk_grown (g := gb247) (o := .cells #[.int .i64 a1_0, .int .i64 a1_1, .int .i64 a1_2, .int .i64 a1_3, .int .i64 a1_4, .bool a1_5, .bool a1_6] 31 (0, 0)) (by (with_reducible repeat (first | refine blk_drewN ?_ _ | refine blk_drew ?_ | refine blk_alloc ?_ _)); exact BK247.out) hg (Kd.R_away HO_8.out (fun _ hk => hk))); have n1_ := am_ (hb); have n2_ := am_ (ho); clear BK247; clear HB; clear HO_8; have BK247 := n0_; have HB := n1_; have HO272 := n2_; clear n0_ n1_ n2_; clear ho hb hg hat))
             go_ret2
             exact ⟨_, by first | rfl | (simp [errW_none, errW_some] <;> rfl) | (simp [*, errW_none, errW_some] <;> rfl), by (with_reducible repeat (first | apply ra_ | apply rn_ | apply rd1_)); exact Kd.R_mono HO272.out (fun _ hk => trivial), by repeat (first | (with_reducible first | exact HB.out | apply ba_ | apply bn_ | apply bd_ | refine below_set ?_ GE247.out) | exact HB.out)⟩
            ·rw [if_neg c57] at H
             exact absurd H (by simp)

end Go.Proofs.YtcgmlcblcioaeaaZ
-- Written by a program of this session (gprint.py, over the kit's printer).
namespace Go.Proofs.YtcgmlcblcioaeaaZ
open Go.RowKit Go.Proofs.YtcgmlcblcioaeaaW.PrintWords Go.Proofs.YtcgmlcblcioaeaaW.PrintLast Go.Proofs.YtcgmlcblcioaeaaW.PrintMore
attribute [local go_sem] max2_int min2_int max_two min_two max_three min_three max_four min_four   -- for this text's walks alone
set_option linter.unusedVariables false
set_option linter.unusedSimpArgs false

/-! ### gatehouseref05_Cut: function 17 -/
def gatehouseref05_Cut.l0 : Nat → List (S31) → Int → List (S31) → List (S31) → Int → Int → Option ((List (S31)) × Int)
 | 0, _, _, _, _, _, _ => none
 | k + 1, x0, x1, x6, x13, x14, x15 => if x15 < x14 then (if 0 ≤ x15 then (if x15 < (x13.length : Int) then (if ((rd_T31 x13 x15).f0) = x1 then (gatehouseref05_Cut.l0 k x0 x1 x6 x13 x14 (wrap64 (x15 + 1))) else (if x6.length < 2932031007402 then (gatehouseref05_Cut.l0 k x0 x1 (x6 ++ [(⟨(rd_T31 x13 x15).f0, (rd_T31 x13 x15).f1, (rd_T31 x13 x15).f2, (rd_T31 x13 x15).f3, (rd_T31 x13 x15).f4, (rd_T31 x13 x15).f5, (rd_T31 x13 x15).f6⟩ : S31)]) x13 x14 (wrap64 (x15 + 1))) else (none))) else (none)) else (none)) else (if (x6.length : Int) = (x0.length : Int) then (some (([] : List (S31)), 4)) else (some (x6, 0)))
def gatehouseref05_Cut.f (k : Nat) (l0 : List (S31)) (a1 : Int) : Option ((List (S31)) × Int) := (gatehouseref05_Right.f k l0).bind fun t273 => (if t273 = true then (gatehouseref05_Cut.l0 k l0 a1 (([] : List (S31))) l0 (l0.length : Int) 0) else (some (([] : List (S31)), 1)))
theorem gatehouseref05_Cut.mono_l : ∀ k, (∀ y0 y1 y2 y3 y4 y5, LeO (gatehouseref05_Cut.l0 k y0 y1 y2 y3 y4 y5) (gatehouseref05_Cut.l0 (k + 1) y0 y1 y2 y3 y4 y5))
 | 0 => fun _ _ _ _ _ _ r h => by simp [gatehouseref05_Cut.l0] at h
 | k + 1 => by
  have ih0 := gatehouseref05_Cut.mono_l k
  ·intro y0 y1 y2 y3 y4 y5
   unfold gatehouseref05_Cut.l0
   repeat' first
   | (with_reducible exact ih0 _ _ _ _ _ _)
   | (with_reducible exact gatehouseref05_Right.mono _ _)
   | (with_reducible exact LeO.refl _)
   | (with_reducible exact LeO.none _)
   | (with_reducible refine LeO.ite ?_ ?_)
   | (with_reducible refine LeO.bind ?_ (fun _ => ?_))
   | exact ih0 _ _ _ _ _ _
   | exact gatehouseref05_Right.mono _ _
   | exact LeO.none _
   | refine LeO.ite ?_ ?_
   | refine LeO.bind ?_ (fun _ => ?_)
theorem gatehouseref05_Cut.mono : ∀ a0 a1 k, LeO (gatehouseref05_Cut.f k a0 a1) (gatehouseref05_Cut.f (k + 1) a0 a1) := by
 intro a0 a1 k
 have ih0 := gatehouseref05_Cut.mono_l k
 unfold gatehouseref05_Cut.f
 repeat' first
   | (with_reducible exact ih0 _ _ _ _ _ _)
   | (with_reducible exact gatehouseref05_Right.mono _ _)
   | (with_reducible exact LeO.refl _)
   | (with_reducible exact LeO.none _)
   | (with_reducible refine LeO.ite ?_ ?_)
   | (with_reducible refine LeO.bind ?_ (fun _ => ?_))
   | exact ih0 _ _ _ _ _ _
   | exact gatehouseref05_Right.mono _ _
   | exact LeO.none _
   | refine LeO.ite ?_ ?_
   | refine LeO.bind ?_ (fun _ => ?_)
set_option maxHeartbeats 8000000 in
set_option maxRecDepth 100000 in
theorem gatehouseref05_Cut.calls (k : Nat) (A0 : Option Addr) (c0 : Nat) (l0 : List (S31)) (a1 : Int) (r1 : List (S31)) (r2 : Int) (w : World) (hr0 : Kd.C k31 w A0 l0.length l0) (hc0 : l0.length ≤ c0) (h : gatehouseref05_Cut.f k l0 a1 = some (r1, r2)) :
  Calls Try.prog 17 #[.slice A0 l0.length c0, .int .i64 a1] w fun e w' => ∃ v0_ : Value, e = .returned (.tuple #[v0_, .int .i64 r2]) ∧ Kd.R k31 31 w' w.heap.size (fun _ => True) v0_ r1 ∧ Below w.heap.size w w' := by
 have hu31 := Try.underlying31
 have HR0 := am_ hr0
 have HC0 := am_ hc0
 clear hr0 hc0
 have HB := am_ (Below.refl w.heap.size w)
 have H : ((gatehouseref05_Right.f k l0).bind fun t273 => (if t273 = true then (gatehouseref05_Cut.l0 k l0 a1 (([] : List (S31))) l0 (l0.length : Int) 0) else (some (([] : List (S31)), 1)))) = some (r1, r2) := h
 clear h
 replace H := Option.bind_eq_some_iff.mp H
 obtain ⟨t273, A30, H⟩ := H
 replace H : (if t273 = true then (gatehouseref05_Cut.l0 k l0 a1 (([] : List (S31))) l0 (l0.length : Int) 0) else (some (([] : List (S31)), 1))) = some (r1, r2) := H
 have A3 := am_ A30
 clear A30
 by_cases c4 : t273 = true
 ·subst c4
  have H1 : (gatehouseref05_Cut.l0 k l0 a1 (([] : List (S31))) l0 (l0.length : Int) 0) = some (r1, r2) := by rw [if_pos rfl] at H; exact H
  clear H
  have H := H1
  clear H1
  obtain ⟨y274, hy274⟩ : ∃ y_ : List (S31), y_ = (([] : List (S31))) := ⟨_, rfl⟩
  replace H : (gatehouseref05_Cut.l0 k l0 a1 y274 l0 (l0.length : Int) 0) = some (r1, r2) := by first | (rw [hy274]; with_reducible exact H) | (have H2_ := (Option.bind_some _ _).symm.trans H; rw [hy274]; with_reducible exact H2_) | (have H2_ := (Option.bind_some _ _).symm.trans H; with_reducible exact H2_) | with_reducible exact H | (rw [hy274]; exact H) | exact H
  have Ny274 := am_ hy274
  clear hy274
  have H' := am_ H
  clear H
  go_enter Try.func17, Try.ntmps17
  go_wp2_with (first | ((with_reducible refine gate_callee (f := 19) rfl ?_); refine goesL_ (some 10) rfl rfl Try.func19 (by kernel_rfl) rfl #[.slice A0 l0.length c0] rfl (by (try simp only [List.map_toArray, List.map_cons, List.map_nil]); first | done | rfl | (simp only [List.length_drop, List.length_take]; rfl)) ?_; (with_reducible refine (gatehouseref05_Right.calls k _ _ l0 true _ ?side1 ?side2 A3.out).mono ?_); (case side1 => repeat (first | exact HR0.out | (with_reducible refine ca_ ?_ _) | (with_reducible refine cn_ ?_ _) | (with_reducible refine cd_ ?_))); (case side2 => exact HC0.out); rintro e w5 ⟨rfl, hb⟩; refine ⟨_, rfl, ?_⟩; have n0_ := am_ (below_step (by repeat (first | (with_reducible first | exact HB.out | apply ba_ | apply bn_ | apply bd_) | exact HB.out)) hb); clear HB; have HB := n0_; clear n0_; (try clear hb); (try clear hb2); (try clear hk); (try clear hi)) | ((with_reducible refine gate_dst (N := 12) rfl ?_); refine Kd.R_lit k31 _ 31 ?hg (N := 12) ?hd (xs := ([] : List (S31))) (inner := []) (ok := fun _ => True) (okp := fun _ => True) ?hr ?hp (fun _ hk => hk) trivial (Below.refl _ _) (Nat.le_refl _) (by simp) ?_; (case hd => rfl); (case hg => rfl); (case hr => first | (go_simp; done) | (go_simp; rfl)); (case hp => exact (Reps.none _ _)); intro v275 w6 ho7 hb hg_ hnew_; clear hg_ hnew_; (first | rw [← Ny274.out] at ho7 | (simp only [Int.reduceToNat] at ho7; rw [← Ny274.out] at ho7)); have n0_ := am_ (Kd.R_lower ho7 (below_size (by repeat (first | (with_reducible first | exact HB.out | apply ba_ | apply bn_ | apply bd_) | exact HB.out)))); have n1_ := am_ (below_step (by repeat (first | (with_reducible first | exact HB.out | apply ba_ | apply bn_ | apply bd_) | exact HB.out)) hb); clear HB; have HO276 := n0_; have HB := n1_; clear n0_ n1_; clear hb ho7))
  go_loopg [6, 15] k (fun kq v6 v15 w' => ∃ (x6_1 : List (S31)) (x15_1 : Int), v15 = .int .i64 x15_1 ∧ Aside0 (gatehouseref05_Cut.l0 kq l0 a1 x6_1 l0 (l0.length : Int) x15_1 = some (r1, r2)) ∧ Aside0 (kq ≤ k) ∧ Aside0 (Kd.R k31 31 w' w.heap.size (fun _ => True) v6 x6_1) ∧ Aside0 (Below w.heap.size w w'))
  case atStart => exact ⟨(y274), (0), (by first | rfl | (simp; done) | (simp [*]; done)), H', ⟨Nat.le_refl _⟩, ⟨by (with_reducible repeat (first | apply ra_ | apply rn_ | apply rd1_)); exact HO276.out⟩, ⟨by repeat (first | (with_reducible first | exact HB.out | apply ba_ | apply bn_ | apply bd_) | exact HB.out)⟩⟩
  case round =>
   clear H'
   try clear c1
   try clear p2
   try clear c4
   obtain ⟨x6_1, x15_1, rfl, HA, HK1, HO_6, HB⟩ := hrel
   cases gk with
   | zero => exact absurd HA.out (by simp [gatehouseref05_Cut.l0])
   | succ k1 =>
    have H := HA.out
    clear HA
    simp only [gatehouseref05_Cut.l0] at H
    by_cases c8 : x15_1 < (l0.length : Int)
    ·rw [if_pos c8] at H
     have c8b0 : decide (x15_1 < (l0.length : Int)) = true := decide_eq_true c8
     clear c8
     by_cases c9 : 0 ≤ x15_1
     ·rw [if_pos c9] at H
      have c9b0 : decide (0 ≤ x15_1) = true := decide_eq_true c9
      clear c9
      by_cases c10 : x15_1 < (l0.length : Int)
      ·rw [if_pos c10] at H
       have c10b0 : decide (x15_1 < (l0.length : Int)) = true := decide_eq_true c10
       clear c10
       by_cases c11 : ((rd_T31 l0 x15_1).f0) = a1
       ·rw [if_pos c11] at H
        have c11b0 : (((rd_T31 l0 x15_1).f0) == a1) = true := beq_iff_eq.mpr c11
        have c11b1 : (((rd_T31 l0 x15_1).f0) != a1) = false := bne_eq_false_iff_eq.mpr c11
        clear c11
        have H' := am_ H
        clear H
        have p277 : 0 ≤ (x15_1 : Int) := of_decide_eq_true (by first | (with_reducible assumption) | assumption)
        have q277 : x15_1 < (l0.length : Int) := of_decide_eq_true (by first | (with_reducible assumption) | assumption)
        obtain ⟨ad277, e277, hx277_0, hx277_1, hx277_2, hx277_3, hx277_4, hx277_5, hx277_6⟩ := at_T31 HR0.out x15_1 p277 q277
        cases e277
        replace hx277_0 := (HB.out.cell (World.block_lt_of_cell? w _ hx277_0)).trans hx277_0
        replace hx277_1 := (HB.out.cell (World.block_lt_of_cell? w _ hx277_1)).trans hx277_1
        replace hx277_2 := (HB.out.cell (World.block_lt_of_cell? w _ hx277_2)).trans hx277_2
        replace hx277_3 := (HB.out.cell (World.block_lt_of_cell? w _ hx277_3)).trans hx277_3
        replace hx277_4 := (HB.out.cell (World.block_lt_of_cell? w _ hx277_4)).trans hx277_4
        replace hx277_5 := (HB.out.cell (World.block_lt_of_cell? w _ hx277_5)).trans hx277_5
        replace hx277_6 := (HB.out.cell (World.block_lt_of_cell? w _ hx277_6)).trans hx277_6
        replace p277 := eq_true p277
        replace q277 := eq_true q277
        go_wp2_with (first | ((with_reducible refine gate_dst (N := 8) rfl ?_); refine box_event ?hg (N := 8) ?hd (cs := #[.int .i64 0, .int .i64 0, .int .i64 0, .int .i64 0, .int .i64 0, .bool false, .bool false]) (t := 31) ?hr ?_; (case hd => rfl); (case hg => rfl); (case hr => first | (go_simp; done) | (go_simp; rfl)); intro gb278 hg w12 hbox hb; have n0_ := am_ (Kd.R_below (Kd.R_elderB (by (with_reducible repeat (first | apply ra_ | apply rn_ | apply rd1_)); exact HO_6.out) gb278 (Nat.le_of_eq hg.symm)) hb); have n1_ := am_ (below_step (by repeat (first | (with_reducible first | exact HB.out | apply ba_ | apply bn_ | apply bd_) | exact HB.out)) hb); have n2_ := am_ (hbox); have n3_ := am_ ((by rw [hg]; exact (below_size (by repeat (first | (with_reducible first | exact HB.out | apply ba_ | apply bn_ | apply bd_) | exact HB.out))) : w.heap.size ≤ gb278)); have n4_ := am_ ((by rw [hg]; exact (below_size (by repeat (first | (with_reducible first | exact HB.out | apply ba_ | apply bn_ | apply bd_) | exact HB.out))) : w.heap.size ≤ gb278)); clear HO_6; clear HB; have HO_6 := n0_; have HB := n1_; have BK278 := n2_; have GW278 := n3_; have GE278 := n4_; clear n0_ n1_ n2_ n3_ n4_; clear hb hbox hg; have hcz13_0 : w12.cell? ⟨gb278, 0, none⟩ = some (.int .i64 0) := (blk_cell BK278.out 0).trans rfl; have hcz13_1 : w12.cell? ⟨gb278, 1, none⟩ = some (.int .i64 0) := (blk_cell BK278.out 1).trans rfl; have hcz13_2 : w12.cell? ⟨gb278, 2, none⟩ = some (.int .i64 0) := (blk_cell BK278.out 2).trans rfl; have hcz13_3 : w12.cell? ⟨gb278, 3, none⟩ = some (.int .i64 0) := (blk_cell BK278.out 3).trans rfl; have hcz13_4 : w12.cell? ⟨gb278, 4, none⟩ = some (.int .i64 0) := (blk_cell BK278.out 4).trans rfl; have hcz13_5 : w12.cell? ⟨gb278, 5, none⟩ = some (.bool false) := (blk_cell BK278.out 5).trans rfl; have hcz13_6 : w12.cell? ⟨gb278, 6, none⟩ = some (.bool false) := (blk_cell BK278.out 6).trans rfl; have hfz13_0 := blk_frozen BK278.out 0; have hfz13_1 := blk_frozen BK278.out 1; have hfz13_2 := blk_frozen BK278.out 2; have hfz13_3 := blk_frozen BK278.out 3; have hfz13_4 := blk_frozen BK278.out 4; have hfz13_5 := blk_frozen BK278.out 5; have hfz13_6 := blk_frozen BK278.out 6))
        go_roundg k1
        case measure => have := HK1.out; omega
        case rel => exact ⟨(x6_1), (wrap64 (x15_1 + 1)), (by first | rfl | (simp; done) | (simp [*]; done)), H', ⟨by have := HK1.out; omega⟩, ⟨by (with_reducible repeat (first | apply ra_ | apply rn_ | apply rd1_)); exact Kd.R_mono (Kd.R_far (p := ⟨gb278, 6, none⟩) (Kd.R_far (p := ⟨gb278, 5, none⟩) (Kd.R_far (p := ⟨gb278, 4, none⟩) (Kd.R_far (p := ⟨gb278, 3, none⟩) (Kd.R_far (p := ⟨gb278, 2, none⟩) (Kd.R_far (p := ⟨gb278, 1, none⟩) (Kd.R_far (p := ⟨gb278, 0, none⟩) (Kd.R_mono HO_6.out (fun k_ hk => (⟨hk, hk.2⟩ : _ ∧ k_ ≠ gb278))) (fun _ hk => hk.2) (.int .i64 ((rd_T31 l0 x15_1).f0))) (fun _ hk => hk.2) (.int .i64 ((rd_T31 l0 x15_1).f1))) (fun _ hk => hk.2) (.int .i64 ((rd_T31 l0 x15_1).f2))) (fun _ hk => hk.2) (.int .i64 ((rd_T31 l0 x15_1).f3))) (fun _ hk => hk.2) (.int .i64 ((rd_T31 l0 x15_1).f4))) (fun _ hk => hk.2) (.bool ((rd_T31 l0 x15_1).f5))) (fun _ hk => hk.2) (.bool ((rd_T31 l0 x15_1).f6))) (fun _ hk => trivial)⟩, ⟨by repeat (first | (with_reducible first | exact HB.out | apply ba_ | apply bn_ | apply bd_ | refine below_set ?_ GE278.out) | exact HB.out)⟩⟩
       ·rw [if_neg c11] at H
        have c11b0 : (((rd_T31 l0 x15_1).f0) == a1) = false := beq_eq_false_iff_ne.mpr c11
        have c11b1 : (((rd_T31 l0 x15_1).f0) != a1) = true := bne_iff_ne.mpr c11
        by_cases c14 : x6_1.length < 2932031007402
        ·rw [if_pos c14] at H
         have LMc14 := am_ c14
         clear c14
         obtain ⟨y279, hy279⟩ : ∃ y_ : List (S31), y_ = (x6_1 ++ [(⟨(rd_T31 l0 x15_1).f0, (rd_T31 l0 x15_1).f1, (rd_T31 l0 x15_1).f2, (rd_T31 l0 x15_1).f3, (rd_T31 l0 x15_1).f4, (rd_T31 l0 x15_1).f5, (rd_T31 l0 x15_1).f6⟩ : S31)]) := ⟨_, rfl⟩
         replace H : (gatehouseref05_Cut.l0 k1 l0 a1 y279 l0 (l0.length : Int) (wrap64 (x15_1 + 1))) = some (r1, r2) := by first | (rw [hy279]; with_reducible exact H) | (have H2_ := (Option.bind_some _ _).symm.trans H; rw [hy279]; with_reducible exact H2_) | (have H2_ := (Option.bind_some _ _).symm.trans H; with_reducible exact H2_) | with_reducible exact H | (rw [hy279]; exact H) | exact H
         have Ny279 := am_ hy279
         clear hy279
         have H' := am_ H
         clear H
         have p277 : 0 ≤ (x15_1 : Int) := of_decide_eq_true (by first | (with_reducible assumption) | assumption)
         have q277 : x15_1 < (l0.length : Int) := of_decide_eq_true (by first | (with_reducible assumption) | assumption)
         obtain ⟨ad277, e277, hx277_0, hx277_1, hx277_2, hx277_3, hx277_4, hx277_5, hx277_6⟩ := at_T31 HR0.out x15_1 p277 q277
         cases e277
         replace hx277_0 := (HB.out.cell (World.block_lt_of_cell? w _ hx277_0)).trans hx277_0
         replace hx277_1 := (HB.out.cell (World.block_lt_of_cell? w _ hx277_1)).trans hx277_1
         replace hx277_2 := (HB.out.cell (World.block_lt_of_cell? w _ hx277_2)).trans hx277_2
         replace hx277_3 := (HB.out.cell (World.block_lt_of_cell? w _ hx277_3)).trans hx277_3
         replace hx277_4 := (HB.out.cell (World.block_lt_of_cell? w _ hx277_4)).trans hx277_4
         replace hx277_5 := (HB.out.cell (World.block_lt_of_cell? w _ hx277_5)).trans hx277_5
         replace hx277_6 := (HB.out.cell (World.block_lt_of_cell? w _ hx277_6)).trans hx277_6
         replace p277 := eq_true p277
         replace q277 := eq_true q277
         go_wp2_with (first | ((with_reducible refine gate_dst (N := 8) rfl ?_); refine box_event ?hg (N := 8) ?hd (cs := #[.int .i64 0, .int .i64 0, .int .i64 0, .int .i64 0, .int .i64 0, .bool false, .bool false]) (t := 31) ?hr ?_; (case hd => rfl); (case hg => rfl); (case hr => first | (go_simp; done) | (go_simp; rfl)); intro gb278 hg w15 hbox hb; have n0_ := am_ (Kd.R_below (Kd.R_elderB (by (with_reducible repeat (first | apply ra_ | apply rn_ | apply rd1_)); exact HO_6.out) gb278 (Nat.le_of_eq hg.symm)) hb); have n1_ := am_ (below_step (by repeat (first | (with_reducible first | exact HB.out | apply ba_ | apply bn_ | apply bd_) | exact HB.out)) hb); have n2_ := am_ (hbox); have n3_ := am_ ((by rw [hg]; exact (below_size (by repeat (first | (with_reducible first | exact HB.out | apply ba_ | apply bn_ | apply bd_) | exact HB.out))) : w.heap.size ≤ gb278)); have n4_ := am_ ((by rw [hg]; exact (below_size (by repeat (first | (with_reducible first | exact HB.out | apply ba_ | apply bn_ | apply bd_) | exact HB.out))) : w.heap.size ≤ gb278)); clear HO_6; clear HB; have HO_6 := n0_; have HB := n1_; have BK278 := n2_; have GW278 := n3_; have GE278 := n4_; clear n0_ n1_ n2_ n3_ n4_; clear hb hbox hg; have hcz16_0 : w15.cell? ⟨gb278, 0, none⟩ = some (.int .i64 0) := (blk_cell BK278.out 0).trans rfl; have hcz16_1 : w15.cell? ⟨gb278, 1, none⟩ = some (.int .i64 0) := (blk_cell BK278.out 1).trans rfl; have hcz16_2 : w15.cell? ⟨gb278, 2, none⟩ = some (.int .i64 0) := (blk_cell BK278.out 2).trans rfl; have hcz16_3 : w15.cell? ⟨gb278, 3, none⟩ = some (.int .i64 0) := (blk_cell BK278.out 3).trans rfl; have hcz16_4 : w15.cell? ⟨gb278, 4, none⟩ = some (.int .i64 0) := (blk_cell BK278.out 4).trans rfl; have hcz16_5 : w15.cell? ⟨gb278, 5, none⟩ = some (.bool false) := (blk_cell BK278.out 5).trans rfl; have hcz16_6 : w15.cell? ⟨gb278, 6, none⟩ = some (.bool false) := (blk_cell BK278.out 6).trans rfl; have hfz16_0 := blk_frozen BK278.out 0; have hfz16_1 := blk_frozen BK278.out 1; have hfz16_2 := blk_frozen BK278.out 2; have hfz16_3 := blk_frozen BK278.out 3; have hfz16_4 := blk_frozen BK278.out 4; have hfz16_5 := blk_frozen BK278.out 5; have hfz16_6 := blk_frozen BK278.out 6) | ((with_reducible refine gate_builtin (b := .append) (xs := #[.tmp 23, .tmp 25]) rfl ?_); at_builtin; refine Kd.R_append k31 (w0 := w) w.heap.size rfl (.tmp 23) (.tmp 25) 22 31 (.agg #[(.int .i64 0), (.int .i64 0), (.int .i64 0), (.int .i64 0), (.int .i64 0), (.bool false), (.bool false)]) 48 rfl Try.underlying22 info31 rfl (by decide) (by omega) u6 x6_1 (⟨(rd_T31 l0 x15_1).f0, (rd_T31 l0 x15_1).f1, (rd_T31 l0 x15_1).f2, (rd_T31 l0 x15_1).f3, (rd_T31 l0 x15_1).f4, (rd_T31 l0 x15_1).f5, (rd_T31 l0 x15_1).f6⟩ : S31) [.int .i64 ((rd_T31 l0 x15_1).f0), .int .i64 ((rd_T31 l0 x15_1).f1), .int .i64 ((rd_T31 l0 x15_1).f2), .int .i64 ((rd_T31 l0 x15_1).f3), .int .i64 ((rd_T31 l0 x15_1).f4), .bool ((rd_T31 l0 x15_1).f5), .bool ((rd_T31 l0 x15_1).f6)] (fun k_ => k_ ≠ gb278) (fun _ => False) rfl (by first | (go_simp; done) | (go_simp; rfl)) ?aP (fun _ hk => hk.elim) ?aF ?aO ?aB ?aS ?aL ?_; (case aP => exact k31_mkM _ _ _ (⟨(rd_T31 l0 x15_1).f0, (rd_T31 l0 x15_1).f1, (rd_T31 l0 x15_1).f2, (rd_T31 l0 x15_1).f3, (rd_T31 l0 x15_1).f4, (rd_T31 l0 x15_1).f5, (rd_T31 l0 x15_1).f6⟩ : S31)); (case aB => exact (by repeat (first | (with_reducible first | exact HB.out | apply ba_ | apply bn_ | apply bd_ | refine below_set ?_ GE278.out) | exact HB.out))); (case aF => exact (fun k_ hk => Kd.freshB (g := gb278) (o := .cells #[.int .i64 ((rd_T31 l0 x15_1).f0), .int .i64 ((rd_T31 l0 x15_1).f1), .int .i64 ((rd_T31 l0 x15_1).f2), .int .i64 ((rd_T31 l0 x15_1).f3), .int .i64 ((rd_T31 l0 x15_1).f4), .bool ((rd_T31 l0 x15_1).f5), .bool ((rd_T31 l0 x15_1).f6)] 31 (0, 0)) (by (with_reducible repeat (first | refine blk_drewN ?_ _ | refine blk_drew ?_ | refine blk_alloc ?_ _)); refine blk_put (cs := #[.int .i64 ((rd_T31 l0 x15_1).f0), .int .i64 ((rd_T31 l0 x15_1).f1), .int .i64 ((rd_T31 l0 x15_1).f2), .int .i64 ((rd_T31 l0 x15_1).f3), .int .i64 ((rd_T31 l0 x15_1).f4), .bool ((rd_T31 l0 x15_1).f5), .bool false]) ?_ 6 _ rfl; (with_reducible repeat (first | refine blk_drewN ?_ _ | refine blk_drew ?_ | refine blk_alloc ?_ _)); refine blk_put (cs := #[.int .i64 ((rd_T31 l0 x15_1).f0), .int .i64 ((rd_T31 l0 x15_1).f1), .int .i64 ((rd_T31 l0 x15_1).f2), .int .i64 ((rd_T31 l0 x15_1).f3), .int .i64 ((rd_T31 l0 x15_1).f4), .bool false, .bool false]) ?_ 5 _ rfl; (with_reducible repeat (first | refine blk_drewN ?_ _ | refine blk_drew ?_ | refine blk_alloc ?_ _)); refine blk_put (cs := #[.int .i64 ((rd_T31 l0 x15_1).f0), .int .i64 ((rd_T31 l0 x15_1).f1), .int .i64 ((rd_T31 l0 x15_1).f2), .int .i64 ((rd_T31 l0 x15_1).f3), .int .i64 0, .bool false, .bool false]) ?_ 4 _ rfl; (with_reducible repeat (first | refine blk_drewN ?_ _ | refine blk_drew ?_ | refine blk_alloc ?_ _)); refine blk_put (cs := #[.int .i64 ((rd_T31 l0 x15_1).f0), .int .i64 ((rd_T31 l0 x15_1).f1), .int .i64 ((rd_T31 l0 x15_1).f2), .int .i64 0, .int .i64 0, .bool false, .bool false]) ?_ 3 _ rfl; (with_reducible repeat (first | refine blk_drewN ?_ _ | refine blk_drew ?_ | refine blk_alloc ?_ _)); refine blk_put (cs := #[.int .i64 ((rd_T31 l0 x15_1).f0), .int .i64 ((rd_T31 l0 x15_1).f1), .int .i64 0, .int .i64 0, .int .i64 0, .bool false, .bool false]) ?_ 2 _ rfl; (with_reducible repeat (first | refine blk_drewN ?_ _ | refine blk_drew ?_ | refine blk_alloc ?_ _)); refine blk_put (cs := #[.int .i64 ((rd_T31 l0 x15_1).f0), .int .i64 0, .int .i64 0, .int .i64 0, .int .i64 0, .bool false, .bool false]) ?_ 1 _ rfl; (with_reducible repeat (first | refine blk_drewN ?_ _ | refine blk_drew ?_ | refine blk_alloc ?_ _)); refine blk_put (cs := #[.int .i64 0, .int .i64 0, .int .i64 0, .int .i64 0, .int .i64 0, .bool false, .bool false]) ?_ 0 _ rfl; (with_reducible repeat (first | refine blk_drewN ?_ _ | refine blk_drew ?_ | refine blk_alloc ?_ _)); exact BK278.out) k_ hk)); (case aO => exact (by (with_reducible repeat (first | apply ra_ | apply rn_ | apply rd1_)); exact Kd.R_mono (Kd.R_far (p := ⟨gb278, 6, none⟩) (Kd.R_far (p := ⟨gb278, 5, none⟩) (Kd.R_far (p := ⟨gb278, 4, none⟩) (Kd.R_far (p := ⟨gb278, 3, none⟩) (Kd.R_far (p := ⟨gb278, 2, none⟩) (Kd.R_far (p := ⟨gb278, 1, none⟩) (Kd.R_far (p := ⟨gb278, 0, none⟩) (Kd.R_mono HO_6.out (fun k_ hk => (⟨hk, hk.2⟩ : _ ∧ k_ ≠ gb278))) (fun _ hk => hk.2) (.int .i64 ((rd_T31 l0 x15_1).f0))) (fun _ hk => hk.2) (.int .i64 ((rd_T31 l0 x15_1).f1))) (fun _ hk => hk.2) (.int .i64 ((rd_T31 l0 x15_1).f2))) (fun _ hk => hk.2) (.int .i64 ((rd_T31 l0 x15_1).f3))) (fun _ hk => hk.2) (.int .i64 ((rd_T31 l0 x15_1).f4))) (fun _ hk => hk.2) (.bool ((rd_T31 l0 x15_1).f5))) (fun _ hk => hk.2) (.bool ((rd_T31 l0 x15_1).f6))) (fun _ hk => hk.1.2))); (case aS => exact (below_size (by repeat (first | (with_reducible first | exact HB.out | apply ba_ | apply bn_ | apply bd_ | refine below_set ?_ GE278.out) | exact HB.out)))); (case aL => have := LMc14.out; omega); intro v280 w17 ho hb hg hat; rw [← Ny279.out] at ho; have n0_ := am_ (blk_grown (g := gb278) (o := .cells #[.int .i64 ((rd_T31 l0 x15_1).f0), .int .i64 ((rd_T31 l0 x15_1).f1), .int .i64 ((rd_T31 l0 x15_1).f2), .int .i64 ((rd_T31 l0 x15_1).f3), .int .i64 ((rd_T31 l0 x15_1).f4), .bool ((rd_T31 l0 x15_1).f5), .bool ((rd_T31 l0 x15_1).f6)] 31 (0, 0)) (by (with_reducible repeat (first | refine blk_drewN ?_ _ | refine blk_drew ?_ | refine blk_alloc ?_ _)); refine blk_put (cs := #[.int .i64 ((rd_T31 l0 x15_1).f0), .int .i64 ((rd_T31 l0 x15_1).f1), .int .i64 ((rd_T31 l0 x15_1).f2), .int .i64 ((rd_T31 l0 x15_1).f3), .int .i64 ((rd_T31 l0 x15_1).f4), .bool ((rd_T31 l0 x15_1).f5), .bool false]) ?_ 6 _ rfl; (with_reducible repeat (first | refine blk_drewN ?_ _ | refine blk_drew ?_ | refine blk_alloc ?_ _)); refine blk_put (cs := #[.int .i64 ((rd_T31 l0 x15_1).f0), .int .i64 ((rd_T31 l0 x15_1).f1), .int .i64 ((rd_T31 l0 x15_1).f2), .int .i64 ((rd_T31 l0 x15_1).f3), .int .i64 ((rd_T31 l0 x15_1).f4), .bool false, .bool false]) ?_ 5 _ rfl; (with_reducible repeat (first | refine blk_drewN ?_ _ | refine blk_drew ?_ | refine blk_alloc ?_ _)); refine blk_put (cs := #[.int .i64 ((rd_T31 l0 x15_1).f0), .int .i64 ((rd_T31 l0 x15_1).f1), .int .i64 ((rd_T31 l0 x15_1).f2), .int .i64 ((rd_T31 l0 x15_1).f3), .int .i64 0, .bool false, .bool false]) ?_ 4 _ rfl; (with_reducible repeat (first | refine blk_drewN ?_ _ | refine blk_drew ?_ | refine blk_alloc ?_ _)); refine blk_put (cs := #[.int .i64 ((rd_T31 l0 x15_1).f0), .int .i64 ((rd_T31 l0 x15_1).f1), .int .i64 ((rd_T31 l0 x15_1).f2), .int .i64 0, .int .i64 0, .bool false, .bool false]) ?_ 3 _ rfl; (with_reducible repeat (first | refine blk_drewN ?_ _ | refine blk_drew ?_ | refine blk_alloc ?_ _)); refine blk_put (cs := #[.int .i64 ((rd_T31 l0 x15_1).f0), .int .i64 ((rd_T31 l0 x15_1).f1), .int .i64 0, .int .i64 0, .int .i64 0, .bool false, .bool false]) ?_ 2 _ rfl; (with_reducible repeat (first | refine blk_drewN ?_ _ | refine blk_drew ?_ | refine blk_alloc ?_ _)); refine blk_put (cs := #[.int .i64 ((rd_T31 l0 x15_1).f0), .int .i64 0, .int .i64 0, .int .i64 0, .int .i64 0, .bool false, .bool false]) ?_ 1 _ rfl; (with_reducible repeat (first | refine blk_drewN ?_ _ | refine blk_drew ?_ | refine blk_alloc ?_ _)); refine blk_put (cs := #[.int .i64 0, .int .i64 0, .int .i64 0, .int .i64 0, .int .i64 0, .bool false, .bool false]) ?_ 0 _ rfl; (with_reducible repeat (first | refine blk_drewN ?_ _ | refine blk_drew ?_ | refine blk_alloc ?_ _)); exact BK278.out) hg (Kd.R_away HO_6.out (fun _ hk => hk.2))); have n1_ := am_ (hb); have n2_ := am_ (ho); clear BK278; clear HB; clear HO_6; have BK278 := n0_; have HB := n1_; have HO281 := n2_; clear n0_ n1_ n2_; clear ho hb hg hat))
         go_roundg k1
         case measure => have := HK1.out; omega
         case rel => exact ⟨(y279), (wrap64 (x15_1 + 1)), (by first | rfl | (simp; done) | (simp [*]; done)), H', ⟨by have := HK1.out; omega⟩, ⟨by (with_reducible repeat (first | apply ra_ | apply rn_ | apply rd1_)); exact Kd.R_mono HO281.out (fun _ hk => trivial)⟩, ⟨by repeat (first | (with_reducible first | exact HB.out | apply ba_ | apply bn_ | apply bd_ | refine below_set ?_ GE278.out) | exact HB.out)⟩⟩
        ·rw [if_neg c14] at H
         exact absurd H (by simp)
      ·rw [if_neg c10] at H
       exact absurd H (by simp)
     ·rw [if_neg c9] at H
      exact absurd H (by simp)
    ·rw [if_neg c8] at H
     have c8b0 : decide (x15_1 < (l0.length : Int)) = false := decide_eq_false c8
     clear c8
     by_cases c18 : (x6_1.length : Int) = (l0.length : Int)
     ·rw [if_pos c18] at H
      have c18b0 : ((x6_1.length : Int) == (l0.length : Int)) = true := beq_iff_eq.mpr c18
      have c18b1 : ((x6_1.length : Int) != (l0.length : Int)) = false := bne_eq_false_iff_eq.mpr c18
      have c18b2 : (x6_1.length == l0.length) = true := by first | simpa using c18 | (simp at c18 ⊢; omega)
      clear c18
      simp only [Option.some.injEq, Prod.mk.injEq] at H
      obtain ⟨rfl, rfl⟩ := H
      obtain ⟨Ao19, co19, eo19⟩ := Kd.R_slice HO_6.out
      subst eo19
      go_wp2
      go_ret2
      exact ⟨_, by first | rfl | (simp [errW_none, errW_some] <;> rfl) | (simp [*, errW_none, errW_some] <;> rfl), by first | exact Kd.R_nil _ _ _ _ _ | exact Kd.N_nil _ _ _ _ _ | exact Kd.V_nil _ _ _ _ _ | exact Kd.Q_nil _ _ _ _ _ | exact Kd.S_nil _ _ _ _ _, by repeat (first | (with_reducible first | exact HB.out | apply ba_ | apply bn_ | apply bd_) | exact HB.out)⟩
     ·rw [if_neg c18] at H
      have c18b0 : ((x6_1.length : Int) == (l0.length : Int)) = false := beq_eq_false_iff_ne.mpr c18
      have c18b1 : ((x6_1.length : Int) != (l0.length : Int)) = true := bne_iff_ne.mpr c18
      have c18b2 : (x6_1.length == l0.length) = false := by first | simpa using c18 | (simp at c18 ⊢; omega)
      simp only [Option.some.injEq, Prod.mk.injEq] at H
      obtain ⟨rfl, rfl⟩ := H
      obtain ⟨Ao20, co20, eo20⟩ := Kd.R_slice HO_6.out
      subst eo20
      go_wp2
      go_ret2
      exact ⟨_, by first | rfl | (simp [errW_none, errW_some] <;> rfl) | (simp [*, errW_none, errW_some] <;> rfl), by (with_reducible repeat (first | apply ra_ | apply rn_ | apply rd1_)); exact HO_6.out, by repeat (first | (with_reducible first | exact HB.out | apply ba_ | apply bn_ | apply bd_) | exact HB.out)⟩
 ·replace c4 := Bool.eq_false_iff.mpr c4
  subst c4
  have H1 : (some (([] : List (S31)), 1)) = some (r1, r2) := by rw [if_neg (show ¬ (false = true) by decide)] at H; exact H
  clear H
  have H := H1
  clear H1
  simp only [Option.some.injEq, Prod.mk.injEq] at H
  obtain ⟨rfl, rfl⟩ := H
  go_enter Try.func17, Try.ntmps17
  go_wp2_with (first | ((with_reducible refine gate_callee (f := 19) rfl ?_); refine goesL_ (some 10) rfl rfl Try.func19 (by kernel_rfl) rfl #[.slice A0 l0.length c0] rfl (by (try simp only [List.map_toArray, List.map_cons, List.map_nil]); first | done | rfl | (simp only [List.length_drop, List.length_take]; rfl)) ?_; (with_reducible refine (gatehouseref05_Right.calls k _ _ l0 false _ ?side1 ?side2 A3.out).mono ?_); (case side1 => repeat (first | exact HR0.out | (with_reducible refine ca_ ?_ _) | (with_reducible refine cn_ ?_ _) | (with_reducible refine cd_ ?_))); (case side2 => exact HC0.out); rintro e w21 ⟨rfl, hb⟩; refine ⟨_, rfl, ?_⟩; have n0_ := am_ (below_step (by repeat (first | (with_reducible first | exact HB.out | apply ba_ | apply bn_ | apply bd_) | exact HB.out)) hb); clear HB; have HB := n0_; clear n0_; (try clear hb); (try clear hb2); (try clear hk); (try clear hi)))
  go_ret2
  exact ⟨_, by first | rfl | (simp [errW_none, errW_some] <;> rfl) | (simp [*, errW_none, errW_some] <;> rfl), by first | exact Kd.R_nil _ _ _ _ _ | exact Kd.N_nil _ _ _ _ _ | exact Kd.V_nil _ _ _ _ _ | exact Kd.Q_nil _ _ _ _ _ | exact Kd.S_nil _ _ _ _ _, by repeat (first | (with_reducible first | exact HB.out | apply ba_ | apply bn_ | apply bd_) | exact HB.out)⟩

end Go.Proofs.YtcgmlcblcioaeaaZ
