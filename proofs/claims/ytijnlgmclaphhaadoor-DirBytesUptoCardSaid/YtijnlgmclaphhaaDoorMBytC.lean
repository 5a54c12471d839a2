import Derived.Test.YtijnlgmclaphhaaDoorZ0
import Derived.Test.YtijnlgmclaphhaaDoorMBytA
import Derived.Test.YtijnlgmclaphhaaDoorMBytKGR
import Derived.Test.YtijnlgmclaphhaaDoorMBytB
import Derived.Test.YtijnlgmclaphhaaDoorMBytE
import Derived.Test.YtijnlgmclaphhaaDoorMBytKE
import Derived.Test.YtijnlgmclaphhaaDoorMBytKGD
-- Written by a program of this session (gprint.py, over the kit's printer).
namespace Go.Proofs.YtijnlgmclaphhaaDoorZ
open Go.RowKit Go.Proofs.YtijnlgmclaphhaaDoorW.PrintWords Go.Proofs.YtijnlgmclaphhaaDoorW.PrintLast Go.Proofs.YtijnlgmclaphhaaDoorW.PrintMore
attribute [local go_sem] max2_int min2_int max_two min_two max_three min_three max_four min_four   -- for this text's walks alone
set_option linter.unusedVariables false
set_option linter.unusedSimpArgs false

/-! ### gatehouseref13_Encode: function 16 -/
def gatehouseref13_Encode.l0 : Nat → ByteArray → List (S25) → Int → Int → Option (ByteArray)
  | 0, _, _, _, _ => none
  | k + 1, x3, x6, x7, x8 => if x8 < x7 then (if 0 ≤ x8 then (if x8 < (x6.length : Int) then ((some (([((((rd_T25 x6 x8).f0).size : Int)) % 256] : List Int) : List Int)).bind fun y193 => (if (strOfNums y193).size + ((rd_T25 x6 x8).f0).size ≤ 9223372036854775807 then ((some (([((rd_T25 x6 x8).f1) % 256] : List Int) : List Int)).bind fun y196 => (if ((strOfNums y193) ++ ((rd_T25 x6 x8).f0)).size + (strOfNums y196).size ≤ 9223372036854775807 then ((gatehouseref03_Eight.f k (IntKind.u64.wrap ((rd_T25 x6 x8).f2))).bind fun t199 => (if (((strOfNums y193) ++ ((rd_T25 x6 x8).f0)) ++ (strOfNums y196)).size + t199.size ≤ 9223372036854775807 then (if x3.size + ((((strOfNums y193) ++ ((rd_T25 x6 x8).f0)) ++ (strOfNums y196)) ++ t199).size ≤ 9223372036854775807 then (gatehouseref13_Encode.l0 k (x3 ++ ((((strOfNums y193) ++ ((rd_T25 x6 x8).f0)) ++ (strOfNums y196)) ++ t199)) x6 x7 (wrap64 (x8 + 1))) else (none)) else (none))) else (none))) else (none))) else (none)) else (none)) else (some x3)
def gatehouseref13_Encode.f (k : Nat) (l0 : List (S25)) : Option (ByteArray) := gatehouseref13_Encode.l0 k (⟨#[]⟩ : ByteArray) l0 (l0.length : Int) 0
theorem gatehouseref13_Encode.mono_l : ∀ k, (∀ y0 y1 y2 y3, LeO (gatehouseref13_Encode.l0 k y0 y1 y2 y3) (gatehouseref13_Encode.l0 (k + 1) y0 y1 y2 y3))
  | 0 => fun _ _ _ _ r h => by simp [gatehouseref13_Encode.l0] at h
  | k + 1 => by
    have ih0 := gatehouseref13_Encode.mono_l k
    · intro y0 y1 y2 y3
      unfold gatehouseref13_Encode.l0
      repeat' first
      | (with_reducible exact ih0 _ _ _ _)
      | (with_reducible exact gatehouseref03_Eight.mono _ _)
      | (with_reducible exact LeO.refl _)
      | (with_reducible exact LeO.none _)
      | (with_reducible refine LeO.ite ?_ ?_)
      | (with_reducible refine LeO.bind ?_ (fun _ => ?_))
      | exact ih0 _ _ _ _
      | exact gatehouseref03_Eight.mono _ _
      | exact LeO.none _
      | refine LeO.ite ?_ ?_
      | refine LeO.bind ?_ (fun _ => ?_)
theorem gatehouseref13_Encode.mono : ∀ a0 k, LeO (gatehouseref13_Encode.f k a0) (gatehouseref13_Encode.f (k + 1) a0) := by
  intro a0 k
  have ih0 := gatehouseref13_Encode.mono_l k
  unfold gatehouseref13_Encode.f
  repeat' first
      | (with_reducible exact ih0 _ _ _ _)
      | (with_reducible exact gatehouseref03_Eight.mono _ _)
      | (with_reducible exact LeO.refl _)
      | (with_reducible exact LeO.none _)
      | (with_reducible refine LeO.ite ?_ ?_)
      | (with_reducible refine LeO.bind ?_ (fun _ => ?_))
      | exact ih0 _ _ _ _
      | exact gatehouseref03_Eight.mono _ _
      | exact LeO.none _
      | refine LeO.ite ?_ ?_
      | refine LeO.bind ?_ (fun _ => ?_)
def gatehouseref13_Encode.T5 : Bool × List (List Nat × List Nat) := (true, [([], []), ([], []), ([1], [1]), ([2], [2]), ([3], [3]), ([4], [4]), ([5], [5]), ([], []), ([7], [7]), ([6, 8], [6, 8]), ([], []), ([10], [10]), ([11], [11]), ([12], [12]), ([13], [13]), ([9, 14], [9, 14]), ([], []), ([16], [16]), ([17], [17]), ([18], [18]), ([15, 19], [15, 19]), ([0, 20], [0, 20]), ([21, 19, 0, 1, 2, 3, 4, 5, 6, 7, 8, 9, 10, 11, 12, 13, 14, 15, 16, 17, 18, 19, 20, 21], [0, 21])])
def gatehouseref13_Encode.B5 : List Nat := [0, 0, 2, 6, 14, 30, 62, 0, 128, 510, 0, 1024, 3072, 7168, 15360, 32766, 0, 65536, 196608, 458752, 1048574, 2097151, 4194303]
theorem gatehouseref13_Encode.tab5 : rtab .any (opsOf Tryd.f16 5) = gatehouseref13_Encode.T5 := by kernel_rfl
theorem gatehouseref13_Encode.bits5 : waitsOk gatehouseref13_Encode.T5.2 gatehouseref13_Encode.B5 = true := by kernel_rfl
set_option maxHeartbeats 8000000 in
set_option maxRecDepth 100000 in
theorem gatehouseref13_Encode.calls (k : Nat) (A0 : Option Addr) (c0 : Nat) (l0 : List (S25)) (r : ByteArray) (w : World) (hr0 : Kd.C k25 w A0 l0.length l0) (hc0 : l0.length ≤ c0) (h : gatehouseref13_Encode.f k l0 = some r) :
    Calls Tryd.prog 16 #[.slice A0 l0.length c0] w fun e w' => e = .returned (.string r) ∧ Below w.heap.size w w' := by
  have hu25 := Tryd.underlying25
  have HR0 := Aside0.mk hr0
  have HC0 := Aside0.mk hc0
  clear hr0 hc0
  have HB := Aside0.mk (Below.refl w.heap.size w)
  have H : (gatehouseref13_Encode.l0 k (⟨#[]⟩ : ByteArray) l0 (l0.length : Int) 0) = some r := h
  clear h
  have H' := Aside0.mk H
  clear H
  go_enter Tryd.func16, Tryd.ntmps16
  go_wp2
  go_loopg [3, 8] k (fun kq v3 v8 w' => ∃ (x3_1 : ByteArray) (x8_1 : Int), v3 = .string x3_1 ∧ v8 = .int .i64 x8_1 ∧ Aside0 (gatehouseref13_Encode.l0 kq x3_1 l0 (l0.length : Int) x8_1 = some r) ∧ Aside0 (kq ≤ k) ∧ Aside0 (Below w.heap.size w w'))
  case atStart => exact ⟨((⟨#[]⟩ : ByteArray)), (0), (by first | rfl | (simp; done) | (simp [*]; done)), (by first | rfl | (simp; done) | (simp [*]; done)), H', ⟨Nat.le_refl _⟩, ⟨by repeat (first | (with_reducible first | exact HB.out | apply below_alloc | apply pw_below_drewN | apply below_drew1) | exact HB.out)⟩⟩
  case round =>
    clear H'
    try clear c1
    obtain ⟨x3_1, x8_1, rfl, rfl, HA, HK1, HB⟩ := hrel
    cases gk with
    | zero => exact absurd HA.out (by simp [gatehouseref13_Encode.l0])
    | succ k1 =>
      have H := HA.out
      clear HA
      simp only [gatehouseref13_Encode.l0] at H
      by_cases c2 : x8_1 < (l0.length : Int)
      · rw [if_pos c2] at H
        have c2b0 : decide (x8_1 < (l0.length : Int)) = true := decide_eq_true c2
        clear c2
        by_cases c3 : 0 ≤ x8_1
        · rw [if_pos c3] at H
          have c3b0 : decide (0 ≤ x8_1) = true := decide_eq_true c3
          clear c3
          by_cases c4 : x8_1 < (l0.length : Int)
          · rw [if_pos c4] at H
            have c4b0 : decide (x8_1 < (l0.length : Int)) = true := decide_eq_true c4
            clear c4
            obtain ⟨y193, hy193⟩ : ∃ y_ : List Int, y_ = (([((((rd_T25 l0 x8_1).f0).size : Int)) % 256] : List Int)) := ⟨_, rfl⟩
            replace H : (if (strOfNums y193).size + ((rd_T25 l0 x8_1).f0).size ≤ 9223372036854775807 then ((some (([((rd_T25 l0 x8_1).f1) % 256] : List Int) : List Int)).bind fun y196 => (if ((strOfNums y193) ++ ((rd_T25 l0 x8_1).f0)).size + (strOfNums y196).size ≤ 9223372036854775807 then ((gatehouseref03_Eight.f k1 (IntKind.u64.wrap ((rd_T25 l0 x8_1).f2))).bind fun t199 => (if (((strOfNums y193) ++ ((rd_T25 l0 x8_1).f0)) ++ (strOfNums y196)).size + t199.size ≤ 9223372036854775807 then (if x3_1.size + ((((strOfNums y193) ++ ((rd_T25 l0 x8_1).f0)) ++ (strOfNums y196)) ++ t199).size ≤ 9223372036854775807 then (gatehouseref13_Encode.l0 k1 (x3_1 ++ ((((strOfNums y193) ++ ((rd_T25 l0 x8_1).f0)) ++ (strOfNums y196)) ++ t199)) l0 (l0.length : Int) (wrap64 (x8_1 + 1))) else (none)) else (none))) else (none))) else (none)) = some r := by first | (rw [hy193]; with_reducible exact H) | (have H2_ := (Option.bind_some _ _).symm.trans H; rw [hy193]; with_reducible exact H2_) | (have H2_ := (Option.bind_some _ _).symm.trans H; with_reducible exact H2_) | with_reducible exact H | (rw [hy193]; exact H) | exact H
            have Ny193 := Aside0.mk hy193
            clear hy193
            by_cases c5 : (strOfNums y193).size + ((rd_T25 l0 x8_1).f0).size ≤ 9223372036854775807
            · rw [if_pos c5] at H
              have c5b0 := eq_true c5
              have c5b1 : decide ((strOfNums y193).size + ((rd_T25 l0 x8_1).f0).size ≤ 9223372036854775807) = true := decide_eq_true c5
              try have c5b2 : (9223372036854775807 < (strOfNums y193).size + ((rd_T25 l0 x8_1).f0).size) = False := eq_false (Nat.not_lt.2 c5)
              obtain ⟨y196, hy196⟩ : ∃ y_ : List Int, y_ = (([((rd_T25 l0 x8_1).f1) % 256] : List Int)) := ⟨_, rfl⟩
              replace H : (if ((strOfNums y193) ++ ((rd_T25 l0 x8_1).f0)).size + (strOfNums y196).size ≤ 9223372036854775807 then ((gatehouseref03_Eight.f k1 (IntKind.u64.wrap ((rd_T25 l0 x8_1).f2))).bind fun t199 => (if (((strOfNums y193) ++ ((rd_T25 l0 x8_1).f0)) ++ (strOfNums y196)).size + t199.size ≤ 9223372036854775807 then (if x3_1.size + ((((strOfNums y193) ++ ((rd_T25 l0 x8_1).f0)) ++ (strOfNums y196)) ++ t199).size ≤ 9223372036854775807 then (gatehouseref13_Encode.l0 k1 (x3_1 ++ ((((strOfNums y193) ++ ((rd_T25 l0 x8_1).f0)) ++ (strOfNums y196)) ++ t199)) l0 (l0.length : Int) (wrap64 (x8_1 + 1))) else (none)) else (none))) else (none)) = some r := by first | (rw [hy196]; with_reducible exact H) | (have H2_ := (Option.bind_some _ _).symm.trans H; rw [hy196]; with_reducible exact H2_) | (have H2_ := (Option.bind_some _ _).symm.trans H; with_reducible exact H2_) | with_reducible exact H | (rw [hy196]; exact H) | exact H
              have Ny196 := Aside0.mk hy196
              clear hy196
              by_cases c6 : ((strOfNums y193) ++ ((rd_T25 l0 x8_1).f0)).size + (strOfNums y196).size ≤ 9223372036854775807
              · rw [if_pos c6] at H
                have c6b0 := eq_true c6
                have c6b1 : decide (((strOfNums y193) ++ ((rd_T25 l0 x8_1).f0)).size + (strOfNums y196).size ≤ 9223372036854775807) = true := decide_eq_true c6
                try have c6b2 : (9223372036854775807 < ((strOfNums y193) ++ ((rd_T25 l0 x8_1).f0)).size + (strOfNums y196).size) = False := eq_false (Nat.not_lt.2 c6)
                try have c6s := c6b2
                try simp only [ByteArray.size_append] at c6s
                replace H := Option.bind_eq_some_iff.mp H
                obtain ⟨t199, A70, H⟩ := H
                replace H : (if (((strOfNums y193) ++ ((rd_T25 l0 x8_1).f0)) ++ (strOfNums y196)).size + t199.size ≤ 9223372036854775807 then (if x3_1.size + ((((strOfNums y193) ++ ((rd_T25 l0 x8_1).f0)) ++ (strOfNums y196)) ++ t199).size ≤ 9223372036854775807 then (gatehouseref13_Encode.l0 k1 (x3_1 ++ ((((strOfNums y193) ++ ((rd_T25 l0 x8_1).f0)) ++ (strOfNums y196)) ++ t199)) l0 (l0.length : Int) (wrap64 (x8_1 + 1))) else (none)) else (none)) = some r := H
                have A7 := Aside0.mk A70
                clear A70
                by_cases c8 : (((strOfNums y193) ++ ((rd_T25 l0 x8_1).f0)) ++ (strOfNums y196)).size + t199.size ≤ 9223372036854775807
                · rw [if_pos c8] at H
                  have c8b0 := eq_true c8
                  have c8b1 : decide ((((strOfNums y193) ++ ((rd_T25 l0 x8_1).f0)) ++ (strOfNums y196)).size + t199.size ≤ 9223372036854775807) = true := decide_eq_true c8
                  try have c8b2 : (9223372036854775807 < (((strOfNums y193) ++ ((rd_T25 l0 x8_1).f0)) ++ (strOfNums y196)).size + t199.size) = False := eq_false (Nat.not_lt.2 c8)
                  try have c8s := c8b2
                  try simp only [ByteArray.size_append] at c8s
                  by_cases c9 : x3_1.size + ((((strOfNums y193) ++ ((rd_T25 l0 x8_1).f0)) ++ (strOfNums y196)) ++ t199).size ≤ 9223372036854775807
                  · rw [if_pos c9] at H
                    have c9b0 := eq_true c9
                    have c9b1 : decide (x3_1.size + ((((strOfNums y193) ++ ((rd_T25 l0 x8_1).f0)) ++ (strOfNums y196)) ++ t199).size ≤ 9223372036854775807) = true := decide_eq_true c9
                    try have c9b2 : (9223372036854775807 < x3_1.size + ((((strOfNums y193) ++ ((rd_T25 l0 x8_1).f0)) ++ (strOfNums y196)) ++ t199).size) = False := eq_false (Nat.not_lt.2 c9)
                    try have c9s := c9b2
                    try simp only [ByteArray.size_append] at c9s
                    have H' := Aside0.mk H
                    clear H
                    have p191 : 0 ≤ (x8_1 : Int) := of_decide_eq_true (by first | (with_reducible assumption) | assumption)
                    have q191 : x8_1 < (l0.length : Int) := of_decide_eq_true (by first | (with_reducible assumption) | assumption)
                    obtain ⟨ad191, e191, hx191_0, hx191_1, hx191_2⟩ := at_T25 HR0.out x8_1 p191 q191
                    cases e191
                    replace hx191_0 := (HB.out.cell (World.block_lt_of_cell? w _ hx191_0)).trans hx191_0
                    replace hx191_1 := (HB.out.cell (World.block_lt_of_cell? w _ hx191_1)).trans hx191_1
                    replace hx191_2 := (HB.out.cell (World.block_lt_of_cell? w _ hx191_2)).trans hx191_2
                    replace p191 := eq_true p191
                    replace q191 := eq_true q191
                    try go_wp2_with (first | ((with_reducible refine gate_dst (N := 5) rfl ?_); refine box_event ?hg (N := 5) ?hd (cs := #[.string (⟨#[]⟩ : ByteArray), .int .i64 0, .int .i64 0]) (t := 25) ?hr ?_; (case hd => rfl); (case hg => rfl); (case hr => first | (go_simp; done) | (go_simp; rfl)); intro gb192 hg w10 hbox hb; have n0_ := Aside0.mk (below_step (by repeat (first | (with_reducible first | exact HB.out | apply below_alloc | apply pw_below_drewN | apply below_drew1) | exact HB.out)) hb); have n1_ := Aside0.mk (hbox); have n2_ := Aside0.mk ((by rw [hg]; exact (below_size (by repeat (first | (with_reducible first | exact HB.out | apply below_alloc | apply pw_below_drewN | apply below_drew1) | exact HB.out))) : w.heap.size ≤ gb192)); have n3_ := Aside0.mk ((by rw [hg]; exact (below_size (by repeat (first | (with_reducible first | exact HB.out | apply below_alloc | apply pw_below_drewN | apply below_drew1) | exact HB.out))) : w.heap.size ≤ gb192)); clear HB; have HB := n0_; have BK192 := n1_; have GW192 := n2_; have GE192 := n3_; clear n0_ n1_ n2_ n3_; clear hb hbox hg; have hcz11_0 : w10.cell? ⟨gb192, 0, none⟩ = some (.string (⟨#[]⟩ : ByteArray)) := (blk_cell BK192.out 0).trans rfl; have hcz11_1 : w10.cell? ⟨gb192, 1, none⟩ = some (.int .i64 0) := (blk_cell BK192.out 1).trans rfl; have hcz11_2 : w10.cell? ⟨gb192, 2, none⟩ = some (.int .i64 0) := (blk_cell BK192.out 2).trans rfl; have hfz11_0 := blk_frozen BK192.out 0; have hfz11_1 := blk_frozen BK192.out 1; have hfz11_2 := blk_frozen BK192.out 2))
                    have n0_ : Aside0 ((((w10.setCell ⟨gb192, 0, none⟩ (.string ((rd_T25 l0 x8_1).f0))).setCell ⟨gb192, 1, none⟩ (.int .i64 ((rd_T25 l0 x8_1).f1))).setCell ⟨gb192, 2, none⟩ (.int .i64 ((rd_T25 l0 x8_1).f2))).heap[gb192]? = some (.cells #[.string ((rd_T25 l0 x8_1).f0), .int .i64 ((rd_T25 l0 x8_1).f1), .int .i64 ((rd_T25 l0 x8_1).f2)] 25 (0, 0))) := ⟨by (with_reducible repeat (first | refine blk_drewN ?_ _ | refine blk_drew ?_ | refine blk_alloc ?_ _)); refine blk_put (cs := #[.string ((rd_T25 l0 x8_1).f0), .int .i64 ((rd_T25 l0 x8_1).f1), .int .i64 0]) ?_ 2 _ rfl; (with_reducible repeat (first | refine blk_drewN ?_ _ | refine blk_drew ?_ | refine blk_alloc ?_ _)); refine blk_put (cs := #[.string ((rd_T25 l0 x8_1).f0), .int .i64 0, .int .i64 0]) ?_ 1 _ rfl; (with_reducible repeat (first | refine blk_drewN ?_ _ | refine blk_drew ?_ | refine blk_alloc ?_ _)); refine blk_put (cs := #[.string (⟨#[]⟩ : ByteArray), .int .i64 0, .int .i64 0]) ?_ 0 _ rfl; (with_reducible repeat (first | refine blk_drewN ?_ _ | refine blk_drew ?_ | refine blk_alloc ?_ _)); exact BK192.out⟩
                    have n1_ : Aside0 (Below w.heap.size w (((w10.setCell ⟨gb192, 0, none⟩ (.string ((rd_T25 l0 x8_1).f0))).setCell ⟨gb192, 1, none⟩ (.int .i64 ((rd_T25 l0 x8_1).f1))).setCell ⟨gb192, 2, none⟩ (.int .i64 ((rd_T25 l0 x8_1).f2)))) := ⟨by repeat (first | (with_reducible first | exact HB.out | apply below_alloc | apply pw_below_drewN | apply below_drew1 | refine below_set ?_ GE192.out) | exact HB.out)⟩
                    (try clear BK192)
                    (try clear HB)
                    generalize (((w10.setCell ⟨gb192, 0, none⟩ (.string ((rd_T25 l0 x8_1).f0))).setCell ⟨gb192, 1, none⟩ (.int .i64 ((rd_T25 l0 x8_1).f1))).setCell ⟨gb192, 2, none⟩ (.int .i64 ((rd_T25 l0 x8_1).f2))) = w12 at n0_ n1_ ⊢
                    have BK192 := n0_
                    have HB := n1_
                    clear n0_ n1_
                    have n0_ := Aside0.mk (blk_drew BK192.out)
                    have n1_ := Aside0.mk (below_drew1 HB.out)
                    clear BK192
                    clear HB
                    have BK192 := n0_
                    have HB := n1_
                    clear n0_ n1_
                    refine start_ (n := 23) (S := fun w' => w'.cell? ⟨gb192, 0, none⟩ = some (.string ((rd_T25 l0 x8_1).f0)) ∧ w'.cell? ⟨gb192, 1, none⟩ = some (.int .i64 ((rd_T25 l0 x8_1).f1)) ∧ w'.cell? ⟨gb192, 2, none⟩ = some (.int .i64 ((rd_T25 l0 x8_1).f2))) (ds := []) #[false, false, false, false, false, false, false, false, false, false, false, false, false, false, false, false, false, false, false, false, false, false, false] (by kernel_rfl) rfl rfl ⟨(blk_cell BK192.out 0).trans rfl, (blk_cell BK192.out 1).trans rfl, (blk_cell BK192.out 2).trans rfl⟩ (fun hHeld => ?_); refine with_tabW gatehouseref13_Encode.tab5 gatehouseref13_Encode.bits5 (fun HT_ HW_ => ?_)
                    generalize w12.drew = w13 at BK192 HB hHeld ⊢
                    refine pure_ (i := 0) (N := some 12) (v := ?_) (a' := ?_) #[true, false, false, false, false, false, false, false, false, false, false, false, false, false, false, false, false, false, false, false, false, false, false] rfl rfl (any_of HT_.out (by kernel_rfl)) (fun _ _ _ h => h) (Or.inl ⟨by rfl, ?_⟩) ?_ ?_
                    rotate_left
                    · intro w'
                      go_simp
                      with_reducible rfl
                    rotate_left
                    · simp only [Act.put, List.setIfInBounds_toArray, List.set_cons_zero, List.set_cons_succ, i64_w, i32_w]
                      rfl
                    refine pure_ (i := 1) (N := some 13) (v := ?_) (a' := ?_) #[true, true, false, false, false, false, false, false, false, false, false, false, false, false, false, false, false, false, false, false, false, false, false] rfl rfl (any_of HT_.out (by kernel_rfl)) (fun _ _ _ h => h) (Or.inl ⟨by rfl, ?_⟩) ?_ ?_
                    rotate_left
                    · intro w'
                      go_simp
                      with_reducible rfl
                    rotate_left
                    · simp only [Act.put, List.setIfInBounds_toArray, List.set_cons_zero, List.set_cons_succ, i64_w, i32_w]
                      rfl
                    refine pure_ (i := 7) (N := some 19) (v := ?_) (a' := ?_) #[true, true, false, false, false, false, false, true, false, false, false, false, false, false, false, false, false, false, false, false, false, false, false] rfl rfl (any_of HT_.out (by kernel_rfl)) (fun _ _ _ h => h) (Or.inl ⟨by rfl, ?_⟩) ?_ ?_
                    rotate_left
                    · intro w'
                      go_simp
                      with_reducible rfl
                    rotate_left
                    · simp only [Act.put, List.setIfInBounds_toArray, List.set_cons_zero, List.set_cons_succ, i64_w, i32_w]
                      rfl
                    refine pure_ (i := 10) (N := some 22) (v := ?_) (a' := ?_) #[true, true, false, false, false, false, false, true, false, false, true, false, false, false, false, false, false, false, false, false, false, false, false] rfl rfl (any_of HT_.out (by kernel_rfl)) (fun _ _ _ h => h) (Or.inl ⟨by rfl, ?_⟩) ?_ ?_
                    rotate_left
                    · intro w'
                      go_simp
                      with_reducible rfl
                    rotate_left
                    · simp only [Act.put, List.setIfInBounds_toArray, List.set_cons_zero, List.set_cons_succ, i64_w, i32_w]
                      rfl
                    refine pure_ (i := 16) (N := some 28) (v := ?_) (a' := ?_) #[true, true, false, false, false, false, false, true, false, false, true, false, false, false, false, false, true, false, false, false, false, false, false] rfl rfl (any_of HT_.out (by kernel_rfl)) (fun _ _ _ h => h) (Or.inl ⟨by rfl, ?_⟩) ?_ ?_
                    rotate_left
                    · intro w'
                      go_simp
                      with_reducible rfl
                    rotate_left
                    · simp only [Act.put, List.setIfInBounds_toArray, List.set_cons_zero, List.set_cons_succ, i64_w, i32_w]
                      rfl
                    refine take_ (i := 2) (N := some 14) (v := ?_) (a' := ?_) #[true, true, true, false, false, false, false, true, false, false, true, false, false, false, false, false, true, false, false, false, false, false, false] rfl rfl (take_ofW HT_.out HW_.out (by kernel_rfl)) (fun _ _ _ h => h) (Or.inl ⟨by rfl, ?_⟩) hHeld ?_ ?_
                    rotate_left
                    · rintro w' ⟨s0, s1, s2⟩
                      go_simp
                      with_reducible rfl
                    rotate_left
                    · simp only [Act.put, List.setIfInBounds_toArray, List.set_cons_zero, List.set_cons_succ, i64_w, i32_w]
                      rfl
                    refine pure_ (i := 3) (N := some 15) (v := ?_) (a' := ?_) #[true, true, true, true, false, false, false, true, false, false, true, false, false, false, false, false, true, false, false, false, false, false, false] rfl rfl (any_of HT_.out (by kernel_rfl)) (fun _ _ _ h => h) (Or.inl ⟨by rfl, ?_⟩) ?_ ?_
                    rotate_left
                    · intro w'
                      go_simp
                      with_reducible rfl
                    rotate_left
                    · simp only [Act.put, List.setIfInBounds_toArray, List.set_cons_zero, List.set_cons_succ, i64_w, i32_w]
                      rfl
                    refine pure_ (i := 4) (N := some 16) (v := ?_) (a' := ?_) #[true, true, true, true, true, false, false, true, false, false, true, false, false, false, false, false, true, false, false, false, false, false, false] rfl rfl (any_of HT_.out (by kernel_rfl)) (fun _ _ _ h => h) (Or.inl ⟨by rfl, ?_⟩) ?_ ?_
                    rotate_left
                    · intro w'
                      go_simp
                      with_reducible rfl
                    rotate_left
                    · simp only [Act.put, List.setIfInBounds_toArray, List.set_cons_zero, List.set_cons_succ, i64_w, i32_w]
                      rfl
                    refine take_ (i := 8) (N := some 20) (v := ?_) (a' := ?_) #[true, true, true, true, true, false, false, true, true, false, true, false, false, false, false, false, true, false, false, false, false, false, false] rfl rfl (take_ofW HT_.out HW_.out (by kernel_rfl)) (fun _ _ _ h => h) (Or.inl ⟨by rfl, ?_⟩) hHeld ?_ ?_
                    rotate_left
                    · rintro w' ⟨s0, s1, s2⟩
                      go_simp
                      with_reducible rfl
                    rotate_left
                    · simp only [Act.put, List.setIfInBounds_toArray, List.set_cons_zero, List.set_cons_succ, i64_w, i32_w]
                      rfl
                    refine take_ (i := 11) (N := some 23) (v := ?_) (a' := ?_) #[true, true, true, true, true, false, false, true, true, false, true, true, false, false, false, false, true, false, false, false, false, false, false] rfl rfl (take_ofW HT_.out HW_.out (by kernel_rfl)) (fun _ _ _ h => h) (Or.inl ⟨by rfl, ?_⟩) hHeld ?_ ?_
                    rotate_left
                    · rintro w' ⟨s0, s1, s2⟩
                      go_simp
                      with_reducible rfl
                    rotate_left
                    · simp only [Act.put, List.setIfInBounds_toArray, List.set_cons_zero, List.set_cons_succ, i64_w, i32_w]
                      rfl
                    refine pure_ (i := 12) (N := some 24) (v := ?_) (a' := ?_) #[true, true, true, true, true, false, false, true, true, false, true, true, true, false, false, false, true, false, false, false, false, false, false] rfl rfl (any_of HT_.out (by kernel_rfl)) (fun _ _ _ h => h) (Or.inl ⟨by rfl, ?_⟩) ?_ ?_
                    rotate_left
                    · intro w'
                      go_simp
                      with_reducible rfl
                    rotate_left
                    · simp only [Act.put, List.setIfInBounds_toArray, List.set_cons_zero, List.set_cons_succ, i64_w, i32_w]
                      rfl
                    refine take_ (i := 17) (N := some 29) (v := ?_) (a' := ?_) #[true, true, true, true, true, false, false, true, true, false, true, true, true, false, false, false, true, true, false, false, false, false, false] rfl rfl (take_ofW HT_.out HW_.out (by kernel_rfl)) (fun _ _ _ h => h) (Or.inl ⟨by rfl, ?_⟩) hHeld ?_ ?_
                    rotate_left
                    · rintro w' ⟨s0, s1, s2⟩
                      go_simp
                      with_reducible rfl
                    rotate_left
                    · simp only [Act.put, List.setIfInBounds_toArray, List.set_cons_zero, List.set_cons_succ, i64_w, i32_w]
                      rfl
                    refine pure_ (i := 18) (N := some 30) (v := ?_) (a' := ?_) #[true, true, true, true, true, false, false, true, true, false, true, true, true, false, false, false, true, true, true, false, false, false, false] rfl rfl (any_of HT_.out (by kernel_rfl)) (fun _ _ _ h => h) (Or.inl ⟨by rfl, ?_⟩) ?_ ?_
                    rotate_left
                    · intro w'
                      go_simp
                      with_reducible rfl
                    rotate_left
                    · simp only [Act.put, List.setIfInBounds_toArray, List.set_cons_zero, List.set_cons_succ, i64_w, i32_w]
                      rfl
                    refine join_ (σ := Value × Value) 3 #[true, true, true, true, true, true, true, true, true, true, true, true, true, true, true, true, true, true, true, true, false, false, false] (fun s_ => [(17, s_.1), (18, .string (strOfNums y193)), (25, s_.2), (26, .string (strOfNums y196)), (31, .string t199), (21, .string ((strOfNums y193) ++ ((rd_T25 l0 x8_1).f0))), (27, .string (((strOfNums y193) ++ ((rd_T25 l0 x8_1).f0)) ++ (strOfNums y196)))]) (fun s_ w' => (w'.cell? ⟨gb192, 0, none⟩ = some (.string ((rd_T25 l0 x8_1).f0)) ∧ w'.cell? ⟨gb192, 1, none⟩ = some (.int .i64 ((rd_T25 l0 x8_1).f1)) ∧ w'.cell? ⟨gb192, 2, none⟩ = some (.int .i64 ((rd_T25 l0 x8_1).f2))) ∧ (Kd.R (Kd.int .u8) 5 w' w.heap.size (fun k_ => some k_ ≠ (s_.2 : Value).ownBlock) s_.1 y193) ∧ (Kd.R (Kd.int .u8) 5 w' w.heap.size (fun k_ => some k_ ≠ (s_.1 : Value).ownBlock) s_.2 y196) ∧ (w'.heap[gb192]? = some (.cells #[.string ((rd_T25 l0 x8_1).f0), .int .i64 ((rd_T25 l0 x8_1).f1), .int .i64 ((rd_T25 l0 x8_1).f2)] 25 (0, 0))) ∧ (Below w.heap.size w w')) ?_ ?_
                    rotate_left
                    · intro hJ5_6_13_14_19
                      refine join_ (σ := Value × Value) 4 #[true, true, true, true, true, true, true, true, true, true, true, true, true, true, true, true, true, true, true, false, false, false, false] (fun s_ => [(17, s_.1), (18, .string (strOfNums y193)), (25, s_.2), (26, .string (strOfNums y196)), (21, .string ((strOfNums y193) ++ ((rd_T25 l0 x8_1).f0))), (27, .string (((strOfNums y193) ++ ((rd_T25 l0 x8_1).f0)) ++ (strOfNums y196)))]) (fun s_ w' => (w'.cell? ⟨gb192, 0, none⟩ = some (.string ((rd_T25 l0 x8_1).f0)) ∧ w'.cell? ⟨gb192, 1, none⟩ = some (.int .i64 ((rd_T25 l0 x8_1).f1)) ∧ w'.cell? ⟨gb192, 2, none⟩ = some (.int .i64 ((rd_T25 l0 x8_1).f2))) ∧ (Kd.R (Kd.int .u8) 5 w' w.heap.size (fun k_ => some k_ ≠ (s_.2 : Value).ownBlock) s_.1 y193) ∧ (Kd.R (Kd.int .u8) 5 w' w.heap.size (fun k_ => some k_ ≠ (s_.1 : Value).ownBlock) s_.2 y196) ∧ (w'.heap[gb192]? = some (.cells #[.string ((rd_T25 l0 x8_1).f0), .int .i64 ((rd_T25 l0 x8_1).f1), .int .i64 ((rd_T25 l0 x8_1).f2)] 25 (0, 0))) ∧ (Below w.heap.size w w')) ?_ ?_
                      rotate_left
                      · intro hJ5_6_13_14
                        refine join_ (σ := Value × Value) 5 #[true, true, true, true, true, true, true, true, true, true, true, true, true, true, false, false, true, true, true, true, false, false, false] (fun s_ => [(17, s_.1), (18, .string (strOfNums y193)), (25, s_.2), (31, .string t199), (21, .string ((strOfNums y193) ++ ((rd_T25 l0 x8_1).f0)))]) (fun s_ w' => (w'.cell? ⟨gb192, 0, none⟩ = some (.string ((rd_T25 l0 x8_1).f0)) ∧ w'.cell? ⟨gb192, 1, none⟩ = some (.int .i64 ((rd_T25 l0 x8_1).f1)) ∧ w'.cell? ⟨gb192, 2, none⟩ = some (.int .i64 ((rd_T25 l0 x8_1).f2))) ∧ (Kd.R (Kd.int .u8) 5 w' w.heap.size (fun k_ => some k_ ≠ (s_.2 : Value).ownBlock) s_.1 y193) ∧ (Kd.R (Kd.int .u8) 5 w' w.heap.size (fun k_ => some k_ ≠ (s_.1 : Value).ownBlock) s_.2 y196) ∧ (w'.heap[gb192]? = some (.cells #[.string ((rd_T25 l0 x8_1).f0), .int .i64 ((rd_T25 l0 x8_1).f1), .int .i64 ((rd_T25 l0 x8_1).f2)] 25 (0, 0))) ∧ (Below w.heap.size w w')) ?_ ?_
                        rotate_left
                        · intro hJ5_6_13_19
                          refine join_ (σ := Value × Value) 6 #[true, true, true, true, true, true, false, true, true, false, true, true, true, true, true, false, true, true, true, true, false, false, false] (fun s_ => [(17, s_.1), (25, s_.2), (26, .string (strOfNums y196)), (31, .string t199)]) (fun s_ w' => (w'.cell? ⟨gb192, 0, none⟩ = some (.string ((rd_T25 l0 x8_1).f0)) ∧ w'.cell? ⟨gb192, 1, none⟩ = some (.int .i64 ((rd_T25 l0 x8_1).f1)) ∧ w'.cell? ⟨gb192, 2, none⟩ = some (.int .i64 ((rd_T25 l0 x8_1).f2))) ∧ (Kd.R (Kd.int .u8) 5 w' w.heap.size (fun k_ => some k_ ≠ (s_.2 : Value).ownBlock) s_.1 y193) ∧ (Kd.R (Kd.int .u8) 5 w' w.heap.size (fun k_ => some k_ ≠ (s_.1 : Value).ownBlock) s_.2 y196) ∧ (w'.heap[gb192]? = some (.cells #[.string ((rd_T25 l0 x8_1).f0), .int .i64 ((rd_T25 l0 x8_1).f1), .int .i64 ((rd_T25 l0 x8_1).f2)] 25 (0, 0))) ∧ (Below w.heap.size w w')) ?_ ?_
                          rotate_left
                          · intro hJ5_13_14_19
                            refine join_ (σ := Value × Value) 6 #[true, true, true, true, true, true, true, true, true, true, true, true, true, true, false, false, true, true, true, false, false, false, false] (fun s_ => [(17, s_.1), (18, .string (strOfNums y193)), (25, s_.2), (21, .string ((strOfNums y193) ++ ((rd_T25 l0 x8_1).f0)))]) (fun s_ w' => (w'.cell? ⟨gb192, 0, none⟩ = some (.string ((rd_T25 l0 x8_1).f0)) ∧ w'.cell? ⟨gb192, 1, none⟩ = some (.int .i64 ((rd_T25 l0 x8_1).f1)) ∧ w'.cell? ⟨gb192, 2, none⟩ = some (.int .i64 ((rd_T25 l0 x8_1).f2))) ∧ (Kd.R (Kd.int .u8) 5 w' w.heap.size (fun k_ => some k_ ≠ (s_.2 : Value).ownBlock) s_.1 y193) ∧ (Kd.R (Kd.int .u8) 5 w' w.heap.size (fun k_ => some k_ ≠ (s_.1 : Value).ownBlock) s_.2 y196) ∧ (w'.heap[gb192]? = some (.cells #[.string ((rd_T25 l0 x8_1).f0), .int .i64 ((rd_T25 l0 x8_1).f1), .int .i64 ((rd_T25 l0 x8_1).f2)] 25 (0, 0))) ∧ (Below w.heap.size w w')) ?_ ?_
                            rotate_left
                            · intro hJ5_6_13
                              refine join_ (σ := Value) 6 #[true, true, true, true, true, true, true, true, true, true, true, true, true, false, false, false, true, true, true, true, false, false, false] (fun s_ => [(17, s_), (18, .string (strOfNums y193)), (31, .string t199), (21, .string ((strOfNums y193) ++ ((rd_T25 l0 x8_1).f0)))]) (fun s_ w' => (w'.cell? ⟨gb192, 0, none⟩ = some (.string ((rd_T25 l0 x8_1).f0)) ∧ w'.cell? ⟨gb192, 1, none⟩ = some (.int .i64 ((rd_T25 l0 x8_1).f1)) ∧ w'.cell? ⟨gb192, 2, none⟩ = some (.int .i64 ((rd_T25 l0 x8_1).f2))) ∧ (Kd.R (Kd.int .u8) 5 w' w.heap.size (fun _ => True) s_ y193) ∧ (w'.heap[gb192]? = some (.cells #[.string ((rd_T25 l0 x8_1).f0), .int .i64 ((rd_T25 l0 x8_1).f1), .int .i64 ((rd_T25 l0 x8_1).f2)] 25 (0, 0))) ∧ (Below w.heap.size w w')) ?_ ?_
                              rotate_left
                              · intro hJ5_6_19
                                refine join_ (σ := Value × Value) 7 #[true, true, true, true, true, true, false, true, true, false, true, true, true, true, true, false, true, true, true, false, false, false, false] (fun s_ => [(17, s_.1), (25, s_.2), (26, .string (strOfNums y196))]) (fun s_ w' => (w'.cell? ⟨gb192, 0, none⟩ = some (.string ((rd_T25 l0 x8_1).f0)) ∧ w'.cell? ⟨gb192, 1, none⟩ = some (.int .i64 ((rd_T25 l0 x8_1).f1)) ∧ w'.cell? ⟨gb192, 2, none⟩ = some (.int .i64 ((rd_T25 l0 x8_1).f2))) ∧ (Kd.R (Kd.int .u8) 5 w' w.heap.size (fun k_ => some k_ ≠ (s_.2 : Value).ownBlock) s_.1 y193) ∧ (Kd.R (Kd.int .u8) 5 w' w.heap.size (fun k_ => some k_ ≠ (s_.1 : Value).ownBlock) s_.2 y196) ∧ (w'.heap[gb192]? = some (.cells #[.string ((rd_T25 l0 x8_1).f0), .int .i64 ((rd_T25 l0 x8_1).f1), .int .i64 ((rd_T25 l0 x8_1).f2)] 25 (0, 0))) ∧ (Below w.heap.size w w')) ?_ ?_
                                rotate_left
                                · intro hJ5_13_14
                                  refine join_ (σ := Value × Value) 7 #[true, true, true, true, true, true, false, true, true, false, true, true, true, true, false, false, true, true, true, true, false, false, false] (fun s_ => [(17, s_.1), (25, s_.2), (31, .string t199)]) (fun s_ w' => (w'.cell? ⟨gb192, 0, none⟩ = some (.string ((rd_T25 l0 x8_1).f0)) ∧ w'.cell? ⟨gb192, 1, none⟩ = some (.int .i64 ((rd_T25 l0 x8_1).f1)) ∧ w'.cell? ⟨gb192, 2, none⟩ = some (.int .i64 ((rd_T25 l0 x8_1).f2))) ∧ (Kd.R (Kd.int .u8) 5 w' w.heap.size (fun k_ => some k_ ≠ (s_.2 : Value).ownBlock) s_.1 y193) ∧ (Kd.R (Kd.int .u8) 5 w' w.heap.size (fun k_ => some k_ ≠ (s_.1 : Value).ownBlock) s_.2 y196) ∧ (w'.heap[gb192]? = some (.cells #[.string ((rd_T25 l0 x8_1).f0), .int .i64 ((rd_T25 l0 x8_1).f1), .int .i64 ((rd_T25 l0 x8_1).f2)] 25 (0, 0))) ∧ (Below w.heap.size w w')) ?_ ?_
                                  rotate_left
                                  · intro hJ5_13_19
                                    refine join_ (σ := Value) 7 #[true, true, true, true, true, false, false, true, true, false, true, true, true, true, true, false, true, true, true, true, false, false, false] (fun s_ => [(25, s_), (26, .string (strOfNums y196)), (31, .string t199)]) (fun s_ w' => (w'.cell? ⟨gb192, 0, none⟩ = some (.string ((rd_T25 l0 x8_1).f0)) ∧ w'.cell? ⟨gb192, 1, none⟩ = some (.int .i64 ((rd_T25 l0 x8_1).f1)) ∧ w'.cell? ⟨gb192, 2, none⟩ = some (.int .i64 ((rd_T25 l0 x8_1).f2))) ∧ (Kd.R (Kd.int .u8) 5 w' w.heap.size (fun _ => True) s_ y196) ∧ (w'.heap[gb192]? = some (.cells #[.string ((rd_T25 l0 x8_1).f0), .int .i64 ((rd_T25 l0 x8_1).f1), .int .i64 ((rd_T25 l0 x8_1).f2)] 25 (0, 0))) ∧ (Below w.heap.size w w')) ?_ ?_
                                    rotate_left
                                    · intro hJ13_14_19
                                      refine join_ (σ := Value) 7 #[true, true, true, true, true, true, true, true, true, true, true, true, true, false, false, false, true, true, true, false, false, false, false] (fun s_ => [(17, s_), (18, .string (strOfNums y193)), (21, .string ((strOfNums y193) ++ ((rd_T25 l0 x8_1).f0)))]) (fun s_ w' => (w'.cell? ⟨gb192, 0, none⟩ = some (.string ((rd_T25 l0 x8_1).f0)) ∧ w'.cell? ⟨gb192, 1, none⟩ = some (.int .i64 ((rd_T25 l0 x8_1).f1)) ∧ w'.cell? ⟨gb192, 2, none⟩ = some (.int .i64 ((rd_T25 l0 x8_1).f2))) ∧ (Kd.R (Kd.int .u8) 5 w' w.heap.size (fun _ => True) s_ y193) ∧ (w'.heap[gb192]? = some (.cells #[.string ((rd_T25 l0 x8_1).f0), .int .i64 ((rd_T25 l0 x8_1).f1), .int .i64 ((rd_T25 l0 x8_1).f2)] 25 (0, 0))) ∧ (Below w.heap.size w w')) ?_ ?_
                                      rotate_left
                                      · intro hJ5_6
                                        refine join_ (σ := Value × Value) 8 #[true, true, true, true, true, true, false, true, true, false, true, true, true, true, false, false, true, true, true, false, false, false, false] (fun s_ => [(17, s_.1), (25, s_.2)]) (fun s_ w' => (w'.cell? ⟨gb192, 0, none⟩ = some (.string ((rd_T25 l0 x8_1).f0)) ∧ w'.cell? ⟨gb192, 1, none⟩ = some (.int .i64 ((rd_T25 l0 x8_1).f1)) ∧ w'.cell? ⟨gb192, 2, none⟩ = some (.int .i64 ((rd_T25 l0 x8_1).f2))) ∧ (Kd.R (Kd.int .u8) 5 w' w.heap.size (fun k_ => some k_ ≠ (s_.2 : Value).ownBlock) s_.1 y193) ∧ (Kd.R (Kd.int .u8) 5 w' w.heap.size (fun k_ => some k_ ≠ (s_.1 : Value).ownBlock) s_.2 y196) ∧ (w'.heap[gb192]? = some (.cells #[.string ((rd_T25 l0 x8_1).f0), .int .i64 ((rd_T25 l0 x8_1).f1), .int .i64 ((rd_T25 l0 x8_1).f2)] 25 (0, 0))) ∧ (Below w.heap.size w w')) ?_ ?_
                                        rotate_left
                                        · intro hJ5_13
                                          refine join_ (σ := Value) 8 #[true, true, true, true, true, true, false, true, true, false, true, true, true, false, false, false, true, true, true, true, false, false, false] (fun s_ => [(17, s_), (31, .string t199)]) (fun s_ w' => (w'.cell? ⟨gb192, 0, none⟩ = some (.string ((rd_T25 l0 x8_1).f0)) ∧ w'.cell? ⟨gb192, 1, none⟩ = some (.int .i64 ((rd_T25 l0 x8_1).f1)) ∧ w'.cell? ⟨gb192, 2, none⟩ = some (.int .i64 ((rd_T25 l0 x8_1).f2))) ∧ (Kd.R (Kd.int .u8) 5 w' w.heap.size (fun _ => True) s_ y193) ∧ (w'.heap[gb192]? = some (.cells #[.string ((rd_T25 l0 x8_1).f0), .int .i64 ((rd_T25 l0 x8_1).f1), .int .i64 ((rd_T25 l0 x8_1).f2)] 25 (0, 0))) ∧ (Below w.heap.size w w')) ?_ ?_
                                          rotate_left
                                          · intro hJ5_19
                                            refine join_ (σ := Value) 8 #[true, true, true, true, true, false, false, true, true, false, true, true, true, true, true, false, true, true, true, false, false, false, false] (fun s_ => [(25, s_), (26, .string (strOfNums y196))]) (fun s_ w' => (w'.cell? ⟨gb192, 0, none⟩ = some (.string ((rd_T25 l0 x8_1).f0)) ∧ w'.cell? ⟨gb192, 1, none⟩ = some (.int .i64 ((rd_T25 l0 x8_1).f1)) ∧ w'.cell? ⟨gb192, 2, none⟩ = some (.int .i64 ((rd_T25 l0 x8_1).f2))) ∧ (Kd.R (Kd.int .u8) 5 w' w.heap.size (fun _ => True) s_ y196) ∧ (w'.heap[gb192]? = some (.cells #[.string ((rd_T25 l0 x8_1).f0), .int .i64 ((rd_T25 l0 x8_1).f1), .int .i64 ((rd_T25 l0 x8_1).f2)] 25 (0, 0))) ∧ (Below w.heap.size w w')) ?_ ?_
                                            rotate_left
                                            · intro hJ13_14
                                              refine join_ (σ := Value) 8 #[true, true, true, true, true, false, false, true, true, false, true, true, true, true, false, false, true, true, true, true, false, false, false] (fun s_ => [(25, s_), (31, .string t199)]) (fun s_ w' => (w'.cell? ⟨gb192, 0, none⟩ = some (.string ((rd_T25 l0 x8_1).f0)) ∧ w'.cell? ⟨gb192, 1, none⟩ = some (.int .i64 ((rd_T25 l0 x8_1).f1)) ∧ w'.cell? ⟨gb192, 2, none⟩ = some (.int .i64 ((rd_T25 l0 x8_1).f2))) ∧ (Kd.R (Kd.int .u8) 5 w' w.heap.size (fun _ => True) s_ y196) ∧ (w'.heap[gb192]? = some (.cells #[.string ((rd_T25 l0 x8_1).f0), .int .i64 ((rd_T25 l0 x8_1).f1), .int .i64 ((rd_T25 l0 x8_1).f2)] 25 (0, 0))) ∧ (Below w.heap.size w w')) ?_ ?_
                                              rotate_left
                                              · intro hJ13_19
                                                refine join_ (σ := Value) 9 #[true, true, true, true, true, true, false, true, true, false, true, true, true, false, false, false, true, true, true, false, false, false, false] (fun s_ => [(17, s_)]) (fun s_ w' => (w'.cell? ⟨gb192, 0, none⟩ = some (.string ((rd_T25 l0 x8_1).f0)) ∧ w'.cell? ⟨gb192, 1, none⟩ = some (.int .i64 ((rd_T25 l0 x8_1).f1)) ∧ w'.cell? ⟨gb192, 2, none⟩ = some (.int .i64 ((rd_T25 l0 x8_1).f2))) ∧ (Kd.R (Kd.int .u8) 5 w' w.heap.size (fun _ => True) s_ y193) ∧ (w'.heap[gb192]? = some (.cells #[.string ((rd_T25 l0 x8_1).f0), .int .i64 ((rd_T25 l0 x8_1).f1), .int .i64 ((rd_T25 l0 x8_1).f2)] 25 (0, 0))) ∧ (Below w.heap.size w w')) ?_ ?_
                                                rotate_left
                                                · intro hJ5
                                                  refine join_ (σ := Value) 9 #[true, true, true, true, true, false, false, true, true, false, true, true, true, true, false, false, true, true, true, false, false, false, false] (fun s_ => [(25, s_)]) (fun s_ w' => (w'.cell? ⟨gb192, 0, none⟩ = some (.string ((rd_T25 l0 x8_1).f0)) ∧ w'.cell? ⟨gb192, 1, none⟩ = some (.int .i64 ((rd_T25 l0 x8_1).f1)) ∧ w'.cell? ⟨gb192, 2, none⟩ = some (.int .i64 ((rd_T25 l0 x8_1).f2))) ∧ (Kd.R (Kd.int .u8) 5 w' w.heap.size (fun _ => True) s_ y196) ∧ (w'.heap[gb192]? = some (.cells #[.string ((rd_T25 l0 x8_1).f0), .int .i64 ((rd_T25 l0 x8_1).f1), .int .i64 ((rd_T25 l0 x8_1).f2)] 25 (0, 0))) ∧ (Below w.heap.size w w')) ?_ ?_
                                                  rotate_left
                                                  · intro hJ13
                                                    refine join_ (σ := Unit) 9 #[true, true, true, true, true, false, false, true, true, false, true, true, true, false, false, false, true, true, true, true, false, false, false] (fun s_ => [(31, .string t199)]) (fun s_ w' => (w'.cell? ⟨gb192, 0, none⟩ = some (.string ((rd_T25 l0 x8_1).f0)) ∧ w'.cell? ⟨gb192, 1, none⟩ = some (.int .i64 ((rd_T25 l0 x8_1).f1)) ∧ w'.cell? ⟨gb192, 2, none⟩ = some (.int .i64 ((rd_T25 l0 x8_1).f2))) ∧ (w'.heap[gb192]? = some (.cells #[.string ((rd_T25 l0 x8_1).f0), .int .i64 ((rd_T25 l0 x8_1).f1), .int .i64 ((rd_T25 l0 x8_1).f2)] 25 (0, 0))) ∧ (Below w.heap.size w w')) ?_ ?_
                                                    rotate_left
                                                    · intro hJ19
                                                      refine three_ (i := 5) (j := 13) (k := 19) (Ni := some 17) (Nj := some 25) (Nk := some 31) #[true, true, true, true, true, true, false, true, true, false, true, true, true, false, false, false, true, true, true, false, false, false, false] #[true, true, true, true, true, false, false, true, true, false, true, true, true, true, false, false, true, true, true, false, false, false, false] #[true, true, true, true, true, false, false, true, true, false, true, true, true, false, false, false, true, true, true, true, false, false, false] rfl rfl rfl rfl rfl rfl (three_of HT_.out (by kernel_rfl)) (by decide) (by decide) (by decide) (fun K hK => ?_) (fun K hK => ?_) (fun K hK => ?_)
                                                      · skip
                                                        refine Kd.R_lit_step (Kd.int .u8) _ 5 ?hg (N := 17) ?hd (xs := ([((((rd_T25 l0 x8_1).f0).size : Int)) % 256] : List Int)) (inner := [.int .u8 (((((rd_T25 l0 x8_1).f0).size : Int)) % 256)]) (ok := fun _ => True) (okp := fun _ => True) ?hr ?hp (fun _ hk => hk) trivial (Below.refl _ _) (Nat.le_refl _) (by simp) ?_; (case hd => rfl); (case hg => rfl); (case hr => first | (go_simp; done) | (go_simp; rfl)); (case hp => exact (Reps.one (show Kd.M (Kd.int .u8) _ _ _ (((((rd_T25 l0 x8_1).f0).size : Int)) % 256) [.int .u8 (((((rd_T25 l0 x8_1).f0).size : Int)) % 256)] from rfl) (Reps.none _ _)))
                                                        intro v194 w14 ho15 hb hg_ hnew_
                                                        clear hg_ hnew_
                                                        (first | rw [← Ny193.out] at ho15 | (simp only [Int.reduceToNat] at ho15; rw [← Ny193.out] at ho15))
                                                        have n0_ := Aside0.mk (Kd.R_lower ho15 (below_size (by repeat (first | (with_reducible first | exact HB.out | apply below_alloc | apply pw_below_drewN | apply below_drew1 | refine below_set ?_ GE192.out) | exact HB.out))))
                                                        have n1_ := Aside0.mk (blk_below (g := gb192) (o := .cells #[.string ((rd_T25 l0 x8_1).f0), .int .i64 ((rd_T25 l0 x8_1).f1), .int .i64 ((rd_T25 l0 x8_1).f2)] 25 (0, 0)) (by (with_reducible repeat (first | refine blk_drewN ?_ _ | refine blk_drew ?_ | refine blk_alloc ?_ _)); exact BK192.out) hb)
                                                        have n2_ := Aside0.mk (below_step (by repeat (first | (with_reducible first | exact HB.out | apply below_alloc | apply pw_below_drewN | apply below_drew1 | refine below_set ?_ GE192.out) | exact HB.out)) hb)
                                                        clear BK192
                                                        clear HB
                                                        have HO195 := n0_
                                                        have BK192 := n1_
                                                        have HB := n2_
                                                        clear n0_ n1_ n2_
                                                        clear hb ho15
                                                        refine hK.out _ _ ⟨(blk_cell BK192.out 0).trans rfl, (blk_cell BK192.out 1).trans rfl, (blk_cell BK192.out 2).trans rfl⟩ (fun hHeld => ?_)
                                                        clear hK K
                                                        refine norm_ (a' := ?_) ?_ ?_
                                                        rotate_left
                                                        · show Act.put _ (some 17) _ = _
                                                          simp only [Act.put, List.setIfInBounds_toArray, List.set_cons_zero, List.set_cons_succ, i64_w, i32_w]
                                                          rfl
                                                        exact norm_ (by first | (simp only [putAll, Act.put, List.setIfInBounds_toArray, List.set_cons_zero, List.set_cons_succ]; done) | (simp only [putAll, Act.put, List.setIfInBounds_toArray, List.set_cons_zero, List.set_cons_succ]; rfl)) (hJ5 (v194) _ ⟨hHeld, (by (with_reducible repeat (first | apply Kd.R_alloc | apply Kd.R_drewN | apply Kd.R_drew)); exact HO195.out), (by (with_reducible repeat (first | refine blk_drewN ?_ _ | refine blk_drew ?_ | refine blk_alloc ?_ _)); exact BK192.out), (by repeat (first | (with_reducible first | exact HB.out | apply below_alloc | apply pw_below_drewN | apply below_drew1 | refine below_set ?_ GE192.out) | exact HB.out))⟩)
                                                      · skip
                                                        refine Kd.R_lit_step (Kd.int .u8) _ 5 ?hg (N := 25) ?hd (xs := ([((rd_T25 l0 x8_1).f1) % 256] : List Int)) (inner := [.int .u8 (((rd_T25 l0 x8_1).f1) % 256)]) (ok := fun _ => True) (okp := fun _ => True) ?hr ?hp (fun _ hk => hk) trivial (Below.refl _ _) (Nat.le_refl _) (by simp) ?_; (case hd => rfl); (case hg => rfl); (case hr => first | (go_simp; done) | (go_simp; rfl)); (case hp => exact (Reps.one (show Kd.M (Kd.int .u8) _ _ _ (((rd_T25 l0 x8_1).f1) % 256) [.int .u8 (((rd_T25 l0 x8_1).f1) % 256)] from rfl) (Reps.none _ _)))
                                                        intro v197 w14 ho15 hb hg_ hnew_
                                                        clear hg_ hnew_
                                                        (first | rw [← Ny196.out] at ho15 | (simp only [Int.reduceToNat] at ho15; rw [← Ny196.out] at ho15))
                                                        have n0_ := Aside0.mk (Kd.R_lower ho15 (below_size (by repeat (first | (with_reducible first | exact HB.out | apply below_alloc | apply pw_below_drewN | apply below_drew1 | refine below_set ?_ GE192.out) | exact HB.out))))
                                                        have n1_ := Aside0.mk (blk_below (g := gb192) (o := .cells #[.string ((rd_T25 l0 x8_1).f0), .int .i64 ((rd_T25 l0 x8_1).f1), .int .i64 ((rd_T25 l0 x8_1).f2)] 25 (0, 0)) (by (with_reducible repeat (first | refine blk_drewN ?_ _ | refine blk_drew ?_ | refine blk_alloc ?_ _)); exact BK192.out) hb)
                                                        have n2_ := Aside0.mk (below_step (by repeat (first | (with_reducible first | exact HB.out | apply below_alloc | apply pw_below_drewN | apply below_drew1 | refine below_set ?_ GE192.out) | exact HB.out)) hb)
                                                        clear BK192
                                                        clear HB
                                                        have HO198 := n0_
                                                        have BK192 := n1_
                                                        have HB := n2_
                                                        clear n0_ n1_ n2_
                                                        clear hb ho15
                                                        refine hK.out _ _ ⟨(blk_cell BK192.out 0).trans rfl, (blk_cell BK192.out 1).trans rfl, (blk_cell BK192.out 2).trans rfl⟩ (fun hHeld => ?_)
                                                        clear hK K
                                                        refine norm_ (a' := ?_) ?_ ?_
                                                        rotate_left
                                                        · show Act.put _ (some 25) _ = _
                                                          simp only [Act.put, List.setIfInBounds_toArray, List.set_cons_zero, List.set_cons_succ, i64_w, i32_w]
                                                          rfl
                                                        exact norm_ (by first | (simp only [putAll, Act.put, List.setIfInBounds_toArray, List.set_cons_zero, List.set_cons_succ]; done) | (simp only [putAll, Act.put, List.setIfInBounds_toArray, List.set_cons_zero, List.set_cons_succ]; rfl)) (hJ13 (v197) _ ⟨hHeld, (by (with_reducible repeat (first | apply Kd.R_alloc | apply Kd.R_drewN | apply Kd.R_drew)); exact HO198.out), (by (with_reducible repeat (first | refine blk_drewN ?_ _ | refine blk_drew ?_ | refine blk_alloc ?_ _)); exact BK192.out), (by repeat (first | (with_reducible first | exact HB.out | apply below_alloc | apply pw_below_drewN | apply below_drew1 | refine below_set ?_ GE192.out) | exact HB.out))⟩)
                                                      · skip
                                                        refine goes_ Tryd.func39 (by kernel_rfl) rfl #[.int .u64 (IntKind.u64.wrap ((rd_T25 l0 x8_1).f2))] (by rfl) rfl rfl (by (try simp only [List.map_toArray, List.map_cons, List.map_nil]); first | done | rfl | (simp only [List.length_drop, List.length_take]; rfl)) ?_
                                                        with_reducible refine (gatehouseref03_Eight.calls k1 (IntKind.u64.wrap ((rd_T25 l0 x8_1).f2)) t199 _ A7.out).mono ?_
                                                        rintro e w14 ⟨rfl, hb⟩
                                                        refine ⟨_, rfl, ?_⟩
                                                        have n0_ := Aside0.mk (blk_below (g := gb192) (o := .cells #[.string ((rd_T25 l0 x8_1).f0), .int .i64 ((rd_T25 l0 x8_1).f1), .int .i64 ((rd_T25 l0 x8_1).f2)] 25 (0, 0)) (by (with_reducible repeat (first | refine blk_drewN ?_ _ | refine blk_drew ?_ | refine blk_alloc ?_ _)); exact BK192.out) hb)
                                                        have n1_ := Aside0.mk (below_step (by repeat (first | (with_reducible first | exact HB.out | apply below_alloc | apply pw_below_drewN | apply below_drew1 | refine below_set ?_ GE192.out) | exact HB.out)) hb)
                                                        clear BK192
                                                        clear HB
                                                        have BK192 := n0_
                                                        have HB := n1_
                                                        clear n0_ n1_
                                                        (try clear hb)
                                                        (try clear hb2)
                                                        (try clear hk)
                                                        (try clear hi)
                                                        refine hK.out _ _ ⟨(blk_cell BK192.out 0).trans rfl, (blk_cell BK192.out 1).trans rfl, (blk_cell BK192.out 2).trans rfl⟩ (fun hHeld => ?_)
                                                        clear hK K
                                                        refine norm_ (a' := ?_) ?_ ?_
                                                        rotate_left
                                                        · show Act.put _ (some 31) _ = _
                                                          simp only [Act.put, List.setIfInBounds_toArray, List.set_cons_zero, List.set_cons_succ, i64_w, i32_w]
                                                          rfl
                                                        exact norm_ (by first | (simp only [putAll, Act.put, List.setIfInBounds_toArray, List.set_cons_zero, List.set_cons_succ]; done) | (simp only [putAll, Act.put, List.setIfInBounds_toArray, List.set_cons_zero, List.set_cons_succ]; rfl)) (hJ19 () _ ⟨hHeld, (by (with_reducible repeat (first | refine blk_drewN ?_ _ | refine blk_drew ?_ | refine blk_alloc ?_ _)); exact BK192.out), (by repeat (first | (with_reducible first | exact HB.out | apply below_alloc | apply pw_below_drewN | apply below_drew1 | refine below_set ?_ GE192.out) | exact HB.out))⟩)
                                                    · skip
                                                      rintro _ w15 ⟨hS_, h0_, h1_⟩
                                                      have n0_ : Aside0 (w15.heap[gb192]? = some (.cells #[.string ((rd_T25 l0 x8_1).f0), .int .i64 ((rd_T25 l0 x8_1).f1), .int .i64 ((rd_T25 l0 x8_1).f2)] 25 (0, 0))) := ⟨h0_⟩
                                                      have n1_ : Aside0 (Below w.heap.size w w15) := ⟨h1_⟩
                                                      clear BK192
                                                      clear HB
                                                      clear h0_ h1_
                                                      have BK192 := n0_
                                                      have HB := n1_
                                                      clear n0_ n1_
                                                      have hHeld : w15.cell? ⟨gb192, 0, none⟩ = some (.string ((rd_T25 l0 x8_1).f0)) ∧ w15.cell? ⟨gb192, 1, none⟩ = some (.int .i64 ((rd_T25 l0 x8_1).f1)) ∧ w15.cell? ⟨gb192, 2, none⟩ = some (.int .i64 ((rd_T25 l0 x8_1).f2)) := hS_
                                                      refine norm_ (a' := ?_) ?_ ?_
                                                      rotate_left
                                                      · simp only [putAll, Act.put, List.setIfInBounds_toArray, List.set_cons_zero, List.set_cons_succ]
                                                        rfl
                                                      refine two_ (i := 5) (j := 13) (Ni := some 17) (Nj := some 25) #[true, true, true, true, true, true, false, true, true, false, true, true, true, false, false, false, true, true, true, true, false, false, false] #[true, true, true, true, true, false, false, true, true, false, true, true, true, true, false, false, true, true, true, true, false, false, false] rfl rfl rfl rfl (two_of HT_.out (by kernel_rfl)) (by decide) (by decide) (fun K hK => ?_) (fun K hK => ?_)
                                                      · skip
                                                        refine Kd.R_lit_step (Kd.int .u8) _ 5 ?hg (N := 17) ?hd (xs := ([((((rd_T25 l0 x8_1).f0).size : Int)) % 256] : List Int)) (inner := [.int .u8 (((((rd_T25 l0 x8_1).f0).size : Int)) % 256)]) (ok := fun _ => True) (okp := fun _ => True) ?hr ?hp (fun _ hk => hk) trivial (Below.refl _ _) (Nat.le_refl _) (by simp) ?_; (case hd => rfl); (case hg => rfl); (case hr => first | (go_simp; done) | (go_simp; rfl)); (case hp => exact (Reps.one (show Kd.M (Kd.int .u8) _ _ _ (((((rd_T25 l0 x8_1).f0).size : Int)) % 256) [.int .u8 (((((rd_T25 l0 x8_1).f0).size : Int)) % 256)] from rfl) (Reps.none _ _)))
                                                        intro v194 w16 ho17 hb hg_ hnew_
                                                        clear hg_ hnew_
                                                        (first | rw [← Ny193.out] at ho17 | (simp only [Int.reduceToNat] at ho17; rw [← Ny193.out] at ho17))
                                                        have n0_ := Aside0.mk (Kd.R_lower ho17 (below_size (by repeat (first | (with_reducible first | exact HB.out | apply below_alloc | apply pw_below_drewN | apply below_drew1 | refine below_set ?_ GE192.out) | exact HB.out))))
                                                        have n1_ := Aside0.mk (blk_below (g := gb192) (o := .cells #[.string ((rd_T25 l0 x8_1).f0), .int .i64 ((rd_T25 l0 x8_1).f1), .int .i64 ((rd_T25 l0 x8_1).f2)] 25 (0, 0)) (by (with_reducible repeat (first | refine blk_drewN ?_ _ | refine blk_drew ?_ | refine blk_alloc ?_ _)); exact BK192.out) hb)
                                                        have n2_ := Aside0.mk (below_step (by repeat (first | (with_reducible first | exact HB.out | apply below_alloc | apply pw_below_drewN | apply below_drew1 | refine below_set ?_ GE192.out) | exact HB.out)) hb)
                                                        clear BK192
                                                        clear HB
                                                        have HO195 := n0_
                                                        have BK192 := n1_
                                                        have HB := n2_
                                                        clear n0_ n1_ n2_
                                                        clear hb ho17
                                                        refine hK.out _ _ ⟨(blk_cell BK192.out 0).trans rfl, (blk_cell BK192.out 1).trans rfl, (blk_cell BK192.out 2).trans rfl⟩ (fun hHeld => ?_)
                                                        clear hK K
                                                        refine norm_ (a' := ?_) ?_ ?_
                                                        rotate_left
                                                        · show Act.put _ (some 17) _ = _
                                                          simp only [Act.put, List.setIfInBounds_toArray, List.set_cons_zero, List.set_cons_succ, i64_w, i32_w]
                                                          rfl
                                                        exact norm_ (by first | (simp only [putAll, Act.put, List.setIfInBounds_toArray, List.set_cons_zero, List.set_cons_succ]; done) | (simp only [putAll, Act.put, List.setIfInBounds_toArray, List.set_cons_zero, List.set_cons_succ]; rfl)) (hJ5_19 (v194) _ ⟨hHeld, (by (with_reducible repeat (first | apply Kd.R_alloc | apply Kd.R_drewN | apply Kd.R_drew)); exact HO195.out), (by (with_reducible repeat (first | refine blk_drewN ?_ _ | refine blk_drew ?_ | refine blk_alloc ?_ _)); exact BK192.out), (by repeat (first | (with_reducible first | exact HB.out | apply below_alloc | apply pw_below_drewN | apply below_drew1 | refine below_set ?_ GE192.out) | exact HB.out))⟩)
                                                      · skip
                                                        refine Kd.R_lit_step (Kd.int .u8) _ 5 ?hg (N := 25) ?hd (xs := ([((rd_T25 l0 x8_1).f1) % 256] : List Int)) (inner := [.int .u8 (((rd_T25 l0 x8_1).f1) % 256)]) (ok := fun _ => True) (okp := fun _ => True) ?hr ?hp (fun _ hk => hk) trivial (Below.refl _ _) (Nat.le_refl _) (by simp) ?_; (case hd => rfl); (case hg => rfl); (case hr => first | (go_simp; done) | (go_simp; rfl)); (case hp => exact (Reps.one (show Kd.M (Kd.int .u8) _ _ _ (((rd_T25 l0 x8_1).f1) % 256) [.int .u8 (((rd_T25 l0 x8_1).f1) % 256)] from rfl) (Reps.none _ _)))
                                                        intro v197 w16 ho17 hb hg_ hnew_
                                                        clear hg_ hnew_
                                                        (first | rw [← Ny196.out] at ho17 | (simp only [Int.reduceToNat] at ho17; rw [← Ny196.out] at ho17))
                                                        have n0_ := Aside0.mk (Kd.R_lower ho17 (below_size (by repeat (first | (with_reducible first | exact HB.out | apply below_alloc | apply pw_below_drewN | apply below_drew1 | refine below_set ?_ GE192.out) | exact HB.out))))
                                                        have n1_ := Aside0.mk (blk_below (g := gb192) (o := .cells #[.string ((rd_T25 l0 x8_1).f0), .int .i64 ((rd_T25 l0 x8_1).f1), .int .i64 ((rd_T25 l0 x8_1).f2)] 25 (0, 0)) (by (with_reducible repeat (first | refine blk_drewN ?_ _ | refine blk_drew ?_ | refine blk_alloc ?_ _)); exact BK192.out) hb)
                                                        have n2_ := Aside0.mk (below_step (by repeat (first | (with_reducible first | exact HB.out | apply below_alloc | apply pw_below_drewN | apply below_drew1 | refine below_set ?_ GE192.out) | exact HB.out)) hb)
                                                        clear BK192
                                                        clear HB
                                                        have HO198 := n0_
                                                        have BK192 := n1_
                                                        have HB := n2_
                                                        clear n0_ n1_ n2_
                                                        clear hb ho17
                                                        refine hK.out _ _ ⟨(blk_cell BK192.out 0).trans rfl, (blk_cell BK192.out 1).trans rfl, (blk_cell BK192.out 2).trans rfl⟩ (fun hHeld => ?_)
                                                        clear hK K
                                                        refine norm_ (a' := ?_) ?_ ?_
                                                        rotate_left
                                                        · show Act.put _ (some 25) _ = _
                                                          simp only [Act.put, List.setIfInBounds_toArray, List.set_cons_zero, List.set_cons_succ, i64_w, i32_w]
                                                          rfl
                                                        exact norm_ (by first | (simp only [putAll, Act.put, List.setIfInBounds_toArray, List.set_cons_zero, List.set_cons_succ]; done) | (simp only [putAll, Act.put, List.setIfInBounds_toArray, List.set_cons_zero, List.set_cons_succ]; rfl)) (hJ13_19 (v197) _ ⟨hHeld, (by (with_reducible repeat (first | apply Kd.R_alloc | apply Kd.R_drewN | apply Kd.R_drew)); exact HO198.out), (by (with_reducible repeat (first | refine blk_drewN ?_ _ | refine blk_drew ?_ | refine blk_alloc ?_ _)); exact BK192.out), (by repeat (first | (with_reducible first | exact HB.out | apply below_alloc | apply pw_below_drewN | apply below_drew1 | refine below_set ?_ GE192.out) | exact HB.out))⟩)
                                                  · skip
                                                    rintro v197 w16 ⟨hS_, h0_, h1_, h2_⟩
                                                    have n0_ : Aside0 (Kd.R (Kd.int .u8) 5 w16 w.heap.size (fun _ => True) v197 y196) := ⟨h0_⟩
                                                    have n1_ : Aside0 (w16.heap[gb192]? = some (.cells #[.string ((rd_T25 l0 x8_1).f0), .int .i64 ((rd_T25 l0 x8_1).f1), .int .i64 ((rd_T25 l0 x8_1).f2)] 25 (0, 0))) := ⟨h1_⟩
                                                    have n2_ : Aside0 (Below w.heap.size w w16) := ⟨h2_⟩
                                                    clear BK192
                                                    clear HB
                                                    clear h0_ h1_ h2_
                                                    have HO198 := n0_
                                                    have BK192 := n1_
                                                    have HB := n2_
                                                    clear n0_ n1_ n2_
                                                    have hHeld : w16.cell? ⟨gb192, 0, none⟩ = some (.string ((rd_T25 l0 x8_1).f0)) ∧ w16.cell? ⟨gb192, 1, none⟩ = some (.int .i64 ((rd_T25 l0 x8_1).f1)) ∧ w16.cell? ⟨gb192, 2, none⟩ = some (.int .i64 ((rd_T25 l0 x8_1).f2)) := hS_
                                                    refine norm_ (a' := ?_) ?_ ?_
                                                    rotate_left
                                                    · simp only [putAll, Act.put, List.setIfInBounds_toArray, List.set_cons_zero, List.set_cons_succ]
                                                      rfl
                                                    refine three_ (i := 5) (j := 14) (k := 19) (Ni := some 17) (Nj := some 26) (Nk := some 31) #[true, true, true, true, true, true, false, true, true, false, true, true, true, true, false, false, true, true, true, false, false, false, false] #[true, true, true, true, true, false, false, true, true, false, true, true, true, true, true, false, true, true, true, false, false, false, false] #[true, true, true, true, true, false, false, true, true, false, true, true, true, true, false, false, true, true, true, true, false, false, false] rfl rfl rfl rfl rfl rfl (three_of HT_.out (by kernel_rfl)) (by decide) (by decide) (by decide) (fun K hK => ?_) (fun K hK => ?_) (fun K hK => ?_)
                                                    · skip
                                                      refine Kd.R_lit_step (Kd.int .u8) _ 5 ?hg (N := 17) ?hd (xs := ([((((rd_T25 l0 x8_1).f0).size : Int)) % 256] : List Int)) (inner := [.int .u8 (((((rd_T25 l0 x8_1).f0).size : Int)) % 256)]) (ok := fun _ => True) (okp := fun _ => True) ?hr ?hp (fun _ hk => hk) trivial (Below.refl _ _) (Nat.le_refl _) (by simp) ?_; (case hd => rfl); (case hg => rfl); (case hr => first | (go_simp; done) | (go_simp; rfl)); (case hp => exact (Reps.one (show Kd.M (Kd.int .u8) _ _ _ (((((rd_T25 l0 x8_1).f0).size : Int)) % 256) [.int .u8 (((((rd_T25 l0 x8_1).f0).size : Int)) % 256)] from rfl) (Reps.none _ _)))
                                                      intro v194 w17 ho18 hb hg_ hnew_
                                                      clear hg_ hnew_
                                                      (first | rw [← Ny193.out] at ho18 | (simp only [Int.reduceToNat] at ho18; rw [← Ny193.out] at ho18))
                                                      have n0_ := Aside0.mk (Kd.R_elder' (by (with_reducible repeat (first | apply Kd.R_alloc | apply Kd.R_drewN | apply Kd.R_drew)); exact HO198.out) (Kd.R_base ho18) hb)
                                                      have n1_ := Aside0.mk (Kd.R_lower (Kd.R_new' ho18 (Kd.R_lt (by (with_reducible repeat (first | apply Kd.R_alloc | apply Kd.R_drewN | apply Kd.R_drew)); exact HO198.out))) (below_size (by repeat (first | (with_reducible first | exact HB.out | apply below_alloc | apply pw_below_drewN | apply below_drew1 | refine below_set ?_ GE192.out) | exact HB.out))))
                                                      have n2_ := Aside0.mk (blk_below (g := gb192) (o := .cells #[.string ((rd_T25 l0 x8_1).f0), .int .i64 ((rd_T25 l0 x8_1).f1), .int .i64 ((rd_T25 l0 x8_1).f2)] 25 (0, 0)) (by (with_reducible repeat (first | refine blk_drewN ?_ _ | refine blk_drew ?_ | refine blk_alloc ?_ _)); exact BK192.out) hb)
                                                      have n3_ := Aside0.mk (below_step (by repeat (first | (with_reducible first | exact HB.out | apply below_alloc | apply pw_below_drewN | apply below_drew1 | refine below_set ?_ GE192.out) | exact HB.out)) hb)
                                                      clear HO198
                                                      clear BK192
                                                      clear HB
                                                      have HO198 := n0_
                                                      have HO195 := n1_
                                                      have BK192 := n2_
                                                      have HB := n3_
                                                      clear n0_ n1_ n2_ n3_
                                                      clear hb ho18
                                                      refine hK.out _ _ ⟨(blk_cell BK192.out 0).trans rfl, (blk_cell BK192.out 1).trans rfl, (blk_cell BK192.out 2).trans rfl⟩ (fun hHeld => ?_)
                                                      clear hK K
                                                      refine norm_ (a' := ?_) ?_ ?_
                                                      rotate_left
                                                      · show Act.put _ (some 17) _ = _
                                                        simp only [Act.put, List.setIfInBounds_toArray, List.set_cons_zero, List.set_cons_succ, i64_w, i32_w]
                                                        rfl
                                                      exact norm_ (by first | (simp only [putAll, Act.put, List.setIfInBounds_toArray, List.set_cons_zero, List.set_cons_succ]; done) | (simp only [putAll, Act.put, List.setIfInBounds_toArray, List.set_cons_zero, List.set_cons_succ]; rfl)) (hJ5_13 (v194, v197) _ ⟨hHeld, (by (with_reducible repeat (first | apply Kd.R_alloc | apply Kd.R_drewN | apply Kd.R_drew)); exact Kd.R_mono HO195.out (fun _ hk => hk.2)), (by (with_reducible repeat (first | apply Kd.R_alloc | apply Kd.R_drewN | apply Kd.R_drew)); exact Kd.R_mono HO198.out (fun _ hk => hk.2)), (by (with_reducible repeat (first | refine blk_drewN ?_ _ | refine blk_drew ?_ | refine blk_alloc ?_ _)); exact BK192.out), (by repeat (first | (with_reducible first | exact HB.out | apply below_alloc | apply pw_below_drewN | apply below_drew1 | refine below_set ?_ GE192.out) | exact HB.out))⟩)
                                                    · skip
                                                      have hcv17 := own_string (P := Tryd.prog) Tryd.underlying34 Tryd.underlying5 Tryd.underlying9 (Kd.own_of_R HO198.out)
                                                      refine value_ (w1 := ?_) (v := ?_) (by rfl) rfl ?_ ?_
                                                      rotate_left 2
                                                      · go_simp
                                                        constructor
                                                        · rfl
                                                        · rfl
                                                      clear hcv17
                                                      refine hK.out _ _ ⟨(blk_cell BK192.out 0).trans rfl, (blk_cell BK192.out 1).trans rfl, (blk_cell BK192.out 2).trans rfl⟩ (fun hHeld => ?_)
                                                      clear hK K
                                                      refine norm_ (a' := ?_) ?_ ?_
                                                      rotate_left
                                                      · show Act.put _ (some 26) _ = _
                                                        simp only [Act.put, List.setIfInBounds_toArray, List.set_cons_zero, List.set_cons_succ, i64_w, i32_w]
                                                        rfl
                                                      exact norm_ (by first | (simp only [putAll, Act.put, List.setIfInBounds_toArray, List.set_cons_zero, List.set_cons_succ]; done) | (simp only [putAll, Act.put, List.setIfInBounds_toArray, List.set_cons_zero, List.set_cons_succ]; rfl)) (hJ13_14 (v197) _ ⟨hHeld, (by (with_reducible repeat (first | apply Kd.R_alloc | apply Kd.R_drewN | apply Kd.R_drew)); exact HO198.out), (by (with_reducible repeat (first | refine blk_drewN ?_ _ | refine blk_drew ?_ | refine blk_alloc ?_ _)); exact BK192.out), (by repeat (first | (with_reducible first | exact HB.out | apply below_alloc | apply pw_below_drewN | apply below_drew1 | refine below_set ?_ GE192.out) | exact HB.out))⟩)
                                                    · skip
                                                      refine goes_ Tryd.func39 (by kernel_rfl) rfl #[.int .u64 (IntKind.u64.wrap ((rd_T25 l0 x8_1).f2))] (by rfl) rfl rfl (by (try simp only [List.map_toArray, List.map_cons, List.map_nil]); first | done | rfl | (simp only [List.length_drop, List.length_take]; rfl)) ?_
                                                      with_reducible refine (gatehouseref03_Eight.calls k1 (IntKind.u64.wrap ((rd_T25 l0 x8_1).f2)) t199 _ A7.out).mono ?_
                                                      rintro e w17 ⟨rfl, hb⟩
                                                      refine ⟨_, rfl, ?_⟩
                                                      have n0_ := Aside0.mk (Kd.R_below (by (with_reducible repeat (first | apply Kd.R_alloc | apply Kd.R_drewN | apply Kd.R_drew)); exact HO198.out) hb)
                                                      have n1_ := Aside0.mk (blk_below (g := gb192) (o := .cells #[.string ((rd_T25 l0 x8_1).f0), .int .i64 ((rd_T25 l0 x8_1).f1), .int .i64 ((rd_T25 l0 x8_1).f2)] 25 (0, 0)) (by (with_reducible repeat (first | refine blk_drewN ?_ _ | refine blk_drew ?_ | refine blk_alloc ?_ _)); exact BK192.out) hb)
                                                      have n2_ := Aside0.mk (below_step (by repeat (first | (with_reducible first | exact HB.out | apply below_alloc | apply pw_below_drewN | apply below_drew1 | refine below_set ?_ GE192.out) | exact HB.out)) hb)
                                                      clear HO198
                                                      clear BK192
                                                      clear HB
                                                      have HO198 := n0_
                                                      have BK192 := n1_
                                                      have HB := n2_
                                                      clear n0_ n1_ n2_
                                                      (try clear hb)
                                                      (try clear hb2)
                                                      (try clear hk)
                                                      (try clear hi)
                                                      refine hK.out _ _ ⟨(blk_cell BK192.out 0).trans rfl, (blk_cell BK192.out 1).trans rfl, (blk_cell BK192.out 2).trans rfl⟩ (fun hHeld => ?_)
                                                      clear hK K
                                                      refine norm_ (a' := ?_) ?_ ?_
                                                      rotate_left
                                                      · show Act.put _ (some 31) _ = _
                                                        simp only [Act.put, List.setIfInBounds_toArray, List.set_cons_zero, List.set_cons_succ, i64_w, i32_w]
                                                        rfl
                                                      exact norm_ (by first | (simp only [putAll, Act.put, List.setIfInBounds_toArray, List.set_cons_zero, List.set_cons_succ]; done) | (simp only [putAll, Act.put, List.setIfInBounds_toArray, List.set_cons_zero, List.set_cons_succ]; rfl)) (hJ13_19 (v197) _ ⟨hHeld, (by (with_reducible repeat (first | apply Kd.R_alloc | apply Kd.R_drewN | apply Kd.R_drew)); exact HO198.out), (by (with_reducible repeat (first | refine blk_drewN ?_ _ | refine blk_drew ?_ | refine blk_alloc ?_ _)); exact BK192.out), (by repeat (first | (with_reducible first | exact HB.out | apply below_alloc | apply pw_below_drewN | apply below_drew1 | refine below_set ?_ GE192.out) | exact HB.out))⟩)
                                                · skip
                                                  rintro v194 w16 ⟨hS_, h0_, h1_, h2_⟩
                                                  have n0_ : Aside0 (Kd.R (Kd.int .u8) 5 w16 w.heap.size (fun _ => True) v194 y193) := ⟨h0_⟩
                                                  have n1_ : Aside0 (w16.heap[gb192]? = some (.cells #[.string ((rd_T25 l0 x8_1).f0), .int .i64 ((rd_T25 l0 x8_1).f1), .int .i64 ((rd_T25 l0 x8_1).f2)] 25 (0, 0))) := ⟨h1_⟩
                                                  have n2_ : Aside0 (Below w.heap.size w w16) := ⟨h2_⟩
                                                  clear BK192
                                                  clear HB
                                                  clear h0_ h1_ h2_
                                                  have HO195 := n0_
                                                  have BK192 := n1_
                                                  have HB := n2_
                                                  clear n0_ n1_ n2_
                                                  have hHeld : w16.cell? ⟨gb192, 0, none⟩ = some (.string ((rd_T25 l0 x8_1).f0)) ∧ w16.cell? ⟨gb192, 1, none⟩ = some (.int .i64 ((rd_T25 l0 x8_1).f1)) ∧ w16.cell? ⟨gb192, 2, none⟩ = some (.int .i64 ((rd_T25 l0 x8_1).f2)) := hS_
                                                  refine norm_ (a' := ?_) ?_ ?_
                                                  rotate_left
                                                  · simp only [putAll, Act.put, List.setIfInBounds_toArray, List.set_cons_zero, List.set_cons_succ]
                                                    rfl
                                                  refine three_ (i := 6) (j := 13) (k := 19) (Ni := some 18) (Nj := some 25) (Nk := some 31) #[true, true, true, true, true, true, true, true, true, false, true, true, true, false, false, false, true, true, true, false, false, false, false] #[true, true, true, true, true, true, false, true, true, false, true, true, true, true, false, false, true, true, true, false, false, false, false] #[true, true, true, true, true, true, false, true, true, false, true, true, true, false, false, false, true, true, true, true, false, false, false] rfl rfl rfl rfl rfl rfl (three_of HT_.out (by kernel_rfl)) (by decide) (by decide) (by decide) (fun K hK => ?_) (fun K hK => ?_) (fun K hK => ?_)
                                                  · skip
                                                    have hcv17 := own_string (P := Tryd.prog) Tryd.underlying34 Tryd.underlying5 Tryd.underlying9 (Kd.own_of_R HO195.out)
                                                    refine value_ (w1 := ?_) (v := ?_) (by rfl) rfl ?_ ?_
                                                    rotate_left 2
                                                    · go_simp
                                                      constructor
                                                      · rfl
                                                      · rfl
                                                    clear hcv17
                                                    refine hK.out _ _ ⟨(blk_cell BK192.out 0).trans rfl, (blk_cell BK192.out 1).trans rfl, (blk_cell BK192.out 2).trans rfl⟩ (fun hHeld => ?_)
                                                    clear hK K
                                                    refine norm_ (a' := ?_) ?_ ?_
                                                    rotate_left
                                                    · show Act.put _ (some 18) _ = _
                                                      simp only [Act.put, List.setIfInBounds_toArray, List.set_cons_zero, List.set_cons_succ, i64_w, i32_w]
                                                      rfl
                                                    refine pure_ (i := 9) (N := some 21) (v := ?_) (a' := ?_) #[true, true, true, true, true, true, true, true, true, true, true, true, true, false, false, false, true, true, true, false, false, false, false] rfl rfl (any_of HT_.out (by kernel_rfl)) (fun _ _ _ h => h) (Or.inl ⟨by rfl, ?_⟩) ?_ ?_
                                                    rotate_left
                                                    · intro w'
                                                      go_simp
                                                      with_reducible rfl
                                                    rotate_left
                                                    · simp only [Act.put, List.setIfInBounds_toArray, List.set_cons_zero, List.set_cons_succ, i64_w, i32_w]
                                                      rfl
                                                    exact norm_ (by first | (simp only [putAll, Act.put, List.setIfInBounds_toArray, List.set_cons_zero, List.set_cons_succ]; done) | (simp only [putAll, Act.put, List.setIfInBounds_toArray, List.set_cons_zero, List.set_cons_succ]; rfl)) (hJ5_6 (v194) _ ⟨hHeld, (by (with_reducible repeat (first | apply Kd.R_alloc | apply Kd.R_drewN | apply Kd.R_drew)); exact HO195.out), (by (with_reducible repeat (first | refine blk_drewN ?_ _ | refine blk_drew ?_ | refine blk_alloc ?_ _)); exact BK192.out), (by repeat (first | (with_reducible first | exact HB.out | apply below_alloc | apply pw_below_drewN | apply below_drew1 | refine below_set ?_ GE192.out) | exact HB.out))⟩)
                                                  · skip
                                                    refine Kd.R_lit_step (Kd.int .u8) _ 5 ?hg (N := 25) ?hd (xs := ([((rd_T25 l0 x8_1).f1) % 256] : List Int)) (inner := [.int .u8 (((rd_T25 l0 x8_1).f1) % 256)]) (ok := fun _ => True) (okp := fun _ => True) ?hr ?hp (fun _ hk => hk) trivial (Below.refl _ _) (Nat.le_refl _) (by simp) ?_; (case hd => rfl); (case hg => rfl); (case hr => first | (go_simp; done) | (go_simp; rfl)); (case hp => exact (Reps.one (show Kd.M (Kd.int .u8) _ _ _ (((rd_T25 l0 x8_1).f1) % 256) [.int .u8 (((rd_T25 l0 x8_1).f1) % 256)] from rfl) (Reps.none _ _)))
                                                    intro v197 w17 ho18 hb hg_ hnew_
                                                    clear hg_ hnew_
                                                    (first | rw [← Ny196.out] at ho18 | (simp only [Int.reduceToNat] at ho18; rw [← Ny196.out] at ho18))
                                                    have n0_ := Aside0.mk (Kd.R_elder' (by (with_reducible repeat (first | apply Kd.R_alloc | apply Kd.R_drewN | apply Kd.R_drew)); exact HO195.out) (Kd.R_base ho18) hb)
                                                    have n1_ := Aside0.mk (Kd.R_lower (Kd.R_new' ho18 (Kd.R_lt (by (with_reducible repeat (first | apply Kd.R_alloc | apply Kd.R_drewN | apply Kd.R_drew)); exact HO195.out))) (below_size (by repeat (first | (with_reducible first | exact HB.out | apply below_alloc | apply pw_below_drewN | apply below_drew1 | refine below_set ?_ GE192.out) | exact HB.out))))
                                                    have n2_ := Aside0.mk (blk_below (g := gb192) (o := .cells #[.string ((rd_T25 l0 x8_1).f0), .int .i64 ((rd_T25 l0 x8_1).f1), .int .i64 ((rd_T25 l0 x8_1).f2)] 25 (0, 0)) (by (with_reducible repeat (first | refine blk_drewN ?_ _ | refine blk_drew ?_ | refine blk_alloc ?_ _)); exact BK192.out) hb)
                                                    have n3_ := Aside0.mk (below_step (by repeat (first | (with_reducible first | exact HB.out | apply below_alloc | apply pw_below_drewN | apply below_drew1 | refine below_set ?_ GE192.out) | exact HB.out)) hb)
                                                    clear HO195
                                                    clear BK192
                                                    clear HB
                                                    have HO195 := n0_
                                                    have HO198 := n1_
                                                    have BK192 := n2_
                                                    have HB := n3_
                                                    clear n0_ n1_ n2_ n3_
                                                    clear hb ho18
                                                    refine hK.out _ _ ⟨(blk_cell BK192.out 0).trans rfl, (blk_cell BK192.out 1).trans rfl, (blk_cell BK192.out 2).trans rfl⟩ (fun hHeld => ?_)
                                                    clear hK K
                                                    refine norm_ (a' := ?_) ?_ ?_
                                                    rotate_left
                                                    · show Act.put _ (some 25) _ = _
                                                      simp only [Act.put, List.setIfInBounds_toArray, List.set_cons_zero, List.set_cons_succ, i64_w, i32_w]
                                                      rfl
                                                    exact norm_ (by first | (simp only [putAll, Act.put, List.setIfInBounds_toArray, List.set_cons_zero, List.set_cons_succ]; done) | (simp only [putAll, Act.put, List.setIfInBounds_toArray, List.set_cons_zero, List.set_cons_succ]; rfl)) (hJ5_13 (v194, v197) _ ⟨hHeld, (by (with_reducible repeat (first | apply Kd.R_alloc | apply Kd.R_drewN | apply Kd.R_drew)); exact Kd.R_mono HO195.out (fun _ hk => hk.2)), (by (with_reducible repeat (first | apply Kd.R_alloc | apply Kd.R_drewN | apply Kd.R_drew)); exact Kd.R_mono HO198.out (fun _ hk => hk.2)), (by (with_reducible repeat (first | refine blk_drewN ?_ _ | refine blk_drew ?_ | refine blk_alloc ?_ _)); exact BK192.out), (by repeat (first | (with_reducible first | exact HB.out | apply below_alloc | apply pw_below_drewN | apply below_drew1 | refine below_set ?_ GE192.out) | exact HB.out))⟩)
                                                  · skip
                                                    refine goes_ Tryd.func39 (by kernel_rfl) rfl #[.int .u64 (IntKind.u64.wrap ((rd_T25 l0 x8_1).f2))] (by rfl) rfl rfl (by (try simp only [List.map_toArray, List.map_cons, List.map_nil]); first | done | rfl | (simp only [List.length_drop, List.length_take]; rfl)) ?_
                                                    with_reducible refine (gatehouseref03_Eight.calls k1 (IntKind.u64.wrap ((rd_T25 l0 x8_1).f2)) t199 _ A7.out).mono ?_
                                                    rintro e w17 ⟨rfl, hb⟩
                                                    refine ⟨_, rfl, ?_⟩
                                                    have n0_ := Aside0.mk (Kd.R_below (by (with_reducible repeat (first | apply Kd.R_alloc | apply Kd.R_drewN | apply Kd.R_drew)); exact HO195.out) hb)
                                                    have n1_ := Aside0.mk (blk_below (g := gb192) (o := .cells #[.string ((rd_T25 l0 x8_1).f0), .int .i64 ((rd_T25 l0 x8_1).f1), .int .i64 ((rd_T25 l0 x8_1).f2)] 25 (0, 0)) (by (with_reducible repeat (first | refine blk_drewN ?_ _ | refine blk_drew ?_ | refine blk_alloc ?_ _)); exact BK192.out) hb)
                                                    have n2_ := Aside0.mk (below_step (by repeat (first | (with_reducible first | exact HB.out | apply below_alloc | apply pw_below_drewN | apply below_drew1 | refine below_set ?_ GE192.out) | exact HB.out)) hb)
                                                    clear HO195
                                                    clear BK192
                                                    clear HB
                                                    have HO195 := n0_
                                                    have BK192 := n1_
                                                    have HB := n2_
                                                    clear n0_ n1_ n2_
                                                    (try clear hb)
                                                    (try clear hb2)
                                                    (try clear hk)
                                                    (try clear hi)
                                                    refine hK.out _ _ ⟨(blk_cell BK192.out 0).trans rfl, (blk_cell BK192.out 1).trans rfl, (blk_cell BK192.out 2).trans rfl⟩ (fun hHeld => ?_)
                                                    clear hK K
                                                    refine norm_ (a' := ?_) ?_ ?_
                                                    rotate_left
                                                    · show Act.put _ (some 31) _ = _
                                                      simp only [Act.put, List.setIfInBounds_toArray, List.set_cons_zero, List.set_cons_succ, i64_w, i32_w]
                                                      rfl
                                                    exact norm_ (by first | (simp only [putAll, Act.put, List.setIfInBounds_toArray, List.set_cons_zero, List.set_cons_succ]; done) | (simp only [putAll, Act.put, List.setIfInBounds_toArray, List.set_cons_zero, List.set_cons_succ]; rfl)) (hJ5_19 (v194) _ ⟨hHeld, (by (with_reducible repeat (first | apply Kd.R_alloc | apply Kd.R_drewN | apply Kd.R_drew)); exact HO195.out), (by (with_reducible repeat (first | refine blk_drewN ?_ _ | refine blk_drew ?_ | refine blk_alloc ?_ _)); exact BK192.out), (by repeat (first | (with_reducible first | exact HB.out | apply below_alloc | apply pw_below_drewN | apply below_drew1 | refine below_set ?_ GE192.out) | exact HB.out))⟩)
                                              · skip
                                                rintro v197 w17 ⟨hS_, h0_, h1_, h2_⟩
                                                have n0_ : Aside0 (Kd.R (Kd.int .u8) 5 w17 w.heap.size (fun _ => True) v197 y196) := ⟨h0_⟩
                                                have n1_ : Aside0 (w17.heap[gb192]? = some (.cells #[.string ((rd_T25 l0 x8_1).f0), .int .i64 ((rd_T25 l0 x8_1).f1), .int .i64 ((rd_T25 l0 x8_1).f2)] 25 (0, 0))) := ⟨h1_⟩
                                                have n2_ : Aside0 (Below w.heap.size w w17) := ⟨h2_⟩
                                                clear BK192
                                                clear HB
                                                clear h0_ h1_ h2_
                                                have HO198 := n0_
                                                have BK192 := n1_
                                                have HB := n2_
                                                clear n0_ n1_ n2_
                                                have hHeld : w17.cell? ⟨gb192, 0, none⟩ = some (.string ((rd_T25 l0 x8_1).f0)) ∧ w17.cell? ⟨gb192, 1, none⟩ = some (.int .i64 ((rd_T25 l0 x8_1).f1)) ∧ w17.cell? ⟨gb192, 2, none⟩ = some (.int .i64 ((rd_T25 l0 x8_1).f2)) := hS_
                                                refine norm_ (a' := ?_) ?_ ?_
                                                rotate_left
                                                · simp only [putAll, Act.put, List.setIfInBounds_toArray, List.set_cons_zero, List.set_cons_succ]
                                                  rfl
                                                refine two_ (i := 5) (j := 14) (Ni := some 17) (Nj := some 26) #[true, true, true, true, true, true, false, true, true, false, true, true, true, true, false, false, true, true, true, true, false, false, false] #[true, true, true, true, true, false, false, true, true, false, true, true, true, true, true, false, true, true, true, true, false, false, false] rfl rfl rfl rfl (two_of HT_.out (by kernel_rfl)) (by decide) (by decide) (fun K hK => ?_) (fun K hK => ?_)
                                                · skip
                                                  refine Kd.R_lit_step (Kd.int .u8) _ 5 ?hg (N := 17) ?hd (xs := ([((((rd_T25 l0 x8_1).f0).size : Int)) % 256] : List Int)) (inner := [.int .u8 (((((rd_T25 l0 x8_1).f0).size : Int)) % 256)]) (ok := fun _ => True) (okp := fun _ => True) ?hr ?hp (fun _ hk => hk) trivial (Below.refl _ _) (Nat.le_refl _) (by simp) ?_; (case hd => rfl); (case hg => rfl); (case hr => first | (go_simp; done) | (go_simp; rfl)); (case hp => exact (Reps.one (show Kd.M (Kd.int .u8) _ _ _ (((((rd_T25 l0 x8_1).f0).size : Int)) % 256) [.int .u8 (((((rd_T25 l0 x8_1).f0).size : Int)) % 256)] from rfl) (Reps.none _ _)))
                                                  intro v194 w18 ho19 hb hg_ hnew_
                                                  clear hg_ hnew_
                                                  (first | rw [← Ny193.out] at ho19 | (simp only [Int.reduceToNat] at ho19; rw [← Ny193.out] at ho19))
                                                  have n0_ := Aside0.mk (Kd.R_elder' (by (with_reducible repeat (first | apply Kd.R_alloc | apply Kd.R_drewN | apply Kd.R_drew)); exact HO198.out) (Kd.R_base ho19) hb)
                                                  have n1_ := Aside0.mk (Kd.R_lower (Kd.R_new' ho19 (Kd.R_lt (by (with_reducible repeat (first | apply Kd.R_alloc | apply Kd.R_drewN | apply Kd.R_drew)); exact HO198.out))) (below_size (by repeat (first | (with_reducible first | exact HB.out | apply below_alloc | apply pw_below_drewN | apply below_drew1 | refine below_set ?_ GE192.out) | exact HB.out))))
                                                  have n2_ := Aside0.mk (blk_below (g := gb192) (o := .cells #[.string ((rd_T25 l0 x8_1).f0), .int .i64 ((rd_T25 l0 x8_1).f1), .int .i64 ((rd_T25 l0 x8_1).f2)] 25 (0, 0)) (by (with_reducible repeat (first | refine blk_drewN ?_ _ | refine blk_drew ?_ | refine blk_alloc ?_ _)); exact BK192.out) hb)
                                                  have n3_ := Aside0.mk (below_step (by repeat (first | (with_reducible first | exact HB.out | apply below_alloc | apply pw_below_drewN | apply below_drew1 | refine below_set ?_ GE192.out) | exact HB.out)) hb)
                                                  clear HO198
                                                  clear BK192
                                                  clear HB
                                                  have HO198 := n0_
                                                  have HO195 := n1_
                                                  have BK192 := n2_
                                                  have HB := n3_
                                                  clear n0_ n1_ n2_ n3_
                                                  clear hb ho19
                                                  refine hK.out _ _ ⟨(blk_cell BK192.out 0).trans rfl, (blk_cell BK192.out 1).trans rfl, (blk_cell BK192.out 2).trans rfl⟩ (fun hHeld => ?_)
                                                  clear hK K
                                                  refine norm_ (a' := ?_) ?_ ?_
                                                  rotate_left
                                                  · show Act.put _ (some 17) _ = _
                                                    simp only [Act.put, List.setIfInBounds_toArray, List.set_cons_zero, List.set_cons_succ, i64_w, i32_w]
                                                    rfl
                                                  exact norm_ (by first | (simp only [putAll, Act.put, List.setIfInBounds_toArray, List.set_cons_zero, List.set_cons_succ]; done) | (simp only [putAll, Act.put, List.setIfInBounds_toArray, List.set_cons_zero, List.set_cons_succ]; rfl)) (hJ5_13_19 (v194, v197) _ ⟨hHeld, (by (with_reducible repeat (first | apply Kd.R_alloc | apply Kd.R_drewN | apply Kd.R_drew)); exact Kd.R_mono HO195.out (fun _ hk => hk.2)), (by (with_reducible repeat (first | apply Kd.R_alloc | apply Kd.R_drewN | apply Kd.R_drew)); exact Kd.R_mono HO198.out (fun _ hk => hk.2)), (by (with_reducible repeat (first | refine blk_drewN ?_ _ | refine blk_drew ?_ | refine blk_alloc ?_ _)); exact BK192.out), (by repeat (first | (with_reducible first | exact HB.out | apply below_alloc | apply pw_below_drewN | apply below_drew1 | refine below_set ?_ GE192.out) | exact HB.out))⟩)
                                                · skip
                                                  have hcv18 := own_string (P := Tryd.prog) Tryd.underlying34 Tryd.underlying5 Tryd.underlying9 (Kd.own_of_R HO198.out)
                                                  refine value_ (w1 := ?_) (v := ?_) (by rfl) rfl ?_ ?_
                                                  rotate_left 2
                                                  · go_simp
                                                    constructor
                                                    · rfl
                                                    · rfl
                                                  clear hcv18
                                                  refine hK.out _ _ ⟨(blk_cell BK192.out 0).trans rfl, (blk_cell BK192.out 1).trans rfl, (blk_cell BK192.out 2).trans rfl⟩ (fun hHeld => ?_)
                                                  clear hK K
                                                  refine norm_ (a' := ?_) ?_ ?_
                                                  rotate_left
                                                  · show Act.put _ (some 26) _ = _
                                                    simp only [Act.put, List.setIfInBounds_toArray, List.set_cons_zero, List.set_cons_succ, i64_w, i32_w]
                                                    rfl
                                                  exact norm_ (by first | (simp only [putAll, Act.put, List.setIfInBounds_toArray, List.set_cons_zero, List.set_cons_succ]; done) | (simp only [putAll, Act.put, List.setIfInBounds_toArray, List.set_cons_zero, List.set_cons_succ]; rfl)) (hJ13_14_19 (v197) _ ⟨hHeld, (by (with_reducible repeat (first | apply Kd.R_alloc | apply Kd.R_drewN | apply Kd.R_drew)); exact HO198.out), (by (with_reducible repeat (first | refine blk_drewN ?_ _ | refine blk_drew ?_ | refine blk_alloc ?_ _)); exact BK192.out), (by repeat (first | (with_reducible first | exact HB.out | apply below_alloc | apply pw_below_drewN | apply below_drew1 | refine below_set ?_ GE192.out) | exact HB.out))⟩)
                                            · skip
                                              rintro v197 w17 ⟨hS_, h0_, h1_, h2_⟩
                                              have n0_ : Aside0 (Kd.R (Kd.int .u8) 5 w17 w.heap.size (fun _ => True) v197 y196) := ⟨h0_⟩
                                              have n1_ : Aside0 (w17.heap[gb192]? = some (.cells #[.string ((rd_T25 l0 x8_1).f0), .int .i64 ((rd_T25 l0 x8_1).f1), .int .i64 ((rd_T25 l0 x8_1).f2)] 25 (0, 0))) := ⟨h1_⟩
                                              have n2_ : Aside0 (Below w.heap.size w w17) := ⟨h2_⟩
                                              clear BK192
                                              clear HB
                                              clear h0_ h1_ h2_
                                              have HO198 := n0_
                                              have BK192 := n1_
                                              have HB := n2_
                                              clear n0_ n1_ n2_
                                              have hHeld : w17.cell? ⟨gb192, 0, none⟩ = some (.string ((rd_T25 l0 x8_1).f0)) ∧ w17.cell? ⟨gb192, 1, none⟩ = some (.int .i64 ((rd_T25 l0 x8_1).f1)) ∧ w17.cell? ⟨gb192, 2, none⟩ = some (.int .i64 ((rd_T25 l0 x8_1).f2)) := hS_
                                              refine norm_ (a' := ?_) ?_ ?_
                                              rotate_left
                                              · simp only [putAll, Act.put, List.setIfInBounds_toArray, List.set_cons_zero, List.set_cons_succ]
                                                rfl
                                              refine two_ (i := 5) (j := 19) (Ni := some 17) (Nj := some 31) #[true, true, true, true, true, true, false, true, true, false, true, true, true, true, true, false, true, true, true, false, false, false, false] #[true, true, true, true, true, false, false, true, true, false, true, true, true, true, true, false, true, true, true, true, false, false, false] rfl rfl rfl rfl (two_of HT_.out (by kernel_rfl)) (by decide) (by decide) (fun K hK => ?_) (fun K hK => ?_)
                                              · skip
                                                refine Kd.R_lit_step (Kd.int .u8) _ 5 ?hg (N := 17) ?hd (xs := ([((((rd_T25 l0 x8_1).f0).size : Int)) % 256] : List Int)) (inner := [.int .u8 (((((rd_T25 l0 x8_1).f0).size : Int)) % 256)]) (ok := fun _ => True) (okp := fun _ => True) ?hr ?hp (fun _ hk => hk) trivial (Below.refl _ _) (Nat.le_refl _) (by simp) ?_; (case hd => rfl); (case hg => rfl); (case hr => first | (go_simp; done) | (go_simp; rfl)); (case hp => exact (Reps.one (show Kd.M (Kd.int .u8) _ _ _ (((((rd_T25 l0 x8_1).f0).size : Int)) % 256) [.int .u8 (((((rd_T25 l0 x8_1).f0).size : Int)) % 256)] from rfl) (Reps.none _ _)))
                                                intro v194 w18 ho19 hb hg_ hnew_
                                                clear hg_ hnew_
                                                (first | rw [← Ny193.out] at ho19 | (simp only [Int.reduceToNat] at ho19; rw [← Ny193.out] at ho19))
                                                have n0_ := Aside0.mk (Kd.R_elder' (by (with_reducible repeat (first | apply Kd.R_alloc | apply Kd.R_drewN | apply Kd.R_drew)); exact HO198.out) (Kd.R_base ho19) hb)
                                                have n1_ := Aside0.mk (Kd.R_lower (Kd.R_new' ho19 (Kd.R_lt (by (with_reducible repeat (first | apply Kd.R_alloc | apply Kd.R_drewN | apply Kd.R_drew)); exact HO198.out))) (below_size (by repeat (first | (with_reducible first | exact HB.out | apply below_alloc | apply pw_below_drewN | apply below_drew1 | refine below_set ?_ GE192.out) | exact HB.out))))
                                                have n2_ := Aside0.mk (blk_below (g := gb192) (o := .cells #[.string ((rd_T25 l0 x8_1).f0), .int .i64 ((rd_T25 l0 x8_1).f1), .int .i64 ((rd_T25 l0 x8_1).f2)] 25 (0, 0)) (by (with_reducible repeat (first | refine blk_drewN ?_ _ | refine blk_drew ?_ | refine blk_alloc ?_ _)); exact BK192.out) hb)
                                                have n3_ := Aside0.mk (below_step (by repeat (first | (with_reducible first | exact HB.out | apply below_alloc | apply pw_below_drewN | apply below_drew1 | refine below_set ?_ GE192.out) | exact HB.out)) hb)
                                                clear HO198
                                                clear BK192
                                                clear HB
                                                have HO198 := n0_
                                                have HO195 := n1_
                                                have BK192 := n2_
                                                have HB := n3_
                                                clear n0_ n1_ n2_ n3_
                                                clear hb ho19
                                                refine hK.out _ _ ⟨(blk_cell BK192.out 0).trans rfl, (blk_cell BK192.out 1).trans rfl, (blk_cell BK192.out 2).trans rfl⟩ (fun hHeld => ?_)
                                                clear hK K
                                                refine norm_ (a' := ?_) ?_ ?_
                                                rotate_left
                                                · show Act.put _ (some 17) _ = _
                                                  simp only [Act.put, List.setIfInBounds_toArray, List.set_cons_zero, List.set_cons_succ, i64_w, i32_w]
                                                  rfl
                                                exact norm_ (by first | (simp only [putAll, Act.put, List.setIfInBounds_toArray, List.set_cons_zero, List.set_cons_succ]; done) | (simp only [putAll, Act.put, List.setIfInBounds_toArray, List.set_cons_zero, List.set_cons_succ]; rfl)) (hJ5_13_14 (v194, v197) _ ⟨hHeld, (by (with_reducible repeat (first | apply Kd.R_alloc | apply Kd.R_drewN | apply Kd.R_drew)); exact Kd.R_mono HO195.out (fun _ hk => hk.2)), (by (with_reducible repeat (first | apply Kd.R_alloc | apply Kd.R_drewN | apply Kd.R_drew)); exact Kd.R_mono HO198.out (fun _ hk => hk.2)), (by (with_reducible repeat (first | refine blk_drewN ?_ _ | refine blk_drew ?_ | refine blk_alloc ?_ _)); exact BK192.out), (by repeat (first | (with_reducible first | exact HB.out | apply below_alloc | apply pw_below_drewN | apply below_drew1 | refine below_set ?_ GE192.out) | exact HB.out))⟩)
                                              · skip
                                                refine goes_ Tryd.func39 (by kernel_rfl) rfl #[.int .u64 (IntKind.u64.wrap ((rd_T25 l0 x8_1).f2))] (by rfl) rfl rfl (by (try simp only [List.map_toArray, List.map_cons, List.map_nil]); first | done | rfl | (simp only [List.length_drop, List.length_take]; rfl)) ?_
                                                with_reducible refine (gatehouseref03_Eight.calls k1 (IntKind.u64.wrap ((rd_T25 l0 x8_1).f2)) t199 _ A7.out).mono ?_
                                                rintro e w18 ⟨rfl, hb⟩
                                                refine ⟨_, rfl, ?_⟩
                                                have n0_ := Aside0.mk (Kd.R_below (by (with_reducible repeat (first | apply Kd.R_alloc | apply Kd.R_drewN | apply Kd.R_drew)); exact HO198.out) hb)
                                                have n1_ := Aside0.mk (blk_below (g := gb192) (o := .cells #[.string ((rd_T25 l0 x8_1).f0), .int .i64 ((rd_T25 l0 x8_1).f1), .int .i64 ((rd_T25 l0 x8_1).f2)] 25 (0, 0)) (by (with_reducible repeat (first | refine blk_drewN ?_ _ | refine blk_drew ?_ | refine blk_alloc ?_ _)); exact BK192.out) hb)
                                                have n2_ := Aside0.mk (below_step (by repeat (first | (with_reducible first | exact HB.out | apply below_alloc | apply pw_below_drewN | apply below_drew1 | refine below_set ?_ GE192.out) | exact HB.out)) hb)
                                                clear HO198
                                                clear BK192
                                                clear HB
                                                have HO198 := n0_
                                                have BK192 := n1_
                                                have HB := n2_
                                                clear n0_ n1_ n2_
                                                (try clear hb)
                                                (try clear hb2)
                                                (try clear hk)
                                                (try clear hi)
                                                refine hK.out _ _ ⟨(blk_cell BK192.out 0).trans rfl, (blk_cell BK192.out 1).trans rfl, (blk_cell BK192.out 2).trans rfl⟩ (fun hHeld => ?_)
                                                clear hK K
                                                refine norm_ (a' := ?_) ?_ ?_
                                                rotate_left
                                                · show Act.put _ (some 31) _ = _
                                                  simp only [Act.put, List.setIfInBounds_toArray, List.set_cons_zero, List.set_cons_succ, i64_w, i32_w]
                                                  rfl
                                                exact norm_ (by first | (simp only [putAll, Act.put, List.setIfInBounds_toArray, List.set_cons_zero, List.set_cons_succ]; done) | (simp only [putAll, Act.put, List.setIfInBounds_toArray, List.set_cons_zero, List.set_cons_succ]; rfl)) (hJ13_14_19 (v197) _ ⟨hHeld, (by (with_reducible repeat (first | apply Kd.R_alloc | apply Kd.R_drewN | apply Kd.R_drew)); exact HO198.out), (by (with_reducible repeat (first | refine blk_drewN ?_ _ | refine blk_drew ?_ | refine blk_alloc ?_ _)); exact BK192.out), (by repeat (first | (with_reducible first | exact HB.out | apply below_alloc | apply pw_below_drewN | apply below_drew1 | refine below_set ?_ GE192.out) | exact HB.out))⟩)
                                          · skip
                                            rintro v194 w17 ⟨hS_, h0_, h1_, h2_⟩
                                            have n0_ : Aside0 (Kd.R (Kd.int .u8) 5 w17 w.heap.size (fun _ => True) v194 y193) := ⟨h0_⟩
                                            have n1_ : Aside0 (w17.heap[gb192]? = some (.cells #[.string ((rd_T25 l0 x8_1).f0), .int .i64 ((rd_T25 l0 x8_1).f1), .int .i64 ((rd_T25 l0 x8_1).f2)] 25 (0, 0))) := ⟨h1_⟩
                                            have n2_ : Aside0 (Below w.heap.size w w17) := ⟨h2_⟩
                                            clear BK192
                                            clear HB
                                            clear h0_ h1_ h2_
                                            have HO195 := n0_
                                            have BK192 := n1_
                                            have HB := n2_
                                            clear n0_ n1_ n2_
                                            have hHeld : w17.cell? ⟨gb192, 0, none⟩ = some (.string ((rd_T25 l0 x8_1).f0)) ∧ w17.cell? ⟨gb192, 1, none⟩ = some (.int .i64 ((rd_T25 l0 x8_1).f1)) ∧ w17.cell? ⟨gb192, 2, none⟩ = some (.int .i64 ((rd_T25 l0 x8_1).f2)) := hS_
                                            refine norm_ (a' := ?_) ?_ ?_
                                            rotate_left
                                            · simp only [putAll, Act.put, List.setIfInBounds_toArray, List.set_cons_zero, List.set_cons_succ]
                                              rfl
                                            refine two_ (i := 6) (j := 13) (Ni := some 18) (Nj := some 25) #[true, true, true, true, true, true, true, true, true, false, true, true, true, false, false, false, true, true, true, true, false, false, false] #[true, true, true, true, true, true, false, true, true, false, true, true, true, true, false, false, true, true, true, true, false, false, false] rfl rfl rfl rfl (two_of HT_.out (by kernel_rfl)) (by decide) (by decide) (fun K hK => ?_) (fun K hK => ?_)
                                            · skip
                                              have hcv18 := own_string (P := Tryd.prog) Tryd.underlying34 Tryd.underlying5 Tryd.underlying9 (Kd.own_of_R HO195.out)
                                              refine value_ (w1 := ?_) (v := ?_) (by rfl) rfl ?_ ?_
                                              rotate_left 2
                                              · go_simp
                                                constructor
                                                · rfl
                                                · rfl
                                              clear hcv18
                                              refine hK.out _ _ ⟨(blk_cell BK192.out 0).trans rfl, (blk_cell BK192.out 1).trans rfl, (blk_cell BK192.out 2).trans rfl⟩ (fun hHeld => ?_)
                                              clear hK K
                                              refine norm_ (a' := ?_) ?_ ?_
                                              rotate_left
                                              · show Act.put _ (some 18) _ = _
                                                simp only [Act.put, List.setIfInBounds_toArray, List.set_cons_zero, List.set_cons_succ, i64_w, i32_w]
                                                rfl
                                              refine pure_ (i := 9) (N := some 21) (v := ?_) (a' := ?_) #[true, true, true, true, true, true, true, true, true, true, true, true, true, false, false, false, true, true, true, true, false, false, false] rfl rfl (any_of HT_.out (by kernel_rfl)) (fun _ _ _ h => h) (Or.inl ⟨by rfl, ?_⟩) ?_ ?_
                                              rotate_left
                                              · intro w'
                                                go_simp
                                                with_reducible rfl
                                              rotate_left
                                              · simp only [Act.put, List.setIfInBounds_toArray, List.set_cons_zero, List.set_cons_succ, i64_w, i32_w]
                                                rfl
                                              exact norm_ (by first | (simp only [putAll, Act.put, List.setIfInBounds_toArray, List.set_cons_zero, List.set_cons_succ]; done) | (simp only [putAll, Act.put, List.setIfInBounds_toArray, List.set_cons_zero, List.set_cons_succ]; rfl)) (hJ5_6_19 (v194) _ ⟨hHeld, (by (with_reducible repeat (first | apply Kd.R_alloc | apply Kd.R_drewN | apply Kd.R_drew)); exact HO195.out), (by (with_reducible repeat (first | refine blk_drewN ?_ _ | refine blk_drew ?_ | refine blk_alloc ?_ _)); exact BK192.out), (by repeat (first | (with_reducible first | exact HB.out | apply below_alloc | apply pw_below_drewN | apply below_drew1 | refine below_set ?_ GE192.out) | exact HB.out))⟩)
                                            · skip
                                              refine Kd.R_lit_step (Kd.int .u8) _ 5 ?hg (N := 25) ?hd (xs := ([((rd_T25 l0 x8_1).f1) % 256] : List Int)) (inner := [.int .u8 (((rd_T25 l0 x8_1).f1) % 256)]) (ok := fun _ => True) (okp := fun _ => True) ?hr ?hp (fun _ hk => hk) trivial (Below.refl _ _) (Nat.le_refl _) (by simp) ?_; (case hd => rfl); (case hg => rfl); (case hr => first | (go_simp; done) | (go_simp; rfl)); (case hp => exact (Reps.one (show Kd.M (Kd.int .u8) _ _ _ (((rd_T25 l0 x8_1).f1) % 256) [.int .u8 (((rd_T25 l0 x8_1).f1) % 256)] from rfl) (Reps.none _ _)))
                                              intro v197 w18 ho19 hb hg_ hnew_
                                              clear hg_ hnew_
                                              (first | rw [← Ny196.out] at ho19 | (simp only [Int.reduceToNat] at ho19; rw [← Ny196.out] at ho19))
                                              have n0_ := Aside0.mk (Kd.R_elder' (by (with_reducible repeat (first | apply Kd.R_alloc | apply Kd.R_drewN | apply Kd.R_drew)); exact HO195.out) (Kd.R_base ho19) hb)
                                              have n1_ := Aside0.mk (Kd.R_lower (Kd.R_new' ho19 (Kd.R_lt (by (with_reducible repeat (first | apply Kd.R_alloc | apply Kd.R_drewN | apply Kd.R_drew)); exact HO195.out))) (below_size (by repeat (first | (with_reducible first | exact HB.out | apply below_alloc | apply pw_below_drewN | apply below_drew1 | refine below_set ?_ GE192.out) | exact HB.out))))
                                              have n2_ := Aside0.mk (blk_below (g := gb192) (o := .cells #[.string ((rd_T25 l0 x8_1).f0), .int .i64 ((rd_T25 l0 x8_1).f1), .int .i64 ((rd_T25 l0 x8_1).f2)] 25 (0, 0)) (by (with_reducible repeat (first | refine blk_drewN ?_ _ | refine blk_drew ?_ | refine blk_alloc ?_ _)); exact BK192.out) hb)
                                              have n3_ := Aside0.mk (below_step (by repeat (first | (with_reducible first | exact HB.out | apply below_alloc | apply pw_below_drewN | apply below_drew1 | refine below_set ?_ GE192.out) | exact HB.out)) hb)
                                              clear HO195
                                              clear BK192
                                              clear HB
                                              have HO195 := n0_
                                              have HO198 := n1_
                                              have BK192 := n2_
                                              have HB := n3_
                                              clear n0_ n1_ n2_ n3_
                                              clear hb ho19
                                              refine hK.out _ _ ⟨(blk_cell BK192.out 0).trans rfl, (blk_cell BK192.out 1).trans rfl, (blk_cell BK192.out 2).trans rfl⟩ (fun hHeld => ?_)
                                              clear hK K
                                              refine norm_ (a' := ?_) ?_ ?_
                                              rotate_left
                                              · show Act.put _ (some 25) _ = _
                                                simp only [Act.put, List.setIfInBounds_toArray, List.set_cons_zero, List.set_cons_succ, i64_w, i32_w]
                                                rfl
                                              exact norm_ (by first | (simp only [putAll, Act.put, List.setIfInBounds_toArray, List.set_cons_zero, List.set_cons_succ]; done) | (simp only [putAll, Act.put, List.setIfInBounds_toArray, List.set_cons_zero, List.set_cons_succ]; rfl)) (hJ5_13_19 (v194, v197) _ ⟨hHeld, (by (with_reducible repeat (first | apply Kd.R_alloc | apply Kd.R_drewN | apply Kd.R_drew)); exact Kd.R_mono HO195.out (fun _ hk => hk.2)), (by (with_reducible repeat (first | apply Kd.R_alloc | apply Kd.R_drewN | apply Kd.R_drew)); exact Kd.R_mono HO198.out (fun _ hk => hk.2)), (by (with_reducible repeat (first | refine blk_drewN ?_ _ | refine blk_drew ?_ | refine blk_alloc ?_ _)); exact BK192.out), (by repeat (first | (with_reducible first | exact HB.out | apply below_alloc | apply pw_below_drewN | apply below_drew1 | refine below_set ?_ GE192.out) | exact HB.out))⟩)
                                        · skip
                                          rintro ⟨v194, v197⟩ w18 ⟨hS_, h0_, h1_, h2_, h3_⟩
                                          have n0_ : Aside0 (Kd.R (Kd.int .u8) 5 w18 w.heap.size (fun k_ => some k_ ≠ (v197 : Value).ownBlock) v194 y193) := ⟨h0_⟩
                                          have n1_ : Aside0 (Kd.R (Kd.int .u8) 5 w18 w.heap.size (fun k_ => some k_ ≠ (v194 : Value).ownBlock) v197 y196) := ⟨h1_⟩
                                          have n2_ : Aside0 (w18.heap[gb192]? = some (.cells #[.string ((rd_T25 l0 x8_1).f0), .int .i64 ((rd_T25 l0 x8_1).f1), .int .i64 ((rd_T25 l0 x8_1).f2)] 25 (0, 0))) := ⟨h2_⟩
                                          have n3_ : Aside0 (Below w.heap.size w w18) := ⟨h3_⟩
                                          clear BK192
                                          clear HB
                                          clear h0_ h1_ h2_ h3_
                                          have HO195 := n0_
                                          have HO198 := n1_
                                          have BK192 := n2_
                                          have HB := n3_
                                          clear n0_ n1_ n2_ n3_
                                          have hHeld : w18.cell? ⟨gb192, 0, none⟩ = some (.string ((rd_T25 l0 x8_1).f0)) ∧ w18.cell? ⟨gb192, 1, none⟩ = some (.int .i64 ((rd_T25 l0 x8_1).f1)) ∧ w18.cell? ⟨gb192, 2, none⟩ = some (.int .i64 ((rd_T25 l0 x8_1).f2)) := hS_
                                          refine norm_ (a' := ?_) ?_ ?_
                                          rotate_left
                                          · simp only [putAll, Act.put, List.setIfInBounds_toArray, List.set_cons_zero, List.set_cons_succ]
                                            rfl
                                          refine three_ (i := 6) (j := 14) (k := 19) (Ni := some 18) (Nj := some 26) (Nk := some 31) #[true, true, true, true, true, true, true, true, true, false, true, true, true, true, false, false, true, true, true, false, false, false, false] #[true, true, true, true, true, true, false, true, true, false, true, true, true, true, true, false, true, true, true, false, false, false, false] #[true, true, true, true, true, true, false, true, true, false, true, true, true, true, false, false, true, true, true, true, false, false, false] rfl rfl rfl rfl rfl rfl (three_of HT_.out (by kernel_rfl)) (by decide) (by decide) (by decide) (fun K hK => ?_) (fun K hK => ?_) (fun K hK => ?_)
                                          · skip
                                            have hcv19 := own_string (P := Tryd.prog) Tryd.underlying34 Tryd.underlying5 Tryd.underlying9 (Kd.own_of_R HO195.out)
                                            refine value_ (w1 := ?_) (v := ?_) (by rfl) rfl ?_ ?_
                                            rotate_left 2
                                            · go_simp
                                              constructor
                                              · rfl
                                              · rfl
                                            clear hcv19
                                            refine hK.out _ _ ⟨(blk_cell BK192.out 0).trans rfl, (blk_cell BK192.out 1).trans rfl, (blk_cell BK192.out 2).trans rfl⟩ (fun hHeld => ?_)
                                            clear hK K
                                            refine norm_ (a' := ?_) ?_ ?_
                                            rotate_left
                                            · show Act.put _ (some 18) _ = _
                                              simp only [Act.put, List.setIfInBounds_toArray, List.set_cons_zero, List.set_cons_succ, i64_w, i32_w]
                                              rfl
                                            refine pure_ (i := 9) (N := some 21) (v := ?_) (a' := ?_) #[true, true, true, true, true, true, true, true, true, true, true, true, true, true, false, false, true, true, true, false, false, false, false] rfl rfl (any_of HT_.out (by kernel_rfl)) (fun _ _ _ h => h) (Or.inl ⟨by rfl, ?_⟩) ?_ ?_
                                            rotate_left
                                            · intro w'
                                              go_simp
                                              with_reducible rfl
                                            rotate_left
                                            · simp only [Act.put, List.setIfInBounds_toArray, List.set_cons_zero, List.set_cons_succ, i64_w, i32_w]
                                              rfl
                                            exact norm_ (by first | (simp only [putAll, Act.put, List.setIfInBounds_toArray, List.set_cons_zero, List.set_cons_succ]; done) | (simp only [putAll, Act.put, List.setIfInBounds_toArray, List.set_cons_zero, List.set_cons_succ]; rfl)) (hJ5_6_13 (v194, v197) _ ⟨hHeld, (by (with_reducible repeat (first | apply Kd.R_alloc | apply Kd.R_drewN | apply Kd.R_drew)); exact HO195.out), (by (with_reducible repeat (first | apply Kd.R_alloc | apply Kd.R_drewN | apply Kd.R_drew)); exact HO198.out), (by (with_reducible repeat (first | refine blk_drewN ?_ _ | refine blk_drew ?_ | refine blk_alloc ?_ _)); exact BK192.out), (by repeat (first | (with_reducible first | exact HB.out | apply below_alloc | apply pw_below_drewN | apply below_drew1 | refine below_set ?_ GE192.out) | exact HB.out))⟩)
                                          · skip
                                            have hcv19 := own_string (P := Tryd.prog) Tryd.underlying34 Tryd.underlying5 Tryd.underlying9 (Kd.own_of_R HO198.out)
                                            refine value_ (w1 := ?_) (v := ?_) (by rfl) rfl ?_ ?_
                                            rotate_left 2
                                            · go_simp
                                              constructor
                                              · rfl
                                              · rfl
                                            clear hcv19
                                            refine hK.out _ _ ⟨(blk_cell BK192.out 0).trans rfl, (blk_cell BK192.out 1).trans rfl, (blk_cell BK192.out 2).trans rfl⟩ (fun hHeld => ?_)
                                            clear hK K
                                            refine norm_ (a' := ?_) ?_ ?_
                                            rotate_left
                                            · show Act.put _ (some 26) _ = _
                                              simp only [Act.put, List.setIfInBounds_toArray, List.set_cons_zero, List.set_cons_succ, i64_w, i32_w]
                                              rfl
                                            exact norm_ (by first | (simp only [putAll, Act.put, List.setIfInBounds_toArray, List.set_cons_zero, List.set_cons_succ]; done) | (simp only [putAll, Act.put, List.setIfInBounds_toArray, List.set_cons_zero, List.set_cons_succ]; rfl)) (hJ5_13_14 (v194, v197) _ ⟨hHeld, (by (with_reducible repeat (first | apply Kd.R_alloc | apply Kd.R_drewN | apply Kd.R_drew)); exact HO195.out), (by (with_reducible repeat (first | apply Kd.R_alloc | apply Kd.R_drewN | apply Kd.R_drew)); exact HO198.out), (by (with_reducible repeat (first | refine blk_drewN ?_ _ | refine blk_drew ?_ | refine blk_alloc ?_ _)); exact BK192.out), (by repeat (first | (with_reducible first | exact HB.out | apply below_alloc | apply pw_below_drewN | apply below_drew1 | refine below_set ?_ GE192.out) | exact HB.out))⟩)
                                          · skip
                                            refine goes_ Tryd.func39 (by kernel_rfl) rfl #[.int .u64 (IntKind.u64.wrap ((rd_T25 l0 x8_1).f2))] (by rfl) rfl rfl (by (try simp only [List.map_toArray, List.map_cons, List.map_nil]); first | done | rfl | (simp only [List.length_drop, List.length_take]; rfl)) ?_
                                            with_reducible refine (gatehouseref03_Eight.calls k1 (IntKind.u64.wrap ((rd_T25 l0 x8_1).f2)) t199 _ A7.out).mono ?_
                                            rintro e w19 ⟨rfl, hb⟩
                                            refine ⟨_, rfl, ?_⟩
                                            have n0_ := Aside0.mk (Kd.R_below (by (with_reducible repeat (first | apply Kd.R_alloc | apply Kd.R_drewN | apply Kd.R_drew)); exact HO195.out) hb)
                                            have n1_ := Aside0.mk (Kd.R_below (by (with_reducible repeat (first | apply Kd.R_alloc | apply Kd.R_drewN | apply Kd.R_drew)); exact HO198.out) hb)
                                            have n2_ := Aside0.mk (blk_below (g := gb192) (o := .cells #[.string ((rd_T25 l0 x8_1).f0), .int .i64 ((rd_T25 l0 x8_1).f1), .int .i64 ((rd_T25 l0 x8_1).f2)] 25 (0, 0)) (by (with_reducible repeat (first | refine blk_drewN ?_ _ | refine blk_drew ?_ | refine blk_alloc ?_ _)); exact BK192.out) hb)
                                            have n3_ := Aside0.mk (below_step (by repeat (first | (with_reducible first | exact HB.out | apply below_alloc | apply pw_below_drewN | apply below_drew1 | refine below_set ?_ GE192.out) | exact HB.out)) hb)
                                            clear HO195
                                            clear HO198
                                            clear BK192
                                            clear HB
                                            have HO195 := n0_
                                            have HO198 := n1_
                                            have BK192 := n2_
                                            have HB := n3_
                                            clear n0_ n1_ n2_ n3_
                                            (try clear hb)
                                            (try clear hb2)
                                            (try clear hk)
                                            (try clear hi)
                                            refine hK.out _ _ ⟨(blk_cell BK192.out 0).trans rfl, (blk_cell BK192.out 1).trans rfl, (blk_cell BK192.out 2).trans rfl⟩ (fun hHeld => ?_)
                                            clear hK K
                                            refine norm_ (a' := ?_) ?_ ?_
                                            rotate_left
                                            · show Act.put _ (some 31) _ = _
                                              simp only [Act.put, List.setIfInBounds_toArray, List.set_cons_zero, List.set_cons_succ, i64_w, i32_w]
                                              rfl
                                            exact norm_ (by first | (simp only [putAll, Act.put, List.setIfInBounds_toArray, List.set_cons_zero, List.set_cons_succ]; done) | (simp only [putAll, Act.put, List.setIfInBounds_toArray, List.set_cons_zero, List.set_cons_succ]; rfl)) (hJ5_13_19 (v194, v197) _ ⟨hHeld, (by (with_reducible repeat (first | apply Kd.R_alloc | apply Kd.R_drewN | apply Kd.R_drew)); exact HO195.out), (by (with_reducible repeat (first | apply Kd.R_alloc | apply Kd.R_drewN | apply Kd.R_drew)); exact HO198.out), (by (with_reducible repeat (first | refine blk_drewN ?_ _ | refine blk_drew ?_ | refine blk_alloc ?_ _)); exact BK192.out), (by repeat (first | (with_reducible first | exact HB.out | apply below_alloc | apply pw_below_drewN | apply below_drew1 | refine below_set ?_ GE192.out) | exact HB.out))⟩)
                                      · skip
                                        rintro v194 w17 ⟨hS_, h0_, h1_, h2_⟩
                                        have n0_ : Aside0 (Kd.R (Kd.int .u8) 5 w17 w.heap.size (fun _ => True) v194 y193) := ⟨h0_⟩
                                        have n1_ : Aside0 (w17.heap[gb192]? = some (.cells #[.string ((rd_T25 l0 x8_1).f0), .int .i64 ((rd_T25 l0 x8_1).f1), .int .i64 ((rd_T25 l0 x8_1).f2)] 25 (0, 0))) := ⟨h1_⟩
                                        have n2_ : Aside0 (Below w.heap.size w w17) := ⟨h2_⟩
                                        clear BK192
                                        clear HB
                                        clear h0_ h1_ h2_
                                        have HO195 := n0_
                                        have BK192 := n1_
                                        have HB := n2_
                                        clear n0_ n1_ n2_
                                        have hHeld : w17.cell? ⟨gb192, 0, none⟩ = some (.string ((rd_T25 l0 x8_1).f0)) ∧ w17.cell? ⟨gb192, 1, none⟩ = some (.int .i64 ((rd_T25 l0 x8_1).f1)) ∧ w17.cell? ⟨gb192, 2, none⟩ = some (.int .i64 ((rd_T25 l0 x8_1).f2)) := hS_
                                        refine norm_ (a' := ?_) ?_ ?_
                                        rotate_left
                                        · simp only [putAll, Act.put, List.setIfInBounds_toArray, List.set_cons_zero, List.set_cons_succ]
                                          rfl
                                        refine two_ (i := 13) (j := 19) (Ni := some 25) (Nj := some 31) #[true, true, true, true, true, true, true, true, true, true, true, true, true, true, false, false, true, true, true, false, false, false, false] #[true, true, true, true, true, true, true, true, true, true, true, true, true, false, false, false, true, true, true, true, false, false, false] rfl rfl rfl rfl (two_of HT_.out (by kernel_rfl)) (by decide) (by decide) (fun K hK => ?_) (fun K hK => ?_)
                                        · skip
                                          refine Kd.R_lit_step (Kd.int .u8) _ 5 ?hg (N := 25) ?hd (xs := ([((rd_T25 l0 x8_1).f1) % 256] : List Int)) (inner := [.int .u8 (((rd_T25 l0 x8_1).f1) % 256)]) (ok := fun _ => True) (okp := fun _ => True) ?hr ?hp (fun _ hk => hk) trivial (Below.refl _ _) (Nat.le_refl _) (by simp) ?_; (case hd => rfl); (case hg => rfl); (case hr => first | (go_simp; done) | (go_simp; rfl)); (case hp => exact (Reps.one (show Kd.M (Kd.int .u8) _ _ _ (((rd_T25 l0 x8_1).f1) % 256) [.int .u8 (((rd_T25 l0 x8_1).f1) % 256)] from rfl) (Reps.none _ _)))
                                          intro v197 w18 ho19 hb hg_ hnew_
                                          clear hg_ hnew_
                                          (first | rw [← Ny196.out] at ho19 | (simp only [Int.reduceToNat] at ho19; rw [← Ny196.out] at ho19))
                                          have n0_ := Aside0.mk (Kd.R_elder' (by (with_reducible repeat (first | apply Kd.R_alloc | apply Kd.R_drewN | apply Kd.R_drew)); exact HO195.out) (Kd.R_base ho19) hb)
                                          have n1_ := Aside0.mk (Kd.R_lower (Kd.R_new' ho19 (Kd.R_lt (by (with_reducible repeat (first | apply Kd.R_alloc | apply Kd.R_drewN | apply Kd.R_drew)); exact HO195.out))) (below_size (by repeat (first | (with_reducible first | exact HB.out | apply below_alloc | apply pw_below_drewN | apply below_drew1 | refine below_set ?_ GE192.out) | exact HB.out))))
                                          have n2_ := Aside0.mk (blk_below (g := gb192) (o := .cells #[.string ((rd_T25 l0 x8_1).f0), .int .i64 ((rd_T25 l0 x8_1).f1), .int .i64 ((rd_T25 l0 x8_1).f2)] 25 (0, 0)) (by (with_reducible repeat (first | refine blk_drewN ?_ _ | refine blk_drew ?_ | refine blk_alloc ?_ _)); exact BK192.out) hb)
                                          have n3_ := Aside0.mk (below_step (by repeat (first | (with_reducible first | exact HB.out | apply below_alloc | apply pw_below_drewN | apply below_drew1 | refine below_set ?_ GE192.out) | exact HB.out)) hb)
                                          clear HO195
                                          clear BK192
                                          clear HB
                                          have HO195 := n0_
                                          have HO198 := n1_
                                          have BK192 := n2_
                                          have HB := n3_
                                          clear n0_ n1_ n2_ n3_
                                          clear hb ho19
                                          refine hK.out _ _ ⟨(blk_cell BK192.out 0).trans rfl, (blk_cell BK192.out 1).trans rfl, (blk_cell BK192.out 2).trans rfl⟩ (fun hHeld => ?_)
                                          clear hK K
                                          refine norm_ (a' := ?_) ?_ ?_
                                          rotate_left
                                          · show Act.put _ (some 25) _ = _
                                            simp only [Act.put, List.setIfInBounds_toArray, List.set_cons_zero, List.set_cons_succ, i64_w, i32_w]
                                            rfl
                                          exact norm_ (by first | (simp only [putAll, Act.put, List.setIfInBounds_toArray, List.set_cons_zero, List.set_cons_succ]; done) | (simp only [putAll, Act.put, List.setIfInBounds_toArray, List.set_cons_zero, List.set_cons_succ]; rfl)) (hJ5_6_13 (v194, v197) _ ⟨hHeld, (by (with_reducible repeat (first | apply Kd.R_alloc | apply Kd.R_drewN | apply Kd.R_drew)); exact Kd.R_mono HO195.out (fun _ hk => hk.2)), (by (with_reducible repeat (first | apply Kd.R_alloc | apply Kd.R_drewN | apply Kd.R_drew)); exact Kd.R_mono HO198.out (fun _ hk => hk.2)), (by (with_reducible repeat (first | refine blk_drewN ?_ _ | refine blk_drew ?_ | refine blk_alloc ?_ _)); exact BK192.out), (by repeat (first | (with_reducible first | exact HB.out | apply below_alloc | apply pw_below_drewN | apply below_drew1 | refine below_set ?_ GE192.out) | exact HB.out))⟩)
                                        · skip
                                          refine goes_ Tryd.func39 (by kernel_rfl) rfl #[.int .u64 (IntKind.u64.wrap ((rd_T25 l0 x8_1).f2))] (by rfl) rfl rfl (by (try simp only [List.map_toArray, List.map_cons, List.map_nil]); first | done | rfl | (simp only [List.length_drop, List.length_take]; rfl)) ?_
                                          with_reducible refine (gatehouseref03_Eight.calls k1 (IntKind.u64.wrap ((rd_T25 l0 x8_1).f2)) t199 _ A7.out).mono ?_
                                          rintro e w18 ⟨rfl, hb⟩
                                          refine ⟨_, rfl, ?_⟩
                                          have n0_ := Aside0.mk (Kd.R_below (by (with_reducible repeat (first | apply Kd.R_alloc | apply Kd.R_drewN | apply Kd.R_drew)); exact HO195.out) hb)
                                          have n1_ := Aside0.mk (blk_below (g := gb192) (o := .cells #[.string ((rd_T25 l0 x8_1).f0), .int .i64 ((rd_T25 l0 x8_1).f1), .int .i64 ((rd_T25 l0 x8_1).f2)] 25 (0, 0)) (by (with_reducible repeat (first | refine blk_drewN ?_ _ | refine blk_drew ?_ | refine blk_alloc ?_ _)); exact BK192.out) hb)
                                          have n2_ := Aside0.mk (below_step (by repeat (first | (with_reducible first | exact HB.out | apply below_alloc | apply pw_below_drewN | apply below_drew1 | refine below_set ?_ GE192.out) | exact HB.out)) hb)
                                          clear HO195
                                          clear BK192
                                          clear HB
                                          have HO195 := n0_
                                          have BK192 := n1_
                                          have HB := n2_
                                          clear n0_ n1_ n2_
                                          (try clear hb)
                                          (try clear hb2)
                                          (try clear hk)
                                          (try clear hi)
                                          refine hK.out _ _ ⟨(blk_cell BK192.out 0).trans rfl, (blk_cell BK192.out 1).trans rfl, (blk_cell BK192.out 2).trans rfl⟩ (fun hHeld => ?_)
                                          clear hK K
                                          refine norm_ (a' := ?_) ?_ ?_
                                          rotate_left
                                          · show Act.put _ (some 31) _ = _
                                            simp only [Act.put, List.setIfInBounds_toArray, List.set_cons_zero, List.set_cons_succ, i64_w, i32_w]
                                            rfl
                                          exact norm_ (by first | (simp only [putAll, Act.put, List.setIfInBounds_toArray, List.set_cons_zero, List.set_cons_succ]; done) | (simp only [putAll, Act.put, List.setIfInBounds_toArray, List.set_cons_zero, List.set_cons_succ]; rfl)) (hJ5_6_19 (v194) _ ⟨hHeld, (by (with_reducible repeat (first | apply Kd.R_alloc | apply Kd.R_drewN | apply Kd.R_drew)); exact HO195.out), (by (with_reducible repeat (first | refine blk_drewN ?_ _ | refine blk_drew ?_ | refine blk_alloc ?_ _)); exact BK192.out), (by repeat (first | (with_reducible first | exact HB.out | apply below_alloc | apply pw_below_drewN | apply below_drew1 | refine below_set ?_ GE192.out) | exact HB.out))⟩)
                                    · skip
                                      rintro v197 w18 ⟨hS_, h0_, h1_, h2_⟩
                                      have n0_ : Aside0 (Kd.R (Kd.int .u8) 5 w18 w.heap.size (fun _ => True) v197 y196) := ⟨h0_⟩
                                      have n1_ : Aside0 (w18.heap[gb192]? = some (.cells #[.string ((rd_T25 l0 x8_1).f0), .int .i64 ((rd_T25 l0 x8_1).f1), .int .i64 ((rd_T25 l0 x8_1).f2)] 25 (0, 0))) := ⟨h1_⟩
                                      have n2_ : Aside0 (Below w.heap.size w w18) := ⟨h2_⟩
                                      clear BK192
                                      clear HB
                                      clear h0_ h1_ h2_
                                      have HO198 := n0_
                                      have BK192 := n1_
                                      have HB := n2_
                                      clear n0_ n1_ n2_
                                      have hHeld : w18.cell? ⟨gb192, 0, none⟩ = some (.string ((rd_T25 l0 x8_1).f0)) ∧ w18.cell? ⟨gb192, 1, none⟩ = some (.int .i64 ((rd_T25 l0 x8_1).f1)) ∧ w18.cell? ⟨gb192, 2, none⟩ = some (.int .i64 ((rd_T25 l0 x8_1).f2)) := hS_
                                      refine norm_ (a' := ?_) ?_ ?_
                                      rotate_left
                                      · simp only [putAll, Act.put, List.setIfInBounds_toArray, List.set_cons_zero, List.set_cons_succ]
                                        rfl
                                      refine one_ (i := 5) (N := some 17) #[true, true, true, true, true, true, false, true, true, false, true, true, true, true, true, false, true, true, true, true, false, false, false] rfl rfl (one_of HT_.out (by kernel_rfl)) (by decide) (fun K hK => ?_)
                                      refine Kd.R_lit_step (Kd.int .u8) _ 5 ?hg (N := 17) ?hd (xs := ([((((rd_T25 l0 x8_1).f0).size : Int)) % 256] : List Int)) (inner := [.int .u8 (((((rd_T25 l0 x8_1).f0).size : Int)) % 256)]) (ok := fun _ => True) (okp := fun _ => True) ?hr ?hp (fun _ hk => hk) trivial (Below.refl _ _) (Nat.le_refl _) (by simp) ?_; (case hd => rfl); (case hg => rfl); (case hr => first | (go_simp; done) | (go_simp; rfl)); (case hp => exact (Reps.one (show Kd.M (Kd.int .u8) _ _ _ (((((rd_T25 l0 x8_1).f0).size : Int)) % 256) [.int .u8 (((((rd_T25 l0 x8_1).f0).size : Int)) % 256)] from rfl) (Reps.none _ _)))
                                      intro v194 w19 ho20 hb hg_ hnew_
                                      clear hg_ hnew_
                                      (first | rw [← Ny193.out] at ho20 | (simp only [Int.reduceToNat] at ho20; rw [← Ny193.out] at ho20))
                                      have n0_ := Aside0.mk (Kd.R_elder' (by (with_reducible repeat (first | apply Kd.R_alloc | apply Kd.R_drewN | apply Kd.R_drew)); exact HO198.out) (Kd.R_base ho20) hb)
                                      have n1_ := Aside0.mk (Kd.R_lower (Kd.R_new' ho20 (Kd.R_lt (by (with_reducible repeat (first | apply Kd.R_alloc | apply Kd.R_drewN | apply Kd.R_drew)); exact HO198.out))) (below_size (by repeat (first | (with_reducible first | exact HB.out | apply below_alloc | apply pw_below_drewN | apply below_drew1 | refine below_set ?_ GE192.out) | exact HB.out))))
                                      have n2_ := Aside0.mk (blk_below (g := gb192) (o := .cells #[.string ((rd_T25 l0 x8_1).f0), .int .i64 ((rd_T25 l0 x8_1).f1), .int .i64 ((rd_T25 l0 x8_1).f2)] 25 (0, 0)) (by (with_reducible repeat (first | refine blk_drewN ?_ _ | refine blk_drew ?_ | refine blk_alloc ?_ _)); exact BK192.out) hb)
                                      have n3_ := Aside0.mk (below_step (by repeat (first | (with_reducible first | exact HB.out | apply below_alloc | apply pw_below_drewN | apply below_drew1 | refine below_set ?_ GE192.out) | exact HB.out)) hb)
                                      clear HO198
                                      clear BK192
                                      clear HB
                                      have HO198 := n0_
                                      have HO195 := n1_
                                      have BK192 := n2_
                                      have HB := n3_
                                      clear n0_ n1_ n2_ n3_
                                      clear hb ho20
                                      refine hK.out _ _ ⟨(blk_cell BK192.out 0).trans rfl, (blk_cell BK192.out 1).trans rfl, (blk_cell BK192.out 2).trans rfl⟩ (fun hHeld => ?_)
                                      clear hK K
                                      refine norm_ (a' := ?_) ?_ ?_
                                      rotate_left
                                      · show Act.put _ (some 17) _ = _
                                        simp only [Act.put, List.setIfInBounds_toArray, List.set_cons_zero, List.set_cons_succ, i64_w, i32_w]
                                        rfl
                                      exact norm_ (by first | (simp only [putAll, Act.put, List.setIfInBounds_toArray, List.set_cons_zero, List.set_cons_succ]; done) | (simp only [putAll, Act.put, List.setIfInBounds_toArray, List.set_cons_zero, List.set_cons_succ]; rfl)) (hJ5_13_14_19 (v194, v197) _ ⟨hHeld, (by (with_reducible repeat (first | apply Kd.R_alloc | apply Kd.R_drewN | apply Kd.R_drew)); exact Kd.R_mono HO195.out (fun _ hk => hk.2)), (by (with_reducible repeat (first | apply Kd.R_alloc | apply Kd.R_drewN | apply Kd.R_drew)); exact Kd.R_mono HO198.out (fun _ hk => hk.2)), (by (with_reducible repeat (first | refine blk_drewN ?_ _ | refine blk_drew ?_ | refine blk_alloc ?_ _)); exact BK192.out), (by repeat (first | (with_reducible first | exact HB.out | apply below_alloc | apply pw_below_drewN | apply below_drew1 | refine below_set ?_ GE192.out) | exact HB.out))⟩)
                                  · skip
                                    rintro ⟨v194, v197⟩ w19 ⟨hS_, h0_, h1_, h2_, h3_⟩
                                    have n0_ : Aside0 (Kd.R (Kd.int .u8) 5 w19 w.heap.size (fun k_ => some k_ ≠ (v197 : Value).ownBlock) v194 y193) := ⟨h0_⟩
                                    have n1_ : Aside0 (Kd.R (Kd.int .u8) 5 w19 w.heap.size (fun k_ => some k_ ≠ (v194 : Value).ownBlock) v197 y196) := ⟨h1_⟩
                                    have n2_ : Aside0 (w19.heap[gb192]? = some (.cells #[.string ((rd_T25 l0 x8_1).f0), .int .i64 ((rd_T25 l0 x8_1).f1), .int .i64 ((rd_T25 l0 x8_1).f2)] 25 (0, 0))) := ⟨h2_⟩
                                    have n3_ : Aside0 (Below w.heap.size w w19) := ⟨h3_⟩
                                    clear BK192
                                    clear HB
                                    clear h0_ h1_ h2_ h3_
                                    have HO195 := n0_
                                    have HO198 := n1_
                                    have BK192 := n2_
                                    have HB := n3_
                                    clear n0_ n1_ n2_ n3_
                                    have hHeld : w19.cell? ⟨gb192, 0, none⟩ = some (.string ((rd_T25 l0 x8_1).f0)) ∧ w19.cell? ⟨gb192, 1, none⟩ = some (.int .i64 ((rd_T25 l0 x8_1).f1)) ∧ w19.cell? ⟨gb192, 2, none⟩ = some (.int .i64 ((rd_T25 l0 x8_1).f2)) := hS_
                                    refine norm_ (a' := ?_) ?_ ?_
                                    rotate_left
                                    · simp only [putAll, Act.put, List.setIfInBounds_toArray, List.set_cons_zero, List.set_cons_succ]
                                      rfl
                                    refine two_ (i := 6) (j := 14) (Ni := some 18) (Nj := some 26) #[true, true, true, true, true, true, true, true, true, false, true, true, true, true, false, false, true, true, true, true, false, false, false] #[true, true, true, true, true, true, false, true, true, false, true, true, true, true, true, false, true, true, true, true, false, false, false] rfl rfl rfl rfl (two_of HT_.out (by kernel_rfl)) (by decide) (by decide) (fun K hK => ?_) (fun K hK => ?_)
                                    · skip
                                      have hcv20 := own_string (P := Tryd.prog) Tryd.underlying34 Tryd.underlying5 Tryd.underlying9 (Kd.own_of_R HO195.out)
                                      refine value_ (w1 := ?_) (v := ?_) (by rfl) rfl ?_ ?_
                                      rotate_left 2
                                      · go_simp
                                        constructor
                                        · rfl
                                        · rfl
                                      clear hcv20
                                      refine hK.out _ _ ⟨(blk_cell BK192.out 0).trans rfl, (blk_cell BK192.out 1).trans rfl, (blk_cell BK192.out 2).trans rfl⟩ (fun hHeld => ?_)
                                      clear hK K
                                      refine norm_ (a' := ?_) ?_ ?_
                                      rotate_left
                                      · show Act.put _ (some 18) _ = _
                                        simp only [Act.put, List.setIfInBounds_toArray, List.set_cons_zero, List.set_cons_succ, i64_w, i32_w]
                                        rfl
                                      refine pure_ (i := 9) (N := some 21) (v := ?_) (a' := ?_) #[true, true, true, true, true, true, true, true, true, true, true, true, true, true, false, false, true, true, true, true, false, false, false] rfl rfl (any_of HT_.out (by kernel_rfl)) (fun _ _ _ h => h) (Or.inl ⟨by rfl, ?_⟩) ?_ ?_
                                      rotate_left
                                      · intro w'
                                        go_simp
                                        with_reducible rfl
                                      rotate_left
                                      · simp only [Act.put, List.setIfInBounds_toArray, List.set_cons_zero, List.set_cons_succ, i64_w, i32_w]
                                        rfl
                                      exact norm_ (by first | (simp only [putAll, Act.put, List.setIfInBounds_toArray, List.set_cons_zero, List.set_cons_succ]; done) | (simp only [putAll, Act.put, List.setIfInBounds_toArray, List.set_cons_zero, List.set_cons_succ]; rfl)) (hJ5_6_13_19 (v194, v197) _ ⟨hHeld, (by (with_reducible repeat (first | apply Kd.R_alloc | apply Kd.R_drewN | apply Kd.R_drew)); exact HO195.out), (by (with_reducible repeat (first | apply Kd.R_alloc | apply Kd.R_drewN | apply Kd.R_drew)); exact HO198.out), (by (with_reducible repeat (first | refine blk_drewN ?_ _ | refine blk_drew ?_ | refine blk_alloc ?_ _)); exact BK192.out), (by repeat (first | (with_reducible first | exact HB.out | apply below_alloc | apply pw_below_drewN | apply below_drew1 | refine below_set ?_ GE192.out) | exact HB.out))⟩)
                                    · skip
                                      have hcv20 := own_string (P := Tryd.prog) Tryd.underlying34 Tryd.underlying5 Tryd.underlying9 (Kd.own_of_R HO198.out)
                                      refine value_ (w1 := ?_) (v := ?_) (by rfl) rfl ?_ ?_
                                      rotate_left 2
                                      · go_simp
                                        constructor
                                        · rfl
                                        · rfl
                                      clear hcv20
                                      refine hK.out _ _ ⟨(blk_cell BK192.out 0).trans rfl, (blk_cell BK192.out 1).trans rfl, (blk_cell BK192.out 2).trans rfl⟩ (fun hHeld => ?_)
                                      clear hK K
                                      refine norm_ (a' := ?_) ?_ ?_
                                      rotate_left
                                      · show Act.put _ (some 26) _ = _
                                        simp only [Act.put, List.setIfInBounds_toArray, List.set_cons_zero, List.set_cons_succ, i64_w, i32_w]
                                        rfl
                                      exact norm_ (by first | (simp only [putAll, Act.put, List.setIfInBounds_toArray, List.set_cons_zero, List.set_cons_succ]; done) | (simp only [putAll, Act.put, List.setIfInBounds_toArray, List.set_cons_zero, List.set_cons_succ]; rfl)) (hJ5_13_14_19 (v194, v197) _ ⟨hHeld, (by (with_reducible repeat (first | apply Kd.R_alloc | apply Kd.R_drewN | apply Kd.R_drew)); exact HO195.out), (by (with_reducible repeat (first | apply Kd.R_alloc | apply Kd.R_drewN | apply Kd.R_drew)); exact HO198.out), (by (with_reducible repeat (first | refine blk_drewN ?_ _ | refine blk_drew ?_ | refine blk_alloc ?_ _)); exact BK192.out), (by repeat (first | (with_reducible first | exact HB.out | apply below_alloc | apply pw_below_drewN | apply below_drew1 | refine below_set ?_ GE192.out) | exact HB.out))⟩)
                                · skip
                                  rintro ⟨v194, v197⟩ w19 ⟨hS_, h0_, h1_, h2_, h3_⟩
                                  have n0_ : Aside0 (Kd.R (Kd.int .u8) 5 w19 w.heap.size (fun k_ => some k_ ≠ (v197 : Value).ownBlock) v194 y193) := ⟨h0_⟩
                                  have n1_ : Aside0 (Kd.R (Kd.int .u8) 5 w19 w.heap.size (fun k_ => some k_ ≠ (v194 : Value).ownBlock) v197 y196) := ⟨h1_⟩
                                  have n2_ : Aside0 (w19.heap[gb192]? = some (.cells #[.string ((rd_T25 l0 x8_1).f0), .int .i64 ((rd_T25 l0 x8_1).f1), .int .i64 ((rd_T25 l0 x8_1).f2)] 25 (0, 0))) := ⟨h2_⟩
                                  have n3_ : Aside0 (Below w.heap.size w w19) := ⟨h3_⟩
                                  clear BK192
                                  clear HB
                                  clear h0_ h1_ h2_ h3_
                                  have HO195 := n0_
                                  have HO198 := n1_
                                  have BK192 := n2_
                                  have HB := n3_
                                  clear n0_ n1_ n2_ n3_
                                  have hHeld : w19.cell? ⟨gb192, 0, none⟩ = some (.string ((rd_T25 l0 x8_1).f0)) ∧ w19.cell? ⟨gb192, 1, none⟩ = some (.int .i64 ((rd_T25 l0 x8_1).f1)) ∧ w19.cell? ⟨gb192, 2, none⟩ = some (.int .i64 ((rd_T25 l0 x8_1).f2)) := hS_
                                  refine norm_ (a' := ?_) ?_ ?_
                                  rotate_left
                                  · simp only [putAll, Act.put, List.setIfInBounds_toArray, List.set_cons_zero, List.set_cons_succ]
                                    rfl
                                  refine two_ (i := 6) (j := 19) (Ni := some 18) (Nj := some 31) #[true, true, true, true, true, true, true, true, true, false, true, true, true, true, true, false, true, true, true, false, false, false, false] #[true, true, true, true, true, true, false, true, true, false, true, true, true, true, true, false, true, true, true, true, false, false, false] rfl rfl rfl rfl (two_of HT_.out (by kernel_rfl)) (by decide) (by decide) (fun K hK => ?_) (fun K hK => ?_)
                                  · skip
                                    have hcv20 := own_string (P := Tryd.prog) Tryd.underlying34 Tryd.underlying5 Tryd.underlying9 (Kd.own_of_R HO195.out)
                                    refine value_ (w1 := ?_) (v := ?_) (by rfl) rfl ?_ ?_
                                    rotate_left 2
                                    · go_simp
                                      constructor
                                      · rfl
                                      · rfl
                                    clear hcv20
                                    refine hK.out _ _ ⟨(blk_cell BK192.out 0).trans rfl, (blk_cell BK192.out 1).trans rfl, (blk_cell BK192.out 2).trans rfl⟩ (fun hHeld => ?_)
                                    clear hK K
                                    refine norm_ (a' := ?_) ?_ ?_
                                    rotate_left
                                    · show Act.put _ (some 18) _ = _
                                      simp only [Act.put, List.setIfInBounds_toArray, List.set_cons_zero, List.set_cons_succ, i64_w, i32_w]
                                      rfl
                                    refine pure_ (i := 9) (N := some 21) (v := ?_) (a' := ?_) #[true, true, true, true, true, true, true, true, true, true, true, true, true, true, true, false, true, true, true, false, false, false, false] rfl rfl (any_of HT_.out (by kernel_rfl)) (fun _ _ _ h => h) (Or.inl ⟨by rfl, ?_⟩) ?_ ?_
                                    rotate_left
                                    · intro w'
                                      go_simp
                                      with_reducible rfl
                                    rotate_left
                                    · simp only [Act.put, List.setIfInBounds_toArray, List.set_cons_zero, List.set_cons_succ, i64_w, i32_w]
                                      rfl
                                    refine pure_ (i := 15) (N := some 27) (v := ?_) (a' := ?_) #[true, true, true, true, true, true, true, true, true, true, true, true, true, true, true, true, true, true, true, false, false, false, false] rfl rfl (any_of HT_.out (by kernel_rfl)) (fun _ _ _ h => h) (Or.inl ⟨by rfl, ?_⟩) ?_ ?_
                                    rotate_left
                                    · intro w'
                                      go_simp
                                      with_reducible rfl
                                    rotate_left
                                    · simp only [Act.put, List.setIfInBounds_toArray, List.set_cons_zero, List.set_cons_succ, i64_w, i32_w]
                                      rfl
                                    exact norm_ (by first | (simp only [putAll, Act.put, List.setIfInBounds_toArray, List.set_cons_zero, List.set_cons_succ]; done) | (simp only [putAll, Act.put, List.setIfInBounds_toArray, List.set_cons_zero, List.set_cons_succ]; rfl)) (hJ5_6_13_14 (v194, v197) _ ⟨hHeld, (by (with_reducible repeat (first | apply Kd.R_alloc | apply Kd.R_drewN | apply Kd.R_drew)); exact HO195.out), (by (with_reducible repeat (first | apply Kd.R_alloc | apply Kd.R_drewN | apply Kd.R_drew)); exact HO198.out), (by (with_reducible repeat (first | refine blk_drewN ?_ _ | refine blk_drew ?_ | refine blk_alloc ?_ _)); exact BK192.out), (by repeat (first | (with_reducible first | exact HB.out | apply below_alloc | apply pw_below_drewN | apply below_drew1 | refine below_set ?_ GE192.out) | exact HB.out))⟩)
                                  · skip
                                    refine goes_ Tryd.func39 (by kernel_rfl) rfl #[.int .u64 (IntKind.u64.wrap ((rd_T25 l0 x8_1).f2))] (by rfl) rfl rfl (by (try simp only [List.map_toArray, List.map_cons, List.map_nil]); first | done | rfl | (simp only [List.length_drop, List.length_take]; rfl)) ?_
                                    with_reducible refine (gatehouseref03_Eight.calls k1 (IntKind.u64.wrap ((rd_T25 l0 x8_1).f2)) t199 _ A7.out).mono ?_
                                    rintro e w20 ⟨rfl, hb⟩
                                    refine ⟨_, rfl, ?_⟩
                                    have n0_ := Aside0.mk (Kd.R_below (by (with_reducible repeat (first | apply Kd.R_alloc | apply Kd.R_drewN | apply Kd.R_drew)); exact HO195.out) hb)
                                    have n1_ := Aside0.mk (Kd.R_below (by (with_reducible repeat (first | apply Kd.R_alloc | apply Kd.R_drewN | apply Kd.R_drew)); exact HO198.out) hb)
                                    have n2_ := Aside0.mk (blk_below (g := gb192) (o := .cells #[.string ((rd_T25 l0 x8_1).f0), .int .i64 ((rd_T25 l0 x8_1).f1), .int .i64 ((rd_T25 l0 x8_1).f2)] 25 (0, 0)) (by (with_reducible repeat (first | refine blk_drewN ?_ _ | refine blk_drew ?_ | refine blk_alloc ?_ _)); exact BK192.out) hb)
                                    have n3_ := Aside0.mk (below_step (by repeat (first | (with_reducible first | exact HB.out | apply below_alloc | apply pw_below_drewN | apply below_drew1 | refine below_set ?_ GE192.out) | exact HB.out)) hb)
                                    clear HO195
                                    clear HO198
                                    clear BK192
                                    clear HB
                                    have HO195 := n0_
                                    have HO198 := n1_
                                    have BK192 := n2_
                                    have HB := n3_
                                    clear n0_ n1_ n2_ n3_
                                    (try clear hb)
                                    (try clear hb2)
                                    (try clear hk)
                                    (try clear hi)
                                    refine hK.out _ _ ⟨(blk_cell BK192.out 0).trans rfl, (blk_cell BK192.out 1).trans rfl, (blk_cell BK192.out 2).trans rfl⟩ (fun hHeld => ?_)
                                    clear hK K
                                    refine norm_ (a' := ?_) ?_ ?_
                                    rotate_left
                                    · show Act.put _ (some 31) _ = _
                                      simp only [Act.put, List.setIfInBounds_toArray, List.set_cons_zero, List.set_cons_succ, i64_w, i32_w]
                                      rfl
                                    exact norm_ (by first | (simp only [putAll, Act.put, List.setIfInBounds_toArray, List.set_cons_zero, List.set_cons_succ]; done) | (simp only [putAll, Act.put, List.setIfInBounds_toArray, List.set_cons_zero, List.set_cons_succ]; rfl)) (hJ5_13_14_19 (v194, v197) _ ⟨hHeld, (by (with_reducible repeat (first | apply Kd.R_alloc | apply Kd.R_drewN | apply Kd.R_drew)); exact HO195.out), (by (with_reducible repeat (first | apply Kd.R_alloc | apply Kd.R_drewN | apply Kd.R_drew)); exact HO198.out), (by (with_reducible repeat (first | refine blk_drewN ?_ _ | refine blk_drew ?_ | refine blk_alloc ?_ _)); exact BK192.out), (by repeat (first | (with_reducible first | exact HB.out | apply below_alloc | apply pw_below_drewN | apply below_drew1 | refine below_set ?_ GE192.out) | exact HB.out))⟩)
                              · skip
                                rintro v194 w18 ⟨hS_, h0_, h1_, h2_⟩
                                have n0_ : Aside0 (Kd.R (Kd.int .u8) 5 w18 w.heap.size (fun _ => True) v194 y193) := ⟨h0_⟩
                                have n1_ : Aside0 (w18.heap[gb192]? = some (.cells #[.string ((rd_T25 l0 x8_1).f0), .int .i64 ((rd_T25 l0 x8_1).f1), .int .i64 ((rd_T25 l0 x8_1).f2)] 25 (0, 0))) := ⟨h1_⟩
                                have n2_ : Aside0 (Below w.heap.size w w18) := ⟨h2_⟩
                                clear BK192
                                clear HB
                                clear h0_ h1_ h2_
                                have HO195 := n0_
                                have BK192 := n1_
                                have HB := n2_
                                clear n0_ n1_ n2_
                                have hHeld : w18.cell? ⟨gb192, 0, none⟩ = some (.string ((rd_T25 l0 x8_1).f0)) ∧ w18.cell? ⟨gb192, 1, none⟩ = some (.int .i64 ((rd_T25 l0 x8_1).f1)) ∧ w18.cell? ⟨gb192, 2, none⟩ = some (.int .i64 ((rd_T25 l0 x8_1).f2)) := hS_
                                refine norm_ (a' := ?_) ?_ ?_
                                rotate_left
                                · simp only [putAll, Act.put, List.setIfInBounds_toArray, List.set_cons_zero, List.set_cons_succ]
                                  rfl
                                refine one_ (i := 13) (N := some 25) #[true, true, true, true, true, true, true, true, true, true, true, true, true, true, false, false, true, true, true, true, false, false, false] rfl rfl (one_of HT_.out (by kernel_rfl)) (by decide) (fun K hK => ?_)
                                refine Kd.R_lit_step (Kd.int .u8) _ 5 ?hg (N := 25) ?hd (xs := ([((rd_T25 l0 x8_1).f1) % 256] : List Int)) (inner := [.int .u8 (((rd_T25 l0 x8_1).f1) % 256)]) (ok := fun _ => True) (okp := fun _ => True) ?hr ?hp (fun _ hk => hk) trivial (Below.refl _ _) (Nat.le_refl _) (by simp) ?_; (case hd => rfl); (case hg => rfl); (case hr => first | (go_simp; done) | (go_simp; rfl)); (case hp => exact (Reps.one (show Kd.M (Kd.int .u8) _ _ _ (((rd_T25 l0 x8_1).f1) % 256) [.int .u8 (((rd_T25 l0 x8_1).f1) % 256)] from rfl) (Reps.none _ _)))
                                intro v197 w19 ho20 hb hg_ hnew_
                                clear hg_ hnew_
                                (first | rw [← Ny196.out] at ho20 | (simp only [Int.reduceToNat] at ho20; rw [← Ny196.out] at ho20))
                                have n0_ := Aside0.mk (Kd.R_elder' (by (with_reducible repeat (first | apply Kd.R_alloc | apply Kd.R_drewN | apply Kd.R_drew)); exact HO195.out) (Kd.R_base ho20) hb)
                                have n1_ := Aside0.mk (Kd.R_lower (Kd.R_new' ho20 (Kd.R_lt (by (with_reducible repeat (first | apply Kd.R_alloc | apply Kd.R_drewN | apply Kd.R_drew)); exact HO195.out))) (below_size (by repeat (first | (with_reducible first | exact HB.out | apply below_alloc | apply pw_below_drewN | apply below_drew1 | refine below_set ?_ GE192.out) | exact HB.out))))
                                have n2_ := Aside0.mk (blk_below (g := gb192) (o := .cells #[.string ((rd_T25 l0 x8_1).f0), .int .i64 ((rd_T25 l0 x8_1).f1), .int .i64 ((rd_T25 l0 x8_1).f2)] 25 (0, 0)) (by (with_reducible repeat (first | refine blk_drewN ?_ _ | refine blk_drew ?_ | refine blk_alloc ?_ _)); exact BK192.out) hb)
                                have n3_ := Aside0.mk (below_step (by repeat (first | (with_reducible first | exact HB.out | apply below_alloc | apply pw_below_drewN | apply below_drew1 | refine below_set ?_ GE192.out) | exact HB.out)) hb)
                                clear HO195
                                clear BK192
                                clear HB
                                have HO195 := n0_
                                have HO198 := n1_
                                have BK192 := n2_
                                have HB := n3_
                                clear n0_ n1_ n2_ n3_
                                clear hb ho20
                                refine hK.out _ _ ⟨(blk_cell BK192.out 0).trans rfl, (blk_cell BK192.out 1).trans rfl, (blk_cell BK192.out 2).trans rfl⟩ (fun hHeld => ?_)
                                clear hK K
                                refine norm_ (a' := ?_) ?_ ?_
                                rotate_left
                                · show Act.put _ (some 25) _ = _
                                  simp only [Act.put, List.setIfInBounds_toArray, List.set_cons_zero, List.set_cons_succ, i64_w, i32_w]
                                  rfl
                                exact norm_ (by first | (simp only [putAll, Act.put, List.setIfInBounds_toArray, List.set_cons_zero, List.set_cons_succ]; done) | (simp only [putAll, Act.put, List.setIfInBounds_toArray, List.set_cons_zero, List.set_cons_succ]; rfl)) (hJ5_6_13_19 (v194, v197) _ ⟨hHeld, (by (with_reducible repeat (first | apply Kd.R_alloc | apply Kd.R_drewN | apply Kd.R_drew)); exact Kd.R_mono HO195.out (fun _ hk => hk.2)), (by (with_reducible repeat (first | apply Kd.R_alloc | apply Kd.R_drewN | apply Kd.R_drew)); exact Kd.R_mono HO198.out (fun _ hk => hk.2)), (by (with_reducible repeat (first | refine blk_drewN ?_ _ | refine blk_drew ?_ | refine blk_alloc ?_ _)); exact BK192.out), (by repeat (first | (with_reducible first | exact HB.out | apply below_alloc | apply pw_below_drewN | apply below_drew1 | refine below_set ?_ GE192.out) | exact HB.out))⟩)
                            · skip
                              rintro ⟨v194, v197⟩ w19 ⟨hS_, h0_, h1_, h2_, h3_⟩
                              have n0_ : Aside0 (Kd.R (Kd.int .u8) 5 w19 w.heap.size (fun k_ => some k_ ≠ (v197 : Value).ownBlock) v194 y193) := ⟨h0_⟩
                              have n1_ : Aside0 (Kd.R (Kd.int .u8) 5 w19 w.heap.size (fun k_ => some k_ ≠ (v194 : Value).ownBlock) v197 y196) := ⟨h1_⟩
                              have n2_ : Aside0 (w19.heap[gb192]? = some (.cells #[.string ((rd_T25 l0 x8_1).f0), .int .i64 ((rd_T25 l0 x8_1).f1), .int .i64 ((rd_T25 l0 x8_1).f2)] 25 (0, 0))) := ⟨h2_⟩
                              have n3_ : Aside0 (Below w.heap.size w w19) := ⟨h3_⟩
                              clear BK192
                              clear HB
                              clear h0_ h1_ h2_ h3_
                              have HO195 := n0_
                              have HO198 := n1_
                              have BK192 := n2_
                              have HB := n3_
                              clear n0_ n1_ n2_ n3_
                              have hHeld : w19.cell? ⟨gb192, 0, none⟩ = some (.string ((rd_T25 l0 x8_1).f0)) ∧ w19.cell? ⟨gb192, 1, none⟩ = some (.int .i64 ((rd_T25 l0 x8_1).f1)) ∧ w19.cell? ⟨gb192, 2, none⟩ = some (.int .i64 ((rd_T25 l0 x8_1).f2)) := hS_
                              refine norm_ (a' := ?_) ?_ ?_
                              rotate_left
                              · simp only [putAll, Act.put, List.setIfInBounds_toArray, List.set_cons_zero, List.set_cons_succ]
                                rfl
                              refine two_ (i := 14) (j := 19) (Ni := some 26) (Nj := some 31) #[true, true, true, true, true, true, true, true, true, true, true, true, true, true, true, false, true, true, true, false, false, false, false] #[true, true, true, true, true, true, true, true, true, true, true, true, true, true, false, false, true, true, true, true, false, false, false] rfl rfl rfl rfl (two_of HT_.out (by kernel_rfl)) (by decide) (by decide) (fun K hK => ?_) (fun K hK => ?_)
                              · skip
                                have hcv20 := own_string (P := Tryd.prog) Tryd.underlying34 Tryd.underlying5 Tryd.underlying9 (Kd.own_of_R HO198.out)
                                refine value_ (w1 := ?_) (v := ?_) (by rfl) rfl ?_ ?_
                                rotate_left 2
                                · go_simp
                                  constructor
                                  · rfl
                                  · rfl
                                clear hcv20
                                refine hK.out _ _ ⟨(blk_cell BK192.out 0).trans rfl, (blk_cell BK192.out 1).trans rfl, (blk_cell BK192.out 2).trans rfl⟩ (fun hHeld => ?_)
                                clear hK K
                                refine norm_ (a' := ?_) ?_ ?_
                                rotate_left
                                · show Act.put _ (some 26) _ = _
                                  simp only [Act.put, List.setIfInBounds_toArray, List.set_cons_zero, List.set_cons_succ, i64_w, i32_w]
                                  rfl
                                refine pure_ (i := 15) (N := some 27) (v := ?_) (a' := ?_) #[true, true, true, true, true, true, true, true, true, true, true, true, true, true, true, true, true, true, true, false, false, false, false] rfl rfl (any_of HT_.out (by kernel_rfl)) (fun _ _ _ h => h) (Or.inl ⟨by rfl, ?_⟩) ?_ ?_
                                rotate_left
                                · intro w'
                                  go_simp
                                  with_reducible rfl
                                rotate_left
                                · simp only [Act.put, List.setIfInBounds_toArray, List.set_cons_zero, List.set_cons_succ, i64_w, i32_w]
                                  rfl
                                exact norm_ (by first | (simp only [putAll, Act.put, List.setIfInBounds_toArray, List.set_cons_zero, List.set_cons_succ]; done) | (simp only [putAll, Act.put, List.setIfInBounds_toArray, List.set_cons_zero, List.set_cons_succ]; rfl)) (hJ5_6_13_14 (v194, v197) _ ⟨hHeld, (by (with_reducible repeat (first | apply Kd.R_alloc | apply Kd.R_drewN | apply Kd.R_drew)); exact HO195.out), (by (with_reducible repeat (first | apply Kd.R_alloc | apply Kd.R_drewN | apply Kd.R_drew)); exact HO198.out), (by (with_reducible repeat (first | refine blk_drewN ?_ _ | refine blk_drew ?_ | refine blk_alloc ?_ _)); exact BK192.out), (by repeat (first | (with_reducible first | exact HB.out | apply below_alloc | apply pw_below_drewN | apply below_drew1 | refine below_set ?_ GE192.out) | exact HB.out))⟩)
                              · skip
                                refine goes_ Tryd.func39 (by kernel_rfl) rfl #[.int .u64 (IntKind.u64.wrap ((rd_T25 l0 x8_1).f2))] (by rfl) rfl rfl (by (try simp only [List.map_toArray, List.map_cons, List.map_nil]); first | done | rfl | (simp only [List.length_drop, List.length_take]; rfl)) ?_
                                with_reducible refine (gatehouseref03_Eight.calls k1 (IntKind.u64.wrap ((rd_T25 l0 x8_1).f2)) t199 _ A7.out).mono ?_
                                rintro e w20 ⟨rfl, hb⟩
                                refine ⟨_, rfl, ?_⟩
                                have n0_ := Aside0.mk (Kd.R_below (by (with_reducible repeat (first | apply Kd.R_alloc | apply Kd.R_drewN | apply Kd.R_drew)); exact HO195.out) hb)
                                have n1_ := Aside0.mk (Kd.R_below (by (with_reducible repeat (first | apply Kd.R_alloc | apply Kd.R_drewN | apply Kd.R_drew)); exact HO198.out) hb)
                                have n2_ := Aside0.mk (blk_below (g := gb192) (o := .cells #[.string ((rd_T25 l0 x8_1).f0), .int .i64 ((rd_T25 l0 x8_1).f1), .int .i64 ((rd_T25 l0 x8_1).f2)] 25 (0, 0)) (by (with_reducible repeat (first | refine blk_drewN ?_ _ | refine blk_drew ?_ | refine blk_alloc ?_ _)); exact BK192.out) hb)
                                have n3_ := Aside0.mk (below_step (by repeat (first | (with_reducible first | exact HB.out | apply below_alloc | apply pw_below_drewN | apply below_drew1 | refine below_set ?_ GE192.out) | exact HB.out)) hb)
                                clear HO195
                                clear HO198
                                clear BK192
                                clear HB
                                have HO195 := n0_
                                have HO198 := n1_
                                have BK192 := n2_
                                have HB := n3_
                                clear n0_ n1_ n2_ n3_
                                (try clear hb)
                                (try clear hb2)
                                (try clear hk)
                                (try clear hi)
                                refine hK.out _ _ ⟨(blk_cell BK192.out 0).trans rfl, (blk_cell BK192.out 1).trans rfl, (blk_cell BK192.out 2).trans rfl⟩ (fun hHeld => ?_)
                                clear hK K
                                refine norm_ (a' := ?_) ?_ ?_
                                rotate_left
                                · show Act.put _ (some 31) _ = _
                                  simp only [Act.put, List.setIfInBounds_toArray, List.set_cons_zero, List.set_cons_succ, i64_w, i32_w]
                                  rfl
                                exact norm_ (by first | (simp only [putAll, Act.put, List.setIfInBounds_toArray, List.set_cons_zero, List.set_cons_succ]; done) | (simp only [putAll, Act.put, List.setIfInBounds_toArray, List.set_cons_zero, List.set_cons_succ]; rfl)) (hJ5_6_13_19 (v194, v197) _ ⟨hHeld, (by (with_reducible repeat (first | apply Kd.R_alloc | apply Kd.R_drewN | apply Kd.R_drew)); exact HO195.out), (by (with_reducible repeat (first | apply Kd.R_alloc | apply Kd.R_drewN | apply Kd.R_drew)); exact HO198.out), (by (with_reducible repeat (first | refine blk_drewN ?_ _ | refine blk_drew ?_ | refine blk_alloc ?_ _)); exact BK192.out), (by repeat (first | (with_reducible first | exact HB.out | apply below_alloc | apply pw_below_drewN | apply below_drew1 | refine below_set ?_ GE192.out) | exact HB.out))⟩)
                          · skip
                            rintro ⟨v194, v197⟩ w20 ⟨hS_, h0_, h1_, h2_, h3_⟩
                            have n0_ : Aside0 (Kd.R (Kd.int .u8) 5 w20 w.heap.size (fun k_ => some k_ ≠ (v197 : Value).ownBlock) v194 y193) := ⟨h0_⟩
                            have n1_ : Aside0 (Kd.R (Kd.int .u8) 5 w20 w.heap.size (fun k_ => some k_ ≠ (v194 : Value).ownBlock) v197 y196) := ⟨h1_⟩
                            have n2_ : Aside0 (w20.heap[gb192]? = some (.cells #[.string ((rd_T25 l0 x8_1).f0), .int .i64 ((rd_T25 l0 x8_1).f1), .int .i64 ((rd_T25 l0 x8_1).f2)] 25 (0, 0))) := ⟨h2_⟩
                            have n3_ : Aside0 (Below w.heap.size w w20) := ⟨h3_⟩
                            clear BK192
                            clear HB
                            clear h0_ h1_ h2_ h3_
                            have HO195 := n0_
                            have HO198 := n1_
                            have BK192 := n2_
                            have HB := n3_
                            clear n0_ n1_ n2_ n3_
                            have hHeld : w20.cell? ⟨gb192, 0, none⟩ = some (.string ((rd_T25 l0 x8_1).f0)) ∧ w20.cell? ⟨gb192, 1, none⟩ = some (.int .i64 ((rd_T25 l0 x8_1).f1)) ∧ w20.cell? ⟨gb192, 2, none⟩ = some (.int .i64 ((rd_T25 l0 x8_1).f2)) := hS_
                            refine norm_ (a' := ?_) ?_ ?_
                            rotate_left
                            · simp only [putAll, Act.put, List.setIfInBounds_toArray, List.set_cons_zero, List.set_cons_succ]
                              rfl
                            refine one_ (i := 6) (N := some 18) #[true, true, true, true, true, true, true, true, true, false, true, true, true, true, true, false, true, true, true, true, false, false, false] rfl rfl (one_of HT_.out (by kernel_rfl)) (by decide) (fun K hK => ?_)
                            have hcv21 := own_string (P := Tryd.prog) Tryd.underlying34 Tryd.underlying5 Tryd.underlying9 (Kd.own_of_R HO195.out)
                            refine value_ (w1 := ?_) (v := ?_) (by rfl) rfl ?_ ?_
                            rotate_left 2
                            · go_simp
                              constructor
                              · rfl
                              · rfl
                            clear hcv21
                            refine hK.out _ _ ⟨(blk_cell BK192.out 0).trans rfl, (blk_cell BK192.out 1).trans rfl, (blk_cell BK192.out 2).trans rfl⟩ (fun hHeld => ?_)
                            clear hK K
                            refine norm_ (a' := ?_) ?_ ?_
                            rotate_left
                            · show Act.put _ (some 18) _ = _
                              simp only [Act.put, List.setIfInBounds_toArray, List.set_cons_zero, List.set_cons_succ, i64_w, i32_w]
                              rfl
                            refine pure_ (i := 9) (N := some 21) (v := ?_) (a' := ?_) #[true, true, true, true, true, true, true, true, true, true, true, true, true, true, true, false, true, true, true, true, false, false, false] rfl rfl (any_of HT_.out (by kernel_rfl)) (fun _ _ _ h => h) (Or.inl ⟨by rfl, ?_⟩) ?_ ?_
                            rotate_left
                            · intro w'
                              go_simp
                              with_reducible rfl
                            rotate_left
                            · simp only [Act.put, List.setIfInBounds_toArray, List.set_cons_zero, List.set_cons_succ, i64_w, i32_w]
                              rfl
                            refine pure_ (i := 15) (N := some 27) (v := ?_) (a' := ?_) #[true, true, true, true, true, true, true, true, true, true, true, true, true, true, true, true, true, true, true, true, false, false, false] rfl rfl (any_of HT_.out (by kernel_rfl)) (fun _ _ _ h => h) (Or.inl ⟨by rfl, ?_⟩) ?_ ?_
                            rotate_left
                            · intro w'
                              go_simp
                              with_reducible rfl
                            rotate_left
                            · simp only [Act.put, List.setIfInBounds_toArray, List.set_cons_zero, List.set_cons_succ, i64_w, i32_w]
                              rfl
                            exact norm_ (by first | (simp only [putAll, Act.put, List.setIfInBounds_toArray, List.set_cons_zero, List.set_cons_succ]; done) | (simp only [putAll, Act.put, List.setIfInBounds_toArray, List.set_cons_zero, List.set_cons_succ]; rfl)) (hJ5_6_13_14_19 (v194, v197) _ ⟨hHeld, (by (with_reducible repeat (first | apply Kd.R_alloc | apply Kd.R_drewN | apply Kd.R_drew)); exact HO195.out), (by (with_reducible repeat (first | apply Kd.R_alloc | apply Kd.R_drewN | apply Kd.R_drew)); exact HO198.out), (by (with_reducible repeat (first | refine blk_drewN ?_ _ | refine blk_drew ?_ | refine blk_alloc ?_ _)); exact BK192.out), (by repeat (first | (with_reducible first | exact HB.out | apply below_alloc | apply pw_below_drewN | apply below_drew1 | refine below_set ?_ GE192.out) | exact HB.out))⟩)
                        · skip
                          rintro ⟨v194, v197⟩ w20 ⟨hS_, h0_, h1_, h2_, h3_⟩
                          have n0_ : Aside0 (Kd.R (Kd.int .u8) 5 w20 w.heap.size (fun k_ => some k_ ≠ (v197 : Value).ownBlock) v194 y193) := ⟨h0_⟩
                          have n1_ : Aside0 (Kd.R (Kd.int .u8) 5 w20 w.heap.size (fun k_ => some k_ ≠ (v194 : Value).ownBlock) v197 y196) := ⟨h1_⟩
                          have n2_ : Aside0 (w20.heap[gb192]? = some (.cells #[.string ((rd_T25 l0 x8_1).f0), .int .i64 ((rd_T25 l0 x8_1).f1), .int .i64 ((rd_T25 l0 x8_1).f2)] 25 (0, 0))) := ⟨h2_⟩
                          have n3_ : Aside0 (Below w.heap.size w w20) := ⟨h3_⟩
                          clear BK192
                          clear HB
                          clear h0_ h1_ h2_ h3_
                          have HO195 := n0_
                          have HO198 := n1_
                          have BK192 := n2_
                          have HB := n3_
                          clear n0_ n1_ n2_ n3_
                          have hHeld : w20.cell? ⟨gb192, 0, none⟩ = some (.string ((rd_T25 l0 x8_1).f0)) ∧ w20.cell? ⟨gb192, 1, none⟩ = some (.int .i64 ((rd_T25 l0 x8_1).f1)) ∧ w20.cell? ⟨gb192, 2, none⟩ = some (.int .i64 ((rd_T25 l0 x8_1).f2)) := hS_
                          refine norm_ (a' := ?_) ?_ ?_
                          rotate_left
                          · simp only [putAll, Act.put, List.setIfInBounds_toArray, List.set_cons_zero, List.set_cons_succ]
                            rfl
                          refine one_ (i := 14) (N := some 26) #[true, true, true, true, true, true, true, true, true, true, true, true, true, true, true, false, true, true, true, true, false, false, false] rfl rfl (one_of HT_.out (by kernel_rfl)) (by decide) (fun K hK => ?_)
                          have hcv21 := own_string (P := Tryd.prog) Tryd.underlying34 Tryd.underlying5 Tryd.underlying9 (Kd.own_of_R HO198.out)
                          refine value_ (w1 := ?_) (v := ?_) (by rfl) rfl ?_ ?_
                          rotate_left 2
                          · go_simp
                            constructor
                            · rfl
                            · rfl
                          clear hcv21
                          refine hK.out _ _ ⟨(blk_cell BK192.out 0).trans rfl, (blk_cell BK192.out 1).trans rfl, (blk_cell BK192.out 2).trans rfl⟩ (fun hHeld => ?_)
                          clear hK K
                          refine norm_ (a' := ?_) ?_ ?_
                          rotate_left
                          · show Act.put _ (some 26) _ = _
                            simp only [Act.put, List.setIfInBounds_toArray, List.set_cons_zero, List.set_cons_succ, i64_w, i32_w]
                            rfl
                          refine pure_ (i := 15) (N := some 27) (v := ?_) (a' := ?_) #[true, true, true, true, true, true, true, true, true, true, true, true, true, true, true, true, true, true, true, true, false, false, false] rfl rfl (any_of HT_.out (by kernel_rfl)) (fun _ _ _ h => h) (Or.inl ⟨by rfl, ?_⟩) ?_ ?_
                          rotate_left
                          · intro w'
                            go_simp
                            with_reducible rfl
                          rotate_left
                          · simp only [Act.put, List.setIfInBounds_toArray, List.set_cons_zero, List.set_cons_succ, i64_w, i32_w]
                            rfl
                          exact norm_ (by first | (simp only [putAll, Act.put, List.setIfInBounds_toArray, List.set_cons_zero, List.set_cons_succ]; done) | (simp only [putAll, Act.put, List.setIfInBounds_toArray, List.set_cons_zero, List.set_cons_succ]; rfl)) (hJ5_6_13_14_19 (v194, v197) _ ⟨hHeld, (by (with_reducible repeat (first | apply Kd.R_alloc | apply Kd.R_drewN | apply Kd.R_drew)); exact HO195.out), (by (with_reducible repeat (first | apply Kd.R_alloc | apply Kd.R_drewN | apply Kd.R_drew)); exact HO198.out), (by (with_reducible repeat (first | refine blk_drewN ?_ _ | refine blk_drew ?_ | refine blk_alloc ?_ _)); exact BK192.out), (by repeat (first | (with_reducible first | exact HB.out | apply below_alloc | apply pw_below_drewN | apply below_drew1 | refine below_set ?_ GE192.out) | exact HB.out))⟩)
                      · skip
                        rintro ⟨v194, v197⟩ w20 ⟨hS_, h0_, h1_, h2_, h3_⟩
                        have n0_ : Aside0 (Kd.R (Kd.int .u8) 5 w20 w.heap.size (fun k_ => some k_ ≠ (v197 : Value).ownBlock) v194 y193) := ⟨h0_⟩
                        have n1_ : Aside0 (Kd.R (Kd.int .u8) 5 w20 w.heap.size (fun k_ => some k_ ≠ (v194 : Value).ownBlock) v197 y196) := ⟨h1_⟩
                        have n2_ : Aside0 (w20.heap[gb192]? = some (.cells #[.string ((rd_T25 l0 x8_1).f0), .int .i64 ((rd_T25 l0 x8_1).f1), .int .i64 ((rd_T25 l0 x8_1).f2)] 25 (0, 0))) := ⟨h2_⟩
                        have n3_ : Aside0 (Below w.heap.size w w20) := ⟨h3_⟩
                        clear BK192
                        clear HB
                        clear h0_ h1_ h2_ h3_
                        have HO195 := n0_
                        have HO198 := n1_
                        have BK192 := n2_
                        have HB := n3_
                        clear n0_ n1_ n2_ n3_
                        have hHeld : w20.cell? ⟨gb192, 0, none⟩ = some (.string ((rd_T25 l0 x8_1).f0)) ∧ w20.cell? ⟨gb192, 1, none⟩ = some (.int .i64 ((rd_T25 l0 x8_1).f1)) ∧ w20.cell? ⟨gb192, 2, none⟩ = some (.int .i64 ((rd_T25 l0 x8_1).f2)) := hS_
                        refine norm_ (a' := ?_) ?_ ?_
                        rotate_left
                        · simp only [putAll, Act.put, List.setIfInBounds_toArray, List.set_cons_zero, List.set_cons_succ]
                          rfl
                        refine one_ (i := 19) (N := some 31) #[true, true, true, true, true, true, true, true, true, true, true, true, true, true, true, true, true, true, true, true, false, false, false] rfl rfl (one_of HT_.out (by kernel_rfl)) (by decide) (fun K hK => ?_)
                        refine goes_ Tryd.func39 (by kernel_rfl) rfl #[.int .u64 (IntKind.u64.wrap ((rd_T25 l0 x8_1).f2))] (by rfl) rfl rfl (by (try simp only [List.map_toArray, List.map_cons, List.map_nil]); first | done | rfl | (simp only [List.length_drop, List.length_take]; rfl)) ?_
                        with_reducible refine (gatehouseref03_Eight.calls k1 (IntKind.u64.wrap ((rd_T25 l0 x8_1).f2)) t199 _ A7.out).mono ?_
                        rintro e w21 ⟨rfl, hb⟩
                        refine ⟨_, rfl, ?_⟩
                        have n0_ := Aside0.mk (Kd.R_below (by (with_reducible repeat (first | apply Kd.R_alloc | apply Kd.R_drewN | apply Kd.R_drew)); exact HO195.out) hb)
                        have n1_ := Aside0.mk (Kd.R_below (by (with_reducible repeat (first | apply Kd.R_alloc | apply Kd.R_drewN | apply Kd.R_drew)); exact HO198.out) hb)
                        have n2_ := Aside0.mk (blk_below (g := gb192) (o := .cells #[.string ((rd_T25 l0 x8_1).f0), .int .i64 ((rd_T25 l0 x8_1).f1), .int .i64 ((rd_T25 l0 x8_1).f2)] 25 (0, 0)) (by (with_reducible repeat (first | refine blk_drewN ?_ _ | refine blk_drew ?_ | refine blk_alloc ?_ _)); exact BK192.out) hb)
                        have n3_ := Aside0.mk (below_step (by repeat (first | (with_reducible first | exact HB.out | apply below_alloc | apply pw_below_drewN | apply below_drew1 | refine below_set ?_ GE192.out) | exact HB.out)) hb)
                        clear HO195
                        clear HO198
                        clear BK192
                        clear HB
                        have HO195 := n0_
                        have HO198 := n1_
                        have BK192 := n2_
                        have HB := n3_
                        clear n0_ n1_ n2_ n3_
                        (try clear hb)
                        (try clear hb2)
                        (try clear hk)
                        (try clear hi)
                        refine hK.out _ _ ⟨(blk_cell BK192.out 0).trans rfl, (blk_cell BK192.out 1).trans rfl, (blk_cell BK192.out 2).trans rfl⟩ (fun hHeld => ?_)
                        clear hK K
                        refine norm_ (a' := ?_) ?_ ?_
                        rotate_left
                        · show Act.put _ (some 31) _ = _
                          simp only [Act.put, List.setIfInBounds_toArray, List.set_cons_zero, List.set_cons_succ, i64_w, i32_w]
                          rfl
                        exact norm_ (by first | (simp only [putAll, Act.put, List.setIfInBounds_toArray, List.set_cons_zero, List.set_cons_succ]; done) | (simp only [putAll, Act.put, List.setIfInBounds_toArray, List.set_cons_zero, List.set_cons_succ]; rfl)) (hJ5_6_13_14_19 (v194, v197) _ ⟨hHeld, (by (with_reducible repeat (first | apply Kd.R_alloc | apply Kd.R_drewN | apply Kd.R_drew)); exact HO195.out), (by (with_reducible repeat (first | apply Kd.R_alloc | apply Kd.R_drewN | apply Kd.R_drew)); exact HO198.out), (by (with_reducible repeat (first | refine blk_drewN ?_ _ | refine blk_drew ?_ | refine blk_alloc ?_ _)); exact BK192.out), (by repeat (first | (with_reducible first | exact HB.out | apply below_alloc | apply pw_below_drewN | apply below_drew1 | refine below_set ?_ GE192.out) | exact HB.out))⟩)
                    rintro ⟨v194, v197⟩ w21 ⟨hS_, h0_, h1_, h2_, h3_⟩
                    have n0_ : Aside0 (Kd.R (Kd.int .u8) 5 w21 w.heap.size (fun k_ => some k_ ≠ (v197 : Value).ownBlock) v194 y193) := ⟨h0_⟩
                    have n1_ : Aside0 (Kd.R (Kd.int .u8) 5 w21 w.heap.size (fun k_ => some k_ ≠ (v194 : Value).ownBlock) v197 y196) := ⟨h1_⟩
                    have n2_ : Aside0 (w21.heap[gb192]? = some (.cells #[.string ((rd_T25 l0 x8_1).f0), .int .i64 ((rd_T25 l0 x8_1).f1), .int .i64 ((rd_T25 l0 x8_1).f2)] 25 (0, 0))) := ⟨h2_⟩
                    have n3_ : Aside0 (Below w.heap.size w w21) := ⟨h3_⟩
                    clear BK192
                    clear HB
                    clear h0_ h1_ h2_ h3_
                    have HO195 := n0_
                    have HO198 := n1_
                    have BK192 := n2_
                    have HB := n3_
                    clear n0_ n1_ n2_ n3_
                    have hHeld : w21.cell? ⟨gb192, 0, none⟩ = some (.string ((rd_T25 l0 x8_1).f0)) ∧ w21.cell? ⟨gb192, 1, none⟩ = some (.int .i64 ((rd_T25 l0 x8_1).f1)) ∧ w21.cell? ⟨gb192, 2, none⟩ = some (.int .i64 ((rd_T25 l0 x8_1).f2)) := hS_
                    refine norm_ (a' := ?_) ?_ ?_
                    rotate_left
                    · simp only [putAll, Act.put, List.setIfInBounds_toArray, List.set_cons_zero, List.set_cons_succ]
                      rfl
                    refine pure_ (i := 20) (N := some 32) (v := ?_) (a' := ?_) #[true, true, true, true, true, true, true, true, true, true, true, true, true, true, true, true, true, true, true, true, true, false, false] rfl rfl (any_of HT_.out (by kernel_rfl)) (fun _ _ _ h => h) (Or.inl ⟨by rfl, ?_⟩) ?_ ?_
                    rotate_left
                    · intro w'
                      go_simp
                      with_reducible rfl
                    rotate_left
                    · simp only [Act.put, List.setIfInBounds_toArray, List.set_cons_zero, List.set_cons_succ, i64_w, i32_w]
                      rfl
                    refine pure_ (i := 21) (N := some 33) (v := ?_) (a' := ?_) #[true, true, true, true, true, true, true, true, true, true, true, true, true, true, true, true, true, true, true, true, true, true, false] rfl rfl (any_of HT_.out (by kernel_rfl)) (fun _ _ _ h => h) (Or.inl ⟨by rfl, ?_⟩) ?_ ?_
                    rotate_left
                    · intro w'
                      go_simp
                      with_reducible rfl
                    rotate_left
                    · simp only [Act.put, List.setIfInBounds_toArray, List.set_cons_zero, List.set_cons_succ, i64_w, i32_w]
                      rfl
                    refine pure_ (i := 22) (N := some 3) (v := ?_) (a' := ?_) #[true, true, true, true, true, true, true, true, true, true, true, true, true, true, true, true, true, true, true, true, true, true, true] rfl rfl (any_of HT_.out (by kernel_rfl)) (fun _ _ _ h => h) (Or.inl ⟨by rfl, ?_⟩) ?_ ?_
                    rotate_left
                    · intro w'
                      go_simp
                      with_reducible rfl
                    rotate_left
                    · simp only [Act.put, List.setIfInBounds_toArray, List.set_cons_zero, List.set_cons_succ, i64_w, i32_w]
                      rfl
                    refine done_ (done_of HT_.out (by kernel_rfl)) ?_
                    try go_wp2
                    go_roundg k1
                    case measure => have := HK1.out; omega
                    case rel => exact ⟨(x3_1 ++ ((((strOfNums y193) ++ ((rd_T25 l0 x8_1).f0)) ++ (strOfNums y196)) ++ t199)), (wrap64 (x8_1 + 1)), (by first | rfl | (simp; done) | (simp [*]; done)), (by first | rfl | (simp; done) | (simp [*]; done)), H', ⟨by have := HK1.out; omega⟩, ⟨by repeat (first | (with_reducible first | exact HB.out | apply below_alloc | apply pw_below_drewN | apply below_drew1 | refine below_set ?_ GE192.out) | exact HB.out)⟩⟩
                  · rw [if_neg c9] at H
                    exact absurd H (by simp)
                · rw [if_neg c8] at H
                  exact absurd H (by simp)
              · rw [if_neg c6] at H
                exact absurd H (by simp)
            · rw [if_neg c5] at H
              exact absurd H (by simp)
          · rw [if_neg c4] at H
            exact absurd H (by simp)
        · rw [if_neg c3] at H
          exact absurd H (by simp)
      · rw [if_neg c2] at H
        have c2b0 : decide (x8_1 < (l0.length : Int)) = false := decide_eq_false c2
        clear c2
        obtain rfl := Option.some.inj H
        go_wp2
        go_ret
        exact ⟨by first | rfl | (simp [errW_none, errW_some] <;> rfl) | (simp [*, errW_none, errW_some] <;> rfl), by repeat (first | (with_reducible first | exact HB.out | apply below_alloc | apply pw_below_drewN | apply below_drew1) | exact HB.out)⟩

end Go.Proofs.YtijnlgmclaphhaaDoorZ
/-! Plain laws: the reference's bytes of a directory, and what any bytes are by either way. -/
namespace Go.Proofs.YtijnlgmclaphhaaDoor
open Go Go.RowKit Go.Proofs.YtijnlgmclaphhaaDoorZ Go.Proofs.YtijnlgmclaphhaaDoorW.PrintWords

theorem tdiv_wrap (q : Nat) (h : q < 18446744073709551616) : IntKind.u64.wrap (Int.tdiv (q : Int) 256) = ((q / 256 : Nat) : Int) := by
  have : Int.tdiv (q : Int) 256 = ((q / 256 : Nat) : Int) := by
    rw [Int.tdiv_eq_ediv_of_nonneg (by omega)]; rfl
  rw [this]
  exact wrapU (by omega)
theorem tmod_byte (q : Nat) : (Int.tmod (q : Int) 256) % 256 = ((q % 256 : Nat) : Int) := by
  rw [Int.tmod_eq_emod_of_nonneg (by omega)]
  omega
theorem eight_loop (n : Nat) (hn : n < 18446744073709551616) (d : Nat) : ∀ k i : Nat, 8 - i = d → i ≤ 8 → d < k → gatehouseref03_Eight.l0 k ((n / 256 ^ i : Nat) : Int) ((List.range i).map fun j => ((n / 256 ^ j % 256 : Nat) : Int)) (i : Int) = some (strOfNums ((List.range 8).map fun j => ((n / 256 ^ j % 256 : Nat) : Int))) := by
  induction d with
  | zero =>
    intro k i h hi hk
    obtain ⟨k, rfl⟩ : ∃ q, k = q + 1 := ⟨k - 1, by omega⟩
    obtain rfl : i = 8 := by omega
    simp only [gatehouseref03_Eight.l0]
    rw [if_neg (by omega)]
  | succ d ih =>
    intro k i h hi hk
    obtain ⟨k, rfl⟩ : ∃ q, k = q + 1 := ⟨k - 1, by omega⟩
    simp only [gatehouseref03_Eight.l0]
    have hle : n / 256 ^ i ≤ n := Nat.div_le_self _ _
    have e1 : IntKind.u64.wrap (Int.tdiv ((n / 256 ^ i : Nat) : Int) 256) = ((n / 256 ^ (i + 1) : Nat) : Int) := by
      rw [tdiv_wrap _ (Nat.lt_of_le_of_lt hle hn), Nat.div_div_eq_div_mul, ← Nat.pow_succ]
    have e2 := tmod_byte (n / 256 ^ i)
    rw [if_pos (by omega), if_pos (by simp; omega), e1, e2, w64 (x := (i : Int) + 1) (by omega) (by omega)]
    have := ih k (i + 1) (by omega) (by omega) (by omega)
    rw [List.range_succ, List.map_append] at this
    exact this
theorem strOf_map (l : List UInt8) (g : List Int) (h : g = l.map fun b => (b.toNat : Int)) : strOfNums g = ⟨l.toArray⟩ := by rw [h]; exact strOf_ints l
theorem eight_f (x : Int) (h0 : 0 ≤ x) (h1 : x < 18446744073709551616) (k : Nat) (hk : 8 < k) : gatehouseref03_Eight.f k x = some ⟨(idTo x 8).toArray⟩ := by
  unfold gatehouseref03_Eight.f
  have h := eight_loop x.toNat (by omega) 8 k 0 (by omega) (by omega) hk
  rw [Nat.pow_zero, Nat.div_one, show ((x.toNat : Nat) : Int) = x by omega] at h
  refine h.trans (congrArg some (strOf_map _ _ ?_))
  unfold idTo
  rw [List.map_map]
  apply List.map_congr_left
  intro j _
  show _ = (((idByte x j).toNat : Nat) : Int)
  unfold idByte
  rw [UInt8.toNat_ofNat', Nat.mod_mod]
theorem one_byte (m : Int) (h0 : 0 ≤ m) (h1 : m < 256) : strOfNums [m % 256] = ⟨#[UInt8.ofNat m.toNat]⟩ := by
  refine strOf_map [UInt8.ofNat m.toNat] _ ?_
  rw [List.map_cons, List.map_nil, UInt8.toNat_ofNat']
  congr 1
  omega
theorem dataEq {a b : ByteArray} (h : a.data.toList = b.data.toList) : a = b := toList_inj (by rw [Lib.toList_data, Lib.toList_data, h])
theorem sizeD (s : ByteArray) : s.size = s.data.toList.length := (Array.length_toList (xs := s.data)).symm
theorem appD (a b : ByteArray) : (a ++ b).data.toList = a.data.toList ++ b.data.toList := by simp
theorem rEnc_loop (l : List Nm) (hr : rightL l = true) (n : Nat) : ∀ (k i : Nat) (t : ByteArray), l.length - i = n → i ≤ l.length → n + 20 < k → t.data.toList = encL (l.take i) →
    gatehouseref13_Encode.l0 k t l (l.length : Int) (i : Int) = some ⟨(encL l).toArray⟩ := by
  have hl := right_len hr
  have hsz := (right_ord hr).2
  induction n with
  | zero =>
    intro k i t h hi hk ht
    obtain ⟨k, rfl⟩ : ∃ q, k = q + 1 := ⟨k - 1, by omega⟩
    obtain rfl : i = l.length := by omega
    simp only [gatehouseref13_Encode.l0]
    rw [if_neg (by omega)]
    congr 1
    apply dataEq
    rw [ht, List.take_length]
  | succ n ih =>
    intro k i t h hi hk ht
    obtain ⟨k, rfl⟩ : ∃ q, k = q + 1 := ⟨k - 1, by omega⟩
    have hlt : i < l.length := by omega
    have hok := right_ok hr _ (List.getElem_mem hlt)
    obtain ⟨hf, hkd, hi1, hi2⟩ := okN_out hok
    obtain ⟨hz1, hz2⟩ := fits_out hf
    have hts : t.size ≤ 4096 := by
      rw [sizeD, ht, encL_length]
      have : sizeN (l.take i) ≤ sizeN l := by
        conv => rhs; rw [← List.take_append_drop i l]
        unfold sizeN
        rw [List.map_append, List.sum_append]; omega
      omega
    have b1 := one_byte ((l[i]).f0.size : Int) (by omega) (by omega)
    have b2 := one_byte (l[i]).f1 (by omega) (by omega)
    have e8 := eight_f (IntKind.u64.wrap (l[i]).f2) (by rw [show (l[i]).f2 = (((l[i]).f2.toNat : Nat) : Int) by omega, wrapU (by omega)]; omega) (by rw [show (l[i]).f2 = (((l[i]).f2.toNat : Nat) : Int) by omega, wrapU (by omega)]; omega) k (by omega)
    have e9 : IntKind.u64.wrap (l[i]).f2 = (l[i]).f2 := by
      have := wrapU (m := (l[i]).f2.toNat) (by omega)
      rw [show (((l[i]).f2.toNat : Nat) : Int) = (l[i]).f2 by omega] at this
      exact this
    simp only [gatehouseref13_Encode.l0]
    rw [if_pos (by omega), if_pos (by omega), if_pos (by omega), rd_at l i hlt, w64 (x := (i : Int) + 1) (by omega) (by omega), Option.bind_some, b1]
    have s1 : ∀ c : UInt8, (⟨#[c]⟩ : ByteArray).size = 1 := fun _ => rfl
    have s2 : (⟨(idTo (l[i]).f2 8).toArray⟩ : ByteArray).size = 8 := by rw [sizeD]; unfold idTo; simp
    have s3 : ∀ a b : ByteArray, (a ++ b).size = a.size + b.size := fun a b => by rw [sizeD, appD, List.length_append, ← sizeD, ← sizeD]
    rw [if_pos (by rw [s1]; omega), Option.bind_some, b2, if_pos (by rw [s3, s1, s1]; omega), e8, Option.bind_some, e9, if_pos (by rw [s3, s3, s1, s1, s2]; omega), if_pos (by rw [s3, s3, s3, s1, s1, s2]; omega)]
    refine ih k (i + 1) _ (by omega) (by omega) (by omega) ?_
    rw [encL_take l i hlt, appD, appD, appD, appD, ht]
    unfold encN headN
    simp
theorem rEnc_f (l : List Nm) (hr : rightL l = true) (k : Nat) (hk : 500 < k) : gatehouseref13_Encode.f k l = some ⟨(encL l).toArray⟩ := by
  unfold gatehouseref13_Encode.f
  have hl := right_len hr
  exact rEnc_loop l hr l.length k 0 _ (by omega) (by omega) (by omega) rfl

/-- What is left of a text from o on. -/
def sfx (s : ByteArray) (o : Nat) : ByteArray := s.extract o s.size
theorem sfx_data (s : ByteArray) (o : Nat) : (sfx s o).data.toList = s.data.toList.drop o := by
  unfold sfx
  rw [ext_data, List.take_of_length_le]
  rw [List.length_drop, ← sizeD]
  exact Nat.le_refl _
theorem sfx_zero (s : ByteArray) : sfx s 0 = s := dataEq (by rw [sfx_data]; rfl)
theorem sfx_size (s : ByteArray) (o : Nat) : (sfx s o).size = s.size - o := by rw [sizeD, sfx_data, List.length_drop, ← sizeD]
theorem byN_sfx (s : ByteArray) (o i : Nat) : byN (sfx s o) i = byN s (o + i) := by
  unfold byN
  rw [sfx_data, List.getElem?_drop]
theorem leN_sfx (s : ByteArray) (o p : Nat) : ∀ i, leN (sfx s o) p i = leN s (o + p) i
  | 0 => rfl
  | i + 1 => by
    unfold leN
    rw [leN_sfx s o p i, byN_sfx, Nat.add_assoc]
theorem hdE_sfx (s : ByteArray) (o : Nat) : hdE (sfx s o) = (byN s o : Int) := by
  have := bt_byN (sfx s o) 0
  rw [byN_sfx, Nat.add_zero] at this
  exact this
theorem tlE_sfx (s : ByteArray) (o : Nat) : tlE (sfx s o) = sfx s (o + 10 + byN s o) := by
  apply dataEq
  unfold tlE
  rw [ext_data, hdE_sfx, sfx_data, sfx_data, List.drop_drop, show ((byN s o : Int) + 10).toNat = byN s o + 10 by omega, show o + (byN s o + 10) = o + 10 + byN s o by omega, List.take_of_length_le]
  rw [List.length_drop, ← sizeD, sfx_size]; omega
theorem nmE_sfx (s : ByteArray) (o : Nat) : nmE (sfx s o) = ⟨s.extract (o + 1) (o + 1 + byN s o), (byN s (o + 1 + byN s o) : Int), wrap64 (leN s (o + 2 + byN s o) 8 : Int)⟩ := by
  unfold nmE
  rw [hdE_sfx]
  have h1 : (sfx s o).extract 1 (1 + (byN s o : Int)).toNat = s.extract (o + 1) (o + 1 + byN s o) := by
    apply dataEq
    rw [ext_data, ext_data, sfx_data, List.drop_drop, show (1 + (byN s o : Int)).toNat - 1 = byN s o by omega, show o + 1 + byN s o - (o + 1) = byN s o by omega]
  have h2 : bt (sfx s o) (1 + (byN s o : Int)) = (byN s (o + 1 + byN s o) : Int) := by
    rw [show (1 : Int) + (byN s o : Int) = ((1 + byN s o : Nat) : Int) by omega, bt_byN, byN_sfx, Nat.add_assoc]
  have h3 : idE (sfx s o) (2 + (byN s o : Int)) 8 = wrap64 (leN s (o + 2 + byN s o) 8 : Int) := by
    rw [show (2 : Int) + (byN s o : Int) = ((2 + byN s o : Nat) : Int) by omega, idE_le _ _ 8 (Nat.le_refl _), leN_sfx, Nat.add_assoc]
  rw [h1, h2, h3]
/-- The bytes are a row of entries that can be, whole. -/
def Fine (t : ByteArray) : Prop := (lastR t (entL t)).toList = [] ∧ ∀ x ∈ namesE (entL t), okN x = true
theorem fine_cons {t : ByteArray} (h0 : 0 < (t.size : Int)) (h : hdE t + 10 ≤ (t.size : Int)) : Fine t ↔ okN (nmE t) = true ∧ Fine (tlE t) := by
  unfold Fine
  rw [entL_some h0 h, lastR_cons]
  show _ ∧ (∀ x ∈ nmE t :: namesE (entL (tlE t)), okN x = true) ↔ _
  rw [List.forall_mem_cons]
  constructor
  · rintro ⟨a, b, c⟩; exact ⟨b, a, c⟩
  · rintro ⟨b, a, c⟩; exact ⟨a, b, c⟩
def Parsed (s : ByteArray) (o : Nat) (out : List Nm) : Option (List Nm) → Prop
  | none => ¬ Fine (sfx s o)
  | some out' => out' = out ++ namesE (entL (sfx s o)) ∧ (lastR (sfx s o) (entL (sfx s o))).toList = []
theorem refD_law (s : ByteArray) : ∀ (k o : Nat) (out : List Nm), s.size - o < k → o ≤ s.size → Parsed s o out (refD s k o out)
  | 0, o, out, h, _ => by omega
  | k + 1, o, out, h, ho => by
    have hhd := hdE_sfx s o
    have hss := sfx_size s o
    rw [refD]
    by_cases h1 : o < s.size
    · rw [if_pos h1]
      by_cases h2 : s.size < o + 10 + byN s o
      · rw [if_pos h2]
        intro hf
        have e := entL_none (s := sfx s o) (by rw [hhd]; omega)
        have hn := hf.1
        rw [e] at hn
        have hn' : (sfx s o).toList = [] := hn
        have : (sfx s o).size = 0 := by rw [sizeD, ← Lib.toList_data, hn']; rfl
        omega
      · rw [if_neg h2]
        have c1 : 0 < ((sfx s o).size : Int) := by omega
        have c2 : hdE (sfx s o) + 10 ≤ ((sfx s o).size : Int) := by rw [hhd]; omega
        by_cases h3 : 2305843009213693951 < leN s (o + 2 + byN s o) 8
        · rw [if_pos h3]
          intro hf
          have hk := ((fine_cons c1 c2).1 hf).1
          have hid := (okN_out hk).2.2
          rw [nmE_sfx] at hid
          have hlt := leN_lt s (o + 2 + byN s o) 8
          unfold wrap64 at hid
          simp only at hid
          omega
        · rw [if_neg h3]
          have ih := refD_law s k (o + 10 + byN s o) (out ++ [mkE s o]) (by omega) (by omega)
          have hm : nmE (sfx s o) = mkE s o := by
            rw [nmE_sfx]
            unfold mkE
            rw [w64 (by omega) (by omega)]
          cases hr : refD s k (o + 10 + byN s o) (out ++ [mkE s o]) with
          | none =>
            rw [hr] at ih
            intro hf
            have := ((fine_cons c1 c2).1 hf).2
            rw [tlE_sfx] at this
            exact ih this
          | some out' =>
            rw [hr] at ih
            obtain ⟨a, b⟩ := ih
            refine ⟨?_, ?_⟩
            · rw [a, entL_some c1 c2, tlE_sfx, List.append_assoc]
              show _ = out ++ (nmE (sfx s o) :: namesE (entL (sfx s (o + 10 + byN s o))))
              rw [hm]; rfl
            · rw [entL_some c1 c2, lastR_cons, tlE_sfx]
              exact b
    · rw [if_neg h1]
      have e := entL_none (s := sfx s o) (by omega)
      refine ⟨by rw [e]; simp [namesE], ?_⟩
      rw [e]
      show (sfx s o).toList = []
      rw [Lib.toList_data, sfx_data, List.drop_of_length_le (by rw [← sizeD]; omega)]
theorem ent_size (n : Nat) : ∀ s : ByteArray, s.size ≤ n → (lastR s (entL s)).toList = [] → sizeN (namesE (entL s)) = s.size := by
  induction n with
  | zero =>
    intro s hs _
    rw [entL_none (fun h => by omega)]
    show 0 = s.size
    omega
  | succ n ih =>
    intro s hs h
    by_cases hc : 0 < (s.size : Int) ∧ hdE s + 10 ≤ (s.size : Int)
    · obtain ⟨c1, c2⟩ := hc
      have hh := hdE_range s
      have ht := tlE_size s
      rw [entL_some c1 c2, lastR_cons] at h
      rw [entL_some c1 c2]
      show sizeN (nmE s :: namesE (entL (tlE s))) = _
      rw [sizeN_cons, ih (tlE s) (by omega) h, ht]
      have hn : (nmE s).f0.size = (hdE s).toNat := by
        show (s.extract 1 (1 + hdE s).toNat).size = _
        rw [ByteArray.size_extract]; omega
      rw [hn]; omega
    · rw [entL_none hc] at h ⊢
      have h' : s.toList = [] := h
      show 0 = s.size
      rw [sizeD, ← Lib.toList_data, h']; rfl
/-- What the two ways make of any bytes. -/
theorem decode_same (s : ByteArray) : ((refDL s).2 = true → decodeL s = ((refDL s).1, 0)) ∧ ((refDL s).2 = false → decodeL s = ([], 2)) := by
  unfold refDL
  by_cases hb : 4096 < s.size
  · rw [if_pos hb]
    refine ⟨fun h => (by cases h), fun _ => decode_not fun h => ?_⟩
    have h1 := ent_size _ s (Nat.le_refl _) h.1
    have h2 := (right_ord h.2).2
    omega
  · rw [if_neg hb]
    have hp := refD_law s (s.size + 1) 0 [] (by omega) (by omega)
    cases hr : refD s (s.size + 1) 0 [] with
    | none =>
      rw [hr] at hp
      refine ⟨fun h => (by cases h), fun _ => decode_not fun h => ?_⟩
      unfold Parsed at hp
      rw [sfx_zero] at hp
      exact hp ⟨h.1, right_ok h.2⟩
    | some out =>
      rw [hr] at hp
      unfold Parsed at hp
      rw [sfx_zero, List.nil_append] at hp
      obtain ⟨rfl, h2⟩ := hp
      constructor
      · intro h; exact decode_yes h2 h
      · intro h
        exact decode_not fun hh => by
          have := hh.2
          have h' : rightL (namesE (entL s)) = false := h
          rw [h'] at this; cases this
end Go.Proofs.YtijnlgmclaphhaaDoor
-- Written by a program of this session (gprint.py, over the kit's printer).
namespace Go.Proofs.YtijnlgmclaphhaaDoorZ
open Go.RowKit Go.Proofs.YtijnlgmclaphhaaDoorW.PrintWords Go.Proofs.YtijnlgmclaphhaaDoorW.PrintLast Go.Proofs.YtijnlgmclaphhaaDoorW.PrintMore
attribute [local go_sem] max2_int min2_int max_two min_two max_three min_three max_four min_four   -- for this text's walks alone
set_option linter.unusedVariables false
set_option linter.unusedSimpArgs false

/-! ### gatehouselaw13_DirBytes: function 5 -/
def gatehouselaw13_DirBytes.j0 : Nat → ByteArray → Bool → Option (Bool)
  | 0, _, _ => none
  | k + 1, x1, x51 => if x51 = true then (some false) else ((dir_Decode.f x1).bind fun bt210 => ((gatehouseref13_Decode.f x1).bind fun bt214 => (if bt214.2 = true then (if bt210.2 = 0 then ((gatehouseref13_Same.f k bt210.1 bt214.1).bind fun t218 => (some t218)) else (some false)) else (if bt210.2 = 2 then (some ((bt210.1.length : Int) == 0)) else (some false)))))
def gatehouselaw13_DirBytes.f (k : Nat) (l0 : List (S25)) (a1 : ByteArray) : Option (Bool) := (gatehouselaw13_lives.f k).bind fun t204 => (if t204 = true then ((gatehouseref13_Right.f k l0).bind fun t205 => ((dir_Encode.f l0).bind fun bt206 => ((dir_Right.f k l0).bind fun t208 => (if (t208 != t205) = true then (gatehouselaw13_DirBytes.j0 k a1 true) else (if ((bt206.2 == 0) != t205) = true then (gatehouselaw13_DirBytes.j0 k a1 true) else (if t205 = true then ((gatehouseref13_Encode.f k l0).bind fun t209 => (gatehouselaw13_DirBytes.j0 k a1 (bt206.1.toList != t209.toList))) else (if bt206.2 = 2 then (if bt206.1.toList = ([] : List UInt8) then (gatehouselaw13_DirBytes.j0 k a1 false) else (gatehouselaw13_DirBytes.j0 k a1 true)) else (gatehouselaw13_DirBytes.j0 k a1 true)))))))) else (some false))
theorem gatehouselaw13_DirBytes.mono_l : ∀ k, (∀ y0 y1, LeO (gatehouselaw13_DirBytes.j0 k y0 y1) (gatehouselaw13_DirBytes.j0 (k + 1) y0 y1))
  | 0 => fun _ _ r h => by simp [gatehouselaw13_DirBytes.j0] at h
  | k + 1 => by
    have ih0 := gatehouselaw13_DirBytes.mono_l k
    · intro y0 y1
      unfold gatehouselaw13_DirBytes.j0
      repeat' first
      | (with_reducible exact ih0 _ _)
      | (with_reducible exact dir_Right.mono _ _)
      | (with_reducible exact gatehouselaw13_lives.mono _)
      | (with_reducible exact gatehouseref13_Encode.mono _ _)
      | (with_reducible exact gatehouseref13_Right.mono _ _)
      | (with_reducible exact gatehouseref13_Same.mono _ _ _)
      | (with_reducible exact LeO.refl _)
      | (with_reducible exact LeO.none _)
      | (with_reducible refine LeO.ite ?_ ?_)
      | (with_reducible refine LeO.bind ?_ (fun _ => ?_))
      | exact ih0 _ _
      | exact dir_Right.mono _ _
      | exact gatehouselaw13_lives.mono _
      | exact gatehouseref13_Encode.mono _ _
      | exact gatehouseref13_Right.mono _ _
      | exact gatehouseref13_Same.mono _ _ _
      | exact LeO.none _
      | refine LeO.ite ?_ ?_
      | refine LeO.bind ?_ (fun _ => ?_)
theorem gatehouselaw13_DirBytes.mono : ∀ a0 a1 k, LeO (gatehouselaw13_DirBytes.f k a0 a1) (gatehouselaw13_DirBytes.f (k + 1) a0 a1) := by
  intro a0 a1 k
  have ih0 := gatehouselaw13_DirBytes.mono_l k
  unfold gatehouselaw13_DirBytes.f
  repeat' first
      | (with_reducible exact ih0 _ _)
      | (with_reducible exact dir_Right.mono _ _)
      | (with_reducible exact gatehouselaw13_lives.mono _)
      | (with_reducible exact gatehouseref13_Encode.mono _ _)
      | (with_reducible exact gatehouseref13_Right.mono _ _)
      | (with_reducible exact gatehouseref13_Same.mono _ _ _)
      | (with_reducible exact LeO.refl _)
      | (with_reducible exact LeO.none _)
      | (with_reducible refine LeO.ite ?_ ?_)
      | (with_reducible refine LeO.bind ?_ (fun _ => ?_))
      | exact ih0 _ _
      | exact dir_Right.mono _ _
      | exact gatehouselaw13_lives.mono _
      | exact gatehouseref13_Encode.mono _ _
      | exact gatehouseref13_Right.mono _ _
      | exact gatehouseref13_Same.mono _ _ _
      | exact LeO.none _
      | refine LeO.ite ?_ ?_
      | refine LeO.bind ?_ (fun _ => ?_)
set_option maxHeartbeats 8000000 in
set_option maxRecDepth 100000 in
theorem gatehouselaw13_DirBytes.calls (k : Nat) (A0 : Option Addr) (c0 : Nat) (l0 : List (S25)) (a1 : ByteArray) (r : Bool) (w : World) (hr0 : Kd.C k25 w A0 l0.length l0) (hc0 : l0.length ≤ c0) (h : gatehouselaw13_DirBytes.f k l0 a1 = some r) :
    Calls Tryd.prog 5 #[.slice A0 l0.length c0, .string a1] w fun e w' => e = .returned (.bool r) ∧ Below w.heap.size w w' := by
  have HR0 := Aside0.mk hr0
  have HC0 := Aside0.mk hc0
  clear hr0 hc0
  have HB := Aside0.mk (Below.refl w.heap.size w)
  have H : ((gatehouselaw13_lives.f k).bind fun t204 => (if t204 = true then ((gatehouseref13_Right.f k l0).bind fun t205 => ((dir_Encode.f l0).bind fun bt206 => ((dir_Right.f k l0).bind fun t208 => (if (t208 != t205) = true then (gatehouselaw13_DirBytes.j0 k a1 true) else (if ((bt206.2 == 0) != t205) = true then (gatehouselaw13_DirBytes.j0 k a1 true) else (if t205 = true then ((gatehouseref13_Encode.f k l0).bind fun t209 => (gatehouselaw13_DirBytes.j0 k a1 (bt206.1.toList != t209.toList))) else (if bt206.2 = 2 then (if bt206.1.toList = ([] : List UInt8) then (gatehouselaw13_DirBytes.j0 k a1 false) else (gatehouselaw13_DirBytes.j0 k a1 true)) else (gatehouselaw13_DirBytes.j0 k a1 true)))))))) else (some false))) = some r := h
  clear h
  replace H := Option.bind_eq_some_iff.mp H
  obtain ⟨t204, A30, H⟩ := H
  replace H : (if t204 = true then ((gatehouseref13_Right.f k l0).bind fun t205 => ((dir_Encode.f l0).bind fun bt206 => ((dir_Right.f k l0).bind fun t208 => (if (t208 != t205) = true then (gatehouselaw13_DirBytes.j0 k a1 true) else (if ((bt206.2 == 0) != t205) = true then (gatehouselaw13_DirBytes.j0 k a1 true) else (if t205 = true then ((gatehouseref13_Encode.f k l0).bind fun t209 => (gatehouselaw13_DirBytes.j0 k a1 (bt206.1.toList != t209.toList))) else (if bt206.2 = 2 then (if bt206.1.toList = ([] : List UInt8) then (gatehouselaw13_DirBytes.j0 k a1 false) else (gatehouselaw13_DirBytes.j0 k a1 true)) else (gatehouselaw13_DirBytes.j0 k a1 true)))))))) else (some false)) = some r := H
  have A3 := Aside0.mk A30
  clear A30
  by_cases c4 : t204 = true
  · subst c4
    have H1 : ((gatehouseref13_Right.f k l0).bind fun t205 => ((dir_Encode.f l0).bind fun bt206 => ((dir_Right.f k l0).bind fun t208 => (if (t208 != t205) = true then (gatehouselaw13_DirBytes.j0 k a1 true) else (if ((bt206.2 == 0) != t205) = true then (gatehouselaw13_DirBytes.j0 k a1 true) else (if t205 = true then ((gatehouseref13_Encode.f k l0).bind fun t209 => (gatehouselaw13_DirBytes.j0 k a1 (bt206.1.toList != t209.toList))) else (if bt206.2 = 2 then (if bt206.1.toList = ([] : List UInt8) then (gatehouselaw13_DirBytes.j0 k a1 false) else (gatehouselaw13_DirBytes.j0 k a1 true)) else (gatehouselaw13_DirBytes.j0 k a1 true)))))))) = some r := by rw [if_pos rfl] at H; exact H
    clear H
    have H := H1
    clear H1
    replace H := Option.bind_eq_some_iff.mp H
    obtain ⟨t205, A50, H⟩ := H
    replace H : ((dir_Encode.f l0).bind fun bt206 => ((dir_Right.f k l0).bind fun t208 => (if (t208 != t205) = true then (gatehouselaw13_DirBytes.j0 k a1 true) else (if ((bt206.2 == 0) != t205) = true then (gatehouselaw13_DirBytes.j0 k a1 true) else (if t205 = true then ((gatehouseref13_Encode.f k l0).bind fun t209 => (gatehouselaw13_DirBytes.j0 k a1 (bt206.1.toList != t209.toList))) else (if bt206.2 = 2 then (if bt206.1.toList = ([] : List UInt8) then (gatehouselaw13_DirBytes.j0 k a1 false) else (gatehouselaw13_DirBytes.j0 k a1 true)) else (gatehouselaw13_DirBytes.j0 k a1 true))))))) = some r := H
    have A5 := Aside0.mk A50
    clear A50
    replace H := Option.bind_eq_some_iff.mp H
    obtain ⟨⟨t206, t207⟩, A60, H⟩ := H
    replace H : ((dir_Right.f k l0).bind fun t208 => (if (t208 != t205) = true then (gatehouselaw13_DirBytes.j0 k a1 true) else (if ((t207 == 0) != t205) = true then (gatehouselaw13_DirBytes.j0 k a1 true) else (if t205 = true then ((gatehouseref13_Encode.f k l0).bind fun t209 => (gatehouselaw13_DirBytes.j0 k a1 (t206.toList != t209.toList))) else (if t207 = 2 then (if t206.toList = ([] : List UInt8) then (gatehouselaw13_DirBytes.j0 k a1 false) else (gatehouselaw13_DirBytes.j0 k a1 true)) else (gatehouselaw13_DirBytes.j0 k a1 true)))))) = some r := H
    have A6 := Aside0.mk A60
    clear A60
    have HC7 := Aside0.mk H
    clear H
    go_enter Tryd.func5, Tryd.ntmps5
    go_upto_region 5 with (first | ((with_reducible refine gate_callee (f := 10) rfl ?_); refine goesL_ (some 12) rfl rfl Tryd.func10 (by kernel_rfl) rfl #[] rfl (by (try simp only [List.map_toArray, List.map_cons, List.map_nil]); first | done | rfl | (simp only [List.length_drop, List.length_take]; rfl)) ?_; (with_reducible refine (gatehouselaw13_lives.calls k  true _ A3.out).mono ?_); rintro e w8 ⟨rfl, hb⟩; refine ⟨_, rfl, ?_⟩; have n0_ := Aside0.mk (below_step (by repeat (first | (with_reducible first | exact HB.out | apply below_alloc | apply pw_below_drewN | apply below_drew1) | exact HB.out)) hb); clear HB; have HB := n0_; clear n0_; (try clear hb); (try clear hb2); (try clear hk); (try clear hi)) | ((with_reducible refine gate_callee (f := 14) rfl ?_); refine goesL_ (some 15) rfl rfl Tryd.func14 (by kernel_rfl) rfl #[.slice A0 l0.length c0] rfl (by (try simp only [List.map_toArray, List.map_cons, List.map_nil]); first | done | rfl | (simp only [List.length_drop, List.length_take]; rfl)) ?_; (with_reducible refine (gatehouseref13_Right.calls k _ _ l0 t205 _ ?side1 ?side2 A5.out).mono ?_); (case side1 => repeat (first | exact (Kd.C_below HR0.out HB.out) | (with_reducible refine Kd.C_alloc ?_ _) | (with_reducible refine Kd.C_drewN ?_ _) | (with_reducible refine Kd.C_drew ?_))); (case side2 => exact HC0.out); rintro e w9 ⟨rfl, hb⟩; refine ⟨_, rfl, ?_⟩; have n0_ := Aside0.mk (below_step (by repeat (first | (with_reducible first | exact HB.out | apply below_alloc | apply pw_below_drewN | apply below_drew1) | exact HB.out)) hb); clear HB; have HB := n0_; clear n0_; (try clear hb); (try clear hb2); (try clear hk); (try clear hi)) | ((with_reducible refine gate_callee (f := 15) rfl ?_); refine goesL_ (some 18) rfl rfl Tryd.func15 (by kernel_rfl) rfl #[.slice A0 l0.length c0] rfl (by (try simp only [List.map_toArray, List.map_cons, List.map_nil]); first | done | rfl | (simp only [List.length_drop, List.length_take]; rfl)) ?_; (with_reducible refine (dir_Encode.calls _ _ l0 t206 t207 _ ?side1 ?side2 A6.out).mono ?_); (case side1 => repeat (first | exact (Kd.C_below HR0.out HB.out) | (with_reducible refine Kd.C_alloc ?_ _) | (with_reducible refine Kd.C_drewN ?_ _) | (with_reducible refine Kd.C_drew ?_))); (case side2 => exact HC0.out); rintro e w10 ⟨rfl, hb⟩; refine ⟨_, rfl, ?_⟩; have n0_ := Aside0.mk (below_step (by repeat (first | (with_reducible first | exact HB.out | apply below_alloc | apply pw_below_drewN | apply below_drew1) | exact HB.out)) hb); clear HB; have HB := n0_; clear n0_; (try clear hb); (try clear hb2); (try clear hk); (try clear hi)))
    (try simp only [Act.put, List.setIfInBounds_toArray, List.set_cons_zero, List.set_cons_succ])
    go_cut [51] (fun v51 wc => ∃ (kq : Nat) (x51_6 : Bool), v51 = .bool x51_6 ∧ Aside0 (gatehouselaw13_DirBytes.j0 kq a1 x51_6 = some r) ∧ Aside0 (kq ≤ k) ∧ Aside0 (Below w.heap.size w wc))
    case first =>
      have H := HC7.out
      clear HC7
      replace H := Option.bind_eq_some_iff.mp H
      obtain ⟨t208, A110, H⟩ := H
      replace H : (if (t208 != t205) = true then (gatehouselaw13_DirBytes.j0 k a1 true) else (if ((t207 == 0) != t205) = true then (gatehouselaw13_DirBytes.j0 k a1 true) else (if t205 = true then ((gatehouseref13_Encode.f k l0).bind fun t209 => (gatehouselaw13_DirBytes.j0 k a1 (t206.toList != t209.toList))) else (if t207 = 2 then (if t206.toList = ([] : List UInt8) then (gatehouselaw13_DirBytes.j0 k a1 false) else (gatehouselaw13_DirBytes.j0 k a1 true)) else (gatehouselaw13_DirBytes.j0 k a1 true))))) = some r := H
      have A11 := Aside0.mk A110
      clear A110
      by_cases c12 : (t208 != t205) = true
      · rw [if_pos c12] at H
        have c12b0 : (t208 != t205) = true := c12
        (try (have c12b1 : decide (t208 = t205) = false := by simpa using c12))
        (try (have c12b2 : (t208 == t205) = false := by simpa using c12))
        (try (have c12b3 : ¬ (t208 = t205) := by simpa using c12))
        clear c12
        (first | rw [c12b0] | (simp only [i64_w, i32_w]; rw [c12b0]) | skip)
        have H' := Aside0.mk H
        clear H
        go_wp2_with (first | ((with_reducible refine gate_callee (f := 13) rfl ?_); refine goesL_ (some 22) rfl rfl Tryd.func13 (by kernel_rfl) rfl #[.slice A0 l0.length c0] rfl (by (try simp only [List.map_toArray, List.map_cons, List.map_nil]); first | done | rfl | (simp only [List.length_drop, List.length_take]; rfl)) ?_; (with_reducible refine (dir_Right.calls k _ _ l0 t208 _ ?side1 ?side2 A11.out).mono ?_); (case side1 => repeat (first | exact (Kd.C_below HR0.out HB.out) | (with_reducible refine Kd.C_alloc ?_ _) | (with_reducible refine Kd.C_drewN ?_ _) | (with_reducible refine Kd.C_drew ?_))); (case side2 => exact HC0.out); rintro e w13 ⟨rfl, hb⟩; refine ⟨_, rfl, ?_⟩; have n0_ := Aside0.mk (below_step (by repeat (first | (with_reducible first | exact HB.out | apply below_alloc | apply pw_below_drewN | apply below_drew1) | exact HB.out)) hb); clear HB; have HB := n0_; clear n0_; (try clear hb); (try clear hb2); (try clear hk); (try clear hi)))
        go_meet
        case rel => exact ⟨_, (true), (by first | rfl | (simp; done) | (simp [*]; done)), H', ⟨by first | omega | exact Nat.le_refl _⟩, ⟨by repeat (first | (with_reducible first | exact HB.out | apply below_alloc | apply pw_below_drewN | apply below_drew1) | exact HB.out)⟩⟩
      · rw [if_neg c12] at H
        have c12b0 : (t208 != t205) = false := by simpa using c12
        (try (have c12b1 : decide (t208 = t205) = true := by simpa using c12))
        (try (have c12b2 : (t208 == t205) = true := by simpa using c12))
        clear c12
        (first | rw [c12b0] | (simp only [i64_w, i32_w]; rw [c12b0]) | skip)
        by_cases c14 : ((t207 == 0) != t205) = true
        · rw [if_pos c14] at H
          have c14b0 : ((t207 == 0) != t205) = true := c14
          (try (have c14b1 : decide ((t207 == 0) = t205) = false := by simpa using c14))
          (try (have c14b2 : ((t207 == 0) == t205) = false := by simpa using c14))
          (try (have c14b3 : ¬ ((t207 == 0) = t205) := by simpa using c14))
          clear c14
          have H' := Aside0.mk H
          clear H
          go_wp2_with (first | ((with_reducible refine gate_callee (f := 13) rfl ?_); refine goesL_ (some 22) rfl rfl Tryd.func13 (by kernel_rfl) rfl #[.slice A0 l0.length c0] rfl (by (try simp only [List.map_toArray, List.map_cons, List.map_nil]); first | done | rfl | (simp only [List.length_drop, List.length_take]; rfl)) ?_; (with_reducible refine (dir_Right.calls k _ _ l0 t208 _ ?side1 ?side2 A11.out).mono ?_); (case side1 => repeat (first | exact (Kd.C_below HR0.out HB.out) | (with_reducible refine Kd.C_alloc ?_ _) | (with_reducible refine Kd.C_drewN ?_ _) | (with_reducible refine Kd.C_drew ?_))); (case side2 => exact HC0.out); rintro e w15 ⟨rfl, hb⟩; refine ⟨_, rfl, ?_⟩; have n0_ := Aside0.mk (below_step (by repeat (first | (with_reducible first | exact HB.out | apply below_alloc | apply pw_below_drewN | apply below_drew1) | exact HB.out)) hb); clear HB; have HB := n0_; clear n0_; (try clear hb); (try clear hb2); (try clear hk); (try clear hi)))
          go_meet
          case rel => exact ⟨_, (true), (by first | rfl | (simp; done) | (simp [*]; done)), H', ⟨by first | omega | exact Nat.le_refl _⟩, ⟨by repeat (first | (with_reducible first | exact HB.out | apply below_alloc | apply pw_below_drewN | apply below_drew1) | exact HB.out)⟩⟩
        · rw [if_neg c14] at H
          have c14b0 : ((t207 == 0) != t205) = false := by simpa using c14
          (try (have c14b1 : decide ((t207 == 0) = t205) = true := by simpa using c14))
          (try (have c14b2 : ((t207 == 0) == t205) = true := by simpa using c14))
          clear c14
          by_cases c16 : t205 = true
          · subst c16
            have H1 : ((gatehouseref13_Encode.f k l0).bind fun t209 => (gatehouselaw13_DirBytes.j0 k a1 (t206.toList != t209.toList))) = some r := by rw [if_pos rfl] at H; exact H
            clear H
            have H := H1
            clear H1
            replace H := Option.bind_eq_some_iff.mp H
            obtain ⟨t209, A170, H⟩ := H
            replace H : (gatehouselaw13_DirBytes.j0 k a1 (t206.toList != t209.toList)) = some r := H
            have A17 := Aside0.mk A170
            clear A170
            have H' := Aside0.mk H
            clear H
            go_wp2_with (first | ((with_reducible refine gate_callee (f := 13) rfl ?_); refine goesL_ (some 22) rfl rfl Tryd.func13 (by kernel_rfl) rfl #[.slice A0 l0.length c0] rfl (by (try simp only [List.map_toArray, List.map_cons, List.map_nil]); first | done | rfl | (simp only [List.length_drop, List.length_take]; rfl)) ?_; (with_reducible refine (dir_Right.calls k _ _ l0 t208 _ ?side1 ?side2 A11.out).mono ?_); (case side1 => repeat (first | exact (Kd.C_below HR0.out HB.out) | (with_reducible refine Kd.C_alloc ?_ _) | (with_reducible refine Kd.C_drewN ?_ _) | (with_reducible refine Kd.C_drew ?_))); (case side2 => exact HC0.out); rintro e w18 ⟨rfl, hb⟩; refine ⟨_, rfl, ?_⟩; have n0_ := Aside0.mk (below_step (by repeat (first | (with_reducible first | exact HB.out | apply below_alloc | apply pw_below_drewN | apply below_drew1) | exact HB.out)) hb); clear HB; have HB := n0_; clear n0_; (try clear hb); (try clear hb2); (try clear hk); (try clear hi)) | (go_at_call 16; (with_reducible refine (gatehouseref13_Encode.calls k _ _ l0 t209 _ ?side1 ?side2 A17.out).mono ?_); (case side1 => repeat (first | exact (Kd.C_below HR0.out HB.out) | (with_reducible refine Kd.C_alloc ?_ _) | (with_reducible refine Kd.C_drewN ?_ _) | (with_reducible refine Kd.C_drew ?_))); (case side2 => exact HC0.out); rintro e w19 ⟨rfl, hb⟩; have n0_ := Aside0.mk (below_step (by repeat (first | (with_reducible first | exact HB.out | apply below_alloc | apply pw_below_drewN | apply below_drew1) | exact HB.out)) hb); clear HB; have HB := n0_; clear n0_; (try clear hb); (try clear hb2); (try clear hk); (try clear hi)))
            go_meet
            case rel => exact ⟨_, ((t206.toList != t209.toList)), (by first | rfl | (simp; done) | (simp [*]; done)), H', ⟨by first | omega | exact Nat.le_refl _⟩, ⟨by repeat (first | (with_reducible first | exact HB.out | apply below_alloc | apply pw_below_drewN | apply below_drew1) | exact HB.out)⟩⟩
          · replace c16 := Bool.eq_false_iff.mpr c16
            subst c16
            have H1 : (if t207 = 2 then (if t206.toList = ([] : List UInt8) then (gatehouselaw13_DirBytes.j0 k a1 false) else (gatehouselaw13_DirBytes.j0 k a1 true)) else (gatehouselaw13_DirBytes.j0 k a1 true)) = some r := by rw [if_neg (show ¬ (false = true) by decide)] at H; exact H
            clear H
            have H := H1
            clear H1
            by_cases c20 : t207 = 2
            · rw [if_pos c20] at H
              have c20b0 : (t207 == 2) = true := beq_iff_eq.mpr c20
              have c20b1 : (t207 != 2) = false := bne_eq_false_iff_eq.mpr c20
              clear c20
              by_cases c21 : t206.toList = ([] : List UInt8)
              · rw [if_pos c21] at H
                have c21b0 : (t206.toList == ([] : List UInt8)) = true := beq_iff_eq.mpr c21
                have c21b1 : (t206.toList != ([] : List UInt8)) = false := bne_eq_false_iff_eq.mpr c21
                clear c21
                have H' := Aside0.mk H
                clear H
                go_wp2_with (first | ((with_reducible refine gate_callee (f := 13) rfl ?_); refine goesL_ (some 22) rfl rfl Tryd.func13 (by kernel_rfl) rfl #[.slice A0 l0.length c0] rfl (by (try simp only [List.map_toArray, List.map_cons, List.map_nil]); first | done | rfl | (simp only [List.length_drop, List.length_take]; rfl)) ?_; (with_reducible refine (dir_Right.calls k _ _ l0 t208 _ ?side1 ?side2 A11.out).mono ?_); (case side1 => repeat (first | exact (Kd.C_below HR0.out HB.out) | (with_reducible refine Kd.C_alloc ?_ _) | (with_reducible refine Kd.C_drewN ?_ _) | (with_reducible refine Kd.C_drew ?_))); (case side2 => exact HC0.out); rintro e w22 ⟨rfl, hb⟩; refine ⟨_, rfl, ?_⟩; have n0_ := Aside0.mk (below_step (by repeat (first | (with_reducible first | exact HB.out | apply below_alloc | apply pw_below_drewN | apply below_drew1) | exact HB.out)) hb); clear HB; have HB := n0_; clear n0_; (try clear hb); (try clear hb2); (try clear hk); (try clear hi)))
                go_meet
                case rel => exact ⟨_, (false), (by first | rfl | (simp; done) | (simp [*]; done)), H', ⟨by first | omega | exact Nat.le_refl _⟩, ⟨by repeat (first | (with_reducible first | exact HB.out | apply below_alloc | apply pw_below_drewN | apply below_drew1) | exact HB.out)⟩⟩
              · rw [if_neg c21] at H
                have c21b0 : (t206.toList == ([] : List UInt8)) = false := beq_eq_false_iff_ne.mpr c21
                have c21b1 : (t206.toList != ([] : List UInt8)) = true := bne_iff_ne.mpr c21
                have H' := Aside0.mk H
                clear H
                go_wp2_with (first | ((with_reducible refine gate_callee (f := 13) rfl ?_); refine goesL_ (some 22) rfl rfl Tryd.func13 (by kernel_rfl) rfl #[.slice A0 l0.length c0] rfl (by (try simp only [List.map_toArray, List.map_cons, List.map_nil]); first | done | rfl | (simp only [List.length_drop, List.length_take]; rfl)) ?_; (with_reducible refine (dir_Right.calls k _ _ l0 t208 _ ?side1 ?side2 A11.out).mono ?_); (case side1 => repeat (first | exact (Kd.C_below HR0.out HB.out) | (with_reducible refine Kd.C_alloc ?_ _) | (with_reducible refine Kd.C_drewN ?_ _) | (with_reducible refine Kd.C_drew ?_))); (case side2 => exact HC0.out); rintro e w23 ⟨rfl, hb⟩; refine ⟨_, rfl, ?_⟩; have n0_ := Aside0.mk (below_step (by repeat (first | (with_reducible first | exact HB.out | apply below_alloc | apply pw_below_drewN | apply below_drew1) | exact HB.out)) hb); clear HB; have HB := n0_; clear n0_; (try clear hb); (try clear hb2); (try clear hk); (try clear hi)))
                go_meet
                case rel => exact ⟨_, (true), (by first | rfl | (simp; done) | (simp [*]; done)), H', ⟨by first | omega | exact Nat.le_refl _⟩, ⟨by repeat (first | (with_reducible first | exact HB.out | apply below_alloc | apply pw_below_drewN | apply below_drew1) | exact HB.out)⟩⟩
            · rw [if_neg c20] at H
              have c20b0 : (t207 == 2) = false := beq_eq_false_iff_ne.mpr c20
              have c20b1 : (t207 != 2) = true := bne_iff_ne.mpr c20
              have H' := Aside0.mk H
              clear H
              go_wp2_with (first | ((with_reducible refine gate_callee (f := 13) rfl ?_); refine goesL_ (some 22) rfl rfl Tryd.func13 (by kernel_rfl) rfl #[.slice A0 l0.length c0] rfl (by (try simp only [List.map_toArray, List.map_cons, List.map_nil]); first | done | rfl | (simp only [List.length_drop, List.length_take]; rfl)) ?_; (with_reducible refine (dir_Right.calls k _ _ l0 t208 _ ?side1 ?side2 A11.out).mono ?_); (case side1 => repeat (first | exact (Kd.C_below HR0.out HB.out) | (with_reducible refine Kd.C_alloc ?_ _) | (with_reducible refine Kd.C_drewN ?_ _) | (with_reducible refine Kd.C_drew ?_))); (case side2 => exact HC0.out); rintro e w24 ⟨rfl, hb⟩; refine ⟨_, rfl, ?_⟩; have n0_ := Aside0.mk (below_step (by repeat (first | (with_reducible first | exact HB.out | apply below_alloc | apply pw_below_drewN | apply below_drew1) | exact HB.out)) hb); clear HB; have HB := n0_; clear n0_; (try clear hb); (try clear hb2); (try clear hk); (try clear hi)))
              go_meet
              case rel => exact ⟨_, (true), (by first | rfl | (simp; done) | (simp [*]; done)), H', ⟨by first | omega | exact Nat.le_refl _⟩, ⟨by repeat (first | (with_reducible first | exact HB.out | apply below_alloc | apply pw_below_drewN | apply below_drew1) | exact HB.out)⟩⟩
    case rest =>
      clear HC7
      try clear c1
      try clear c2
      try clear p2
      try clear c4
      try clear c5
      try clear c10
      try clear c12
      try clear c12b0
      try clear c12b1
      try clear c12b2
      try clear c13
      try clear c14
      try clear c14b0
      try clear c14b1
      try clear c14b2
      try clear c15
      try clear c16
      try clear c20
      try clear c20b0
      try clear c20b1
      try clear c21
      try clear c21b0
      try clear c21b1
      obtain ⟨kq, x51_6, rfl, HA, HJ6, HB⟩ := hcut
      cases kq with
      | zero => exact absurd HA.out (by simp [gatehouselaw13_DirBytes.j0])
      | succ kj6 =>
        have H := HA.out
        clear HA
        simp only [gatehouselaw13_DirBytes.j0] at H
        by_cases c25 : x51_6 = true
        · subst c25
          have H1 : (some false) = some r := by rw [if_pos rfl] at H; exact H
          clear H
          have H := H1
          clear H1
          obtain rfl := Option.some.inj H
          go_wp2
          go_ret
          exact ⟨by first | rfl | (simp [errW_none, errW_some] <;> rfl) | (simp [*, errW_none, errW_some] <;> rfl), by repeat (first | (with_reducible first | exact HB.out | apply below_alloc | apply pw_below_drewN | apply below_drew1) | exact HB.out)⟩
        · replace c25 := Bool.eq_false_iff.mpr c25
          subst c25
          have H1 : ((dir_Decode.f a1).bind fun bt210 => ((gatehouseref13_Decode.f a1).bind fun bt214 => (if bt214.2 = true then (if bt210.2 = 0 then ((gatehouseref13_Same.f kj6 bt210.1 bt214.1).bind fun t218 => (some t218)) else (some false)) else (if bt210.2 = 2 then (some ((bt210.1.length : Int) == 0)) else (some false))))) = some r := by rw [if_neg (show ¬ (false = true) by decide)] at H; exact H
          clear H
          have H := H1
          clear H1
          replace H := Option.bind_eq_some_iff.mp H
          obtain ⟨⟨t210, t211⟩, A260, H⟩ := H
          replace H : ((gatehouseref13_Decode.f a1).bind fun bt214 => (if bt214.2 = true then (if t211 = 0 then ((gatehouseref13_Same.f kj6 t210 bt214.1).bind fun t218 => (some t218)) else (some false)) else (if t211 = 2 then (some ((t210.length : Int) == 0)) else (some false)))) = some r := H
          have A26 := Aside0.mk A260
          clear A260
          replace H := Option.bind_eq_some_iff.mp H
          obtain ⟨⟨t214, t215⟩, A270, H⟩ := H
          replace H : (if t215 = true then (if t211 = 0 then ((gatehouseref13_Same.f kj6 t210 t214).bind fun t218 => (some t218)) else (some false)) else (if t211 = 2 then (some ((t210.length : Int) == 0)) else (some false))) = some r := H
          have A27 := Aside0.mk A270
          clear A270
          by_cases c28 : t215 = true
          · subst c28
            have H1 : (if t211 = 0 then ((gatehouseref13_Same.f kj6 t210 t214).bind fun t218 => (some t218)) else (some false)) = some r := by rw [if_pos rfl] at H; exact H
            clear H
            have H := H1
            clear H1
            by_cases c29 : t211 = 0
            · rw [if_pos c29] at H
              have c29b0 : (t211 == 0) = true := beq_iff_eq.mpr c29
              have c29b1 : (t211 != 0) = false := bne_eq_false_iff_eq.mpr c29
              clear c29
              replace H := Option.bind_eq_some_iff.mp H
              obtain ⟨t218, A300, H⟩ := H
              replace H : (some t218) = some r := H
              have A30 := Aside0.mk A300
              clear A300
              obtain rfl := Option.some.inj H
              go_wp2_with (first | ((with_reducible refine gate_callee (f := 17) rfl ?_); refine goesL_ (some 54) rfl rfl Tryd.func17 (by kernel_rfl) rfl #[.string a1] rfl (by (try simp only [List.map_toArray, List.map_cons, List.map_nil]); first | done | rfl | (simp only [List.length_drop, List.length_take]; rfl)) ?_; (with_reducible refine (dir_Decode.calls a1 t210 t211 _ A26.out).mono ?_); rintro e w31 ⟨v212, rfl, ho0, hb⟩; refine ⟨_, rfl, ?_⟩; have n0_ := Aside0.mk (Kd.R_lower ho0 (below_size (by repeat (first | (with_reducible first | exact HB.out | apply below_alloc | apply pw_below_drewN | apply below_drew1) | exact HB.out)))); have n1_ := Aside0.mk (below_step (by repeat (first | (with_reducible first | exact HB.out | apply below_alloc | apply pw_below_drewN | apply below_drew1) | exact HB.out)) hb); clear HB; have HO213 := n0_; have HB := n1_; clear n0_ n1_; (try clear hb); (try clear hb2); (try clear hk); (try clear hi); (try clear ho0)) | ((with_reducible refine gate_callee (f := 18) rfl ?_); refine goesL_ (some 59) rfl rfl Tryd.func18 (by kernel_rfl) rfl #[.string a1] rfl (by (try simp only [List.map_toArray, List.map_cons, List.map_nil]); first | done | rfl | (simp only [List.length_drop, List.length_take]; rfl)) ?_; (with_reducible refine (gatehouseref13_Decode.calls a1 t214 true _ A27.out).mono ?_); rintro e w32 ⟨v216, rfl, ho0, hb⟩; refine ⟨_, rfl, ?_⟩; have n0_ := Aside0.mk (Kd.R_elder' (by (with_reducible repeat (first | apply Kd.R_alloc | apply Kd.R_drewN | apply Kd.R_drew)); exact HO213.out) (Kd.R_base ho0) hb); have n1_ := Aside0.mk (Kd.R_lower (Kd.R_new' ho0 (Kd.R_lt (by (with_reducible repeat (first | apply Kd.R_alloc | apply Kd.R_drewN | apply Kd.R_drew)); exact HO213.out))) (below_size (by repeat (first | (with_reducible first | exact HB.out | apply below_alloc | apply pw_below_drewN | apply below_drew1) | exact HB.out)))); have n2_ := Aside0.mk (below_step (by repeat (first | (with_reducible first | exact HB.out | apply below_alloc | apply pw_below_drewN | apply below_drew1) | exact HB.out)) hb); clear HO213; clear HB; have HO213 := n0_; have HO217 := n1_; have HB := n2_; clear n0_ n1_ n2_; (try clear hb); (try clear hb2); (try clear hk); (try clear hi); (try clear ho0); obtain ⟨Ao33, co33, eo33⟩ := Kd.R_slice HO213.out; subst eo33; obtain ⟨Ao34, co34, eo34⟩ := Kd.R_slice HO217.out; subst eo34) | (go_at_call 12; (with_reducible refine (gatehouseref13_Same.calls kj6 _ _ t210 _ _ t214 t218 _ ?side1 ?side2 ?side3 ?side4 A30.out).mono ?_); (case side1 => repeat (first | exact (Kd.R_reads' HO213.out).2.2 | (with_reducible refine Kd.C_alloc ?_ _) | (with_reducible refine Kd.C_drewN ?_ _) | (with_reducible refine Kd.C_drew ?_))); (case side2 => exact (Kd.R_reads' HO213.out).2.1); (case side3 => repeat (first | exact (Kd.R_reads' HO217.out).2.2 | (with_reducible refine Kd.C_alloc ?_ _) | (with_reducible refine Kd.C_drewN ?_ _) | (with_reducible refine Kd.C_drew ?_))); (case side4 => exact (Kd.R_reads' HO217.out).2.1); rintro e w' ⟨rfl, ⟨nd, rfl⟩⟩))
              go_ret
              exact ⟨by first | rfl | (simp [errW_none, errW_some] <;> rfl) | (simp [*, errW_none, errW_some] <;> rfl), by repeat (first | (with_reducible first | exact HB.out | apply below_alloc | apply pw_below_drewN | apply below_drew1) | exact HB.out)⟩
            · rw [if_neg c29] at H
              have c29b0 : (t211 == 0) = false := beq_eq_false_iff_ne.mpr c29
              have c29b1 : (t211 != 0) = true := bne_iff_ne.mpr c29
              obtain rfl := Option.some.inj H
              go_wp2_with (first | ((with_reducible refine gate_callee (f := 17) rfl ?_); refine goesL_ (some 54) rfl rfl Tryd.func17 (by kernel_rfl) rfl #[.string a1] rfl (by (try simp only [List.map_toArray, List.map_cons, List.map_nil]); first | done | rfl | (simp only [List.length_drop, List.length_take]; rfl)) ?_; (with_reducible refine (dir_Decode.calls a1 t210 t211 _ A26.out).mono ?_); rintro e w35 ⟨v212, rfl, ho0, hb⟩; refine ⟨_, rfl, ?_⟩; have n0_ := Aside0.mk (Kd.R_lower ho0 (below_size (by repeat (first | (with_reducible first | exact HB.out | apply below_alloc | apply pw_below_drewN | apply below_drew1) | exact HB.out)))); have n1_ := Aside0.mk (below_step (by repeat (first | (with_reducible first | exact HB.out | apply below_alloc | apply pw_below_drewN | apply below_drew1) | exact HB.out)) hb); clear HB; have HO213 := n0_; have HB := n1_; clear n0_ n1_; (try clear hb); (try clear hb2); (try clear hk); (try clear hi); (try clear ho0)) | ((with_reducible refine gate_callee (f := 18) rfl ?_); refine goesL_ (some 59) rfl rfl Tryd.func18 (by kernel_rfl) rfl #[.string a1] rfl (by (try simp only [List.map_toArray, List.map_cons, List.map_nil]); first | done | rfl | (simp only [List.length_drop, List.length_take]; rfl)) ?_; (with_reducible refine (gatehouseref13_Decode.calls a1 t214 true _ A27.out).mono ?_); rintro e w36 ⟨v216, rfl, ho0, hb⟩; refine ⟨_, rfl, ?_⟩; have n0_ := Aside0.mk (Kd.R_elder' (by (with_reducible repeat (first | apply Kd.R_alloc | apply Kd.R_drewN | apply Kd.R_drew)); exact HO213.out) (Kd.R_base ho0) hb); have n1_ := Aside0.mk (Kd.R_lower (Kd.R_new' ho0 (Kd.R_lt (by (with_reducible repeat (first | apply Kd.R_alloc | apply Kd.R_drewN | apply Kd.R_drew)); exact HO213.out))) (below_size (by repeat (first | (with_reducible first | exact HB.out | apply below_alloc | apply pw_below_drewN | apply below_drew1) | exact HB.out)))); have n2_ := Aside0.mk (below_step (by repeat (first | (with_reducible first | exact HB.out | apply below_alloc | apply pw_below_drewN | apply below_drew1) | exact HB.out)) hb); clear HO213; clear HB; have HO213 := n0_; have HO217 := n1_; have HB := n2_; clear n0_ n1_ n2_; (try clear hb); (try clear hb2); (try clear hk); (try clear hi); (try clear ho0)))
              go_ret
              exact ⟨by first | rfl | (simp [errW_none, errW_some] <;> rfl) | (simp [*, errW_none, errW_some] <;> rfl), by repeat (first | (with_reducible first | exact HB.out | apply below_alloc | apply pw_below_drewN | apply below_drew1) | exact HB.out)⟩
          · replace c28 := Bool.eq_false_iff.mpr c28
            subst c28
            have H1 : (if t211 = 2 then (some ((t210.length : Int) == 0)) else (some false)) = some r := by rw [if_neg (show ¬ (false = true) by decide)] at H; exact H
            clear H
            have H := H1
            clear H1
            by_cases c37 : t211 = 2
            · rw [if_pos c37] at H
              have c37b0 : (t211 == 2) = true := beq_iff_eq.mpr c37
              have c37b1 : (t211 != 2) = false := bne_eq_false_iff_eq.mpr c37
              clear c37
              obtain rfl := Option.some.inj H
              go_wp2_with (first | ((with_reducible refine gate_callee (f := 17) rfl ?_); refine goesL_ (some 54) rfl rfl Tryd.func17 (by kernel_rfl) rfl #[.string a1] rfl (by (try simp only [List.map_toArray, List.map_cons, List.map_nil]); first | done | rfl | (simp only [List.length_drop, List.length_take]; rfl)) ?_; (with_reducible refine (dir_Decode.calls a1 t210 t211 _ A26.out).mono ?_); rintro e w38 ⟨v212, rfl, ho0, hb⟩; refine ⟨_, rfl, ?_⟩; have n0_ := Aside0.mk (Kd.R_lower ho0 (below_size (by repeat (first | (with_reducible first | exact HB.out | apply below_alloc | apply pw_below_drewN | apply below_drew1) | exact HB.out)))); have n1_ := Aside0.mk (below_step (by repeat (first | (with_reducible first | exact HB.out | apply below_alloc | apply pw_below_drewN | apply below_drew1) | exact HB.out)) hb); clear HB; have HO213 := n0_; have HB := n1_; clear n0_ n1_; (try clear hb); (try clear hb2); (try clear hk); (try clear hi); (try clear ho0)) | ((with_reducible refine gate_callee (f := 18) rfl ?_); refine goesL_ (some 59) rfl rfl Tryd.func18 (by kernel_rfl) rfl #[.string a1] rfl (by (try simp only [List.map_toArray, List.map_cons, List.map_nil]); first | done | rfl | (simp only [List.length_drop, List.length_take]; rfl)) ?_; (with_reducible refine (gatehouseref13_Decode.calls a1 t214 false _ A27.out).mono ?_); rintro e w39 ⟨v216, rfl, ho0, hb⟩; refine ⟨_, rfl, ?_⟩; have n0_ := Aside0.mk (Kd.R_elder' (by (with_reducible repeat (first | apply Kd.R_alloc | apply Kd.R_drewN | apply Kd.R_drew)); exact HO213.out) (Kd.R_base ho0) hb); have n1_ := Aside0.mk (Kd.R_lower (Kd.R_new' ho0 (Kd.R_lt (by (with_reducible repeat (first | apply Kd.R_alloc | apply Kd.R_drewN | apply Kd.R_drew)); exact HO213.out))) (below_size (by repeat (first | (with_reducible first | exact HB.out | apply below_alloc | apply pw_below_drewN | apply below_drew1) | exact HB.out)))); have n2_ := Aside0.mk (below_step (by repeat (first | (with_reducible first | exact HB.out | apply below_alloc | apply pw_below_drewN | apply below_drew1) | exact HB.out)) hb); clear HO213; clear HB; have HO213 := n0_; have HO217 := n1_; have HB := n2_; clear n0_ n1_ n2_; (try clear hb); (try clear hb2); (try clear hk); (try clear hi); (try clear ho0); obtain ⟨Ao40, co40, eo40⟩ := Kd.R_slice HO213.out; subst eo40))
              go_ret
              exact ⟨by first | rfl | (simp [errW_none, errW_some] <;> rfl) | (simp [*, errW_none, errW_some] <;> rfl), by repeat (first | (with_reducible first | exact HB.out | apply below_alloc | apply pw_below_drewN | apply below_drew1) | exact HB.out)⟩
            · rw [if_neg c37] at H
              have c37b0 : (t211 == 2) = false := beq_eq_false_iff_ne.mpr c37
              have c37b1 : (t211 != 2) = true := bne_iff_ne.mpr c37
              obtain rfl := Option.some.inj H
              go_wp2_with (first | ((with_reducible refine gate_callee (f := 17) rfl ?_); refine goesL_ (some 54) rfl rfl Tryd.func17 (by kernel_rfl) rfl #[.string a1] rfl (by (try simp only [List.map_toArray, List.map_cons, List.map_nil]); first | done | rfl | (simp only [List.length_drop, List.length_take]; rfl)) ?_; (with_reducible refine (dir_Decode.calls a1 t210 t211 _ A26.out).mono ?_); rintro e w41 ⟨v212, rfl, ho0, hb⟩; refine ⟨_, rfl, ?_⟩; have n0_ := Aside0.mk (Kd.R_lower ho0 (below_size (by repeat (first | (with_reducible first | exact HB.out | apply below_alloc | apply pw_below_drewN | apply below_drew1) | exact HB.out)))); have n1_ := Aside0.mk (below_step (by repeat (first | (with_reducible first | exact HB.out | apply below_alloc | apply pw_below_drewN | apply below_drew1) | exact HB.out)) hb); clear HB; have HO213 := n0_; have HB := n1_; clear n0_ n1_; (try clear hb); (try clear hb2); (try clear hk); (try clear hi); (try clear ho0)) | ((with_reducible refine gate_callee (f := 18) rfl ?_); refine goesL_ (some 59) rfl rfl Tryd.func18 (by kernel_rfl) rfl #[.string a1] rfl (by (try simp only [List.map_toArray, List.map_cons, List.map_nil]); first | done | rfl | (simp only [List.length_drop, List.length_take]; rfl)) ?_; (with_reducible refine (gatehouseref13_Decode.calls a1 t214 false _ A27.out).mono ?_); rintro e w42 ⟨v216, rfl, ho0, hb⟩; refine ⟨_, rfl, ?_⟩; have n0_ := Aside0.mk (Kd.R_elder' (by (with_reducible repeat (first | apply Kd.R_alloc | apply Kd.R_drewN | apply Kd.R_drew)); exact HO213.out) (Kd.R_base ho0) hb); have n1_ := Aside0.mk (Kd.R_lower (Kd.R_new' ho0 (Kd.R_lt (by (with_reducible repeat (first | apply Kd.R_alloc | apply Kd.R_drewN | apply Kd.R_drew)); exact HO213.out))) (below_size (by repeat (first | (with_reducible first | exact HB.out | apply below_alloc | apply pw_below_drewN | apply below_drew1) | exact HB.out)))); have n2_ := Aside0.mk (below_step (by repeat (first | (with_reducible first | exact HB.out | apply below_alloc | apply pw_below_drewN | apply below_drew1) | exact HB.out)) hb); clear HO213; clear HB; have HO213 := n0_; have HO217 := n1_; have HB := n2_; clear n0_ n1_ n2_; (try clear hb); (try clear hb2); (try clear hk); (try clear hi); (try clear ho0)))
              go_ret
              exact ⟨by first | rfl | (simp [errW_none, errW_some] <;> rfl) | (simp [*, errW_none, errW_some] <;> rfl), by repeat (first | (with_reducible first | exact HB.out | apply below_alloc | apply pw_below_drewN | apply below_drew1) | exact HB.out)⟩
  · replace c4 := Bool.eq_false_iff.mpr c4
    subst c4
    have H1 : (some false) = some r := by rw [if_neg (show ¬ (false = true) by decide)] at H; exact H
    clear H
    have H := H1
    clear H1
    obtain rfl := Option.some.inj H
    go_enter Tryd.func5, Tryd.ntmps5
    go_wp2_with (first | ((with_reducible refine gate_callee (f := 10) rfl ?_); refine goesL_ (some 12) rfl rfl Tryd.func10 (by kernel_rfl) rfl #[] rfl (by (try simp only [List.map_toArray, List.map_cons, List.map_nil]); first | done | rfl | (simp only [List.length_drop, List.length_take]; rfl)) ?_; (with_reducible refine (gatehouselaw13_lives.calls k  false _ A3.out).mono ?_); rintro e w43 ⟨rfl, hb⟩; refine ⟨_, rfl, ?_⟩; have n0_ := Aside0.mk (below_step (by repeat (first | (with_reducible first | exact HB.out | apply below_alloc | apply pw_below_drewN | apply below_drew1) | exact HB.out)) hb); clear HB; have HB := n0_; clear n0_; (try clear hb); (try clear hb2); (try clear hk); (try clear hi)))
    go_ret
    exact ⟨by first | rfl | (simp [errW_none, errW_some] <;> rfl) | (simp [*, errW_none, errW_some] <;> rfl), by repeat (first | (with_reducible first | exact HB.out | apply below_alloc | apply pw_below_drewN | apply below_drew1) | exact HB.out)⟩

end Go.Proofs.YtijnlgmclaphhaaDoorZ
namespace Go.Proofs.YtijnlgmclaphhaaDoor
open Go Go.RowKit Go.Proofs.YtijnlgmclaphhaaDoorZ Go.Proofs.YtijnlgmclaphhaaDoorW.PrintWords

theorem bytes_j0 (s : ByteArray) (hs : s.size ≤ 1099511627776) (k : Nat) (hk : 5000 < k) : gatehouselaw13_DirBytes.j0 k s false = some true := by
  obtain ⟨k, rfl⟩ : ∃ q, k = q + 1 := ⟨k - 1, by omega⟩
  have e1 : dir_Decode.f s = some (decodeL s) := by unfold dir_Decode.f; rw [if_pos hs]
  have e2 : gatehouseref13_Decode.f s = some (refDL s) := rfl
  obtain ⟨d1, d2⟩ := decode_same s
  rw [gatehouselaw13_DirBytes.j0, if_neg (by simp), e1, Option.bind_some, e2, Option.bind_some]
  cases hq : (refDL s).2 with
  | true =>
    have hd := d1 hq
    have hr : (refDL s).1.length ≤ 409 := by
      have : rightL (decodeL s).1 = true := by
        unfold decodeL
        split
        · rename_i h; exact h.2
        · rfl
      rw [hd] at this
      exact right_len this
    rw [hd, if_pos rfl, if_pos rfl, same_f _ _ (by show (refDL s).1.length ≤ _; omega) k (by show (refDL s).1.length < k; omega), Option.bind_some, sameL_self]
  | false =>
    have hd := d2 hq
    rw [hd, if_neg (by simp), if_pos rfl]; rfl
theorem dirBytes_pure (l : List Nm) (s : ByteArray) (hl : l.length ≤ 4398046511104) (hs : s.size ≤ 1099511627776) : ∃ k, gatehouselaw13_DirBytes.f k l s = some true := by
  refine ⟨2 * l.length + 10000, ?_⟩
  have e : dir_Encode.f l = some (encodeL l) := by unfold dir_Encode.f; rw [if_pos hl]
  unfold gatehouselaw13_DirBytes.f
  rw [lives_f _ (by omega), Option.bind_some, if_pos rfl, rRight_f l hl _ (by omega), Option.bind_some, e, Option.bind_some, Right_f l hl _ (by omega), Option.bind_some, if_neg (by simp)]
  cases hr : rightL l with
  | true =>
    rw [encode_yes hr, if_neg (by simp), if_pos rfl, rEnc_f l hr _ (by omega), Option.bind_some]
    show gatehouselaw13_DirBytes.j0 _ s ((⟨(encL l).toArray⟩ : ByteArray).toList != (⟨(encL l).toArray⟩ : ByteArray).toList) = _
    rw [bne_self_eq_false]
    exact bytes_j0 s hs _ (by omega)
  | false =>
    rw [encode_no hr, if_neg (by simp), if_neg (by simp), if_pos rfl, if_pos (by rw [Lib.toList_data])]
    exact bytes_j0 s hs _ (by omega)
end Go.Proofs.YtijnlgmclaphhaaDoor
