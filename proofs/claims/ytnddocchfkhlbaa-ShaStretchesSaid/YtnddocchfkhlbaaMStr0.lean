import Derived.Test.YtnddocchfkhlbaaZ0
import Derived.Test.YtnddocchfkhlbaaZG
import Derived.Test.YtnddocchfkhlbaaZS
import Derived.OpenShut
-- Written by a program of this session (gprint.py, over the kit's printer).
namespace Go.Proofs.YtnddocchfkhlbaaZ
open Go.RowKit Go.Proofs.YtnddocchfkhlbaaW.PrintWords Go.Proofs.YtnddocchfkhlbaaW.PrintLast Go.Proofs.YtnddocchfkhlbaaW.PrintMore
attribute [local go_sem] max2_int min2_int max_two min_two max_three min_three max_four min_four   -- for this text's walks alone
set_option linter.unusedVariables false
set_option linter.unusedSimpArgs false

/-! ### numbers_Text: function 31 -/
mutual
def numbers_Text.l0 : Nat → List Int → List Int → Int → Int → Option (ByteArray)
  | 0, _, _, _, _ => none
  | k + 1, x3, x7, x8, x9 => if x9 < x8 then (if 0 ≤ x9 then (if x9 < (x7.length : Int) then (numbers_Text.l1 k x3 (rd x7 x9) x7 x8 x9 0) else (none)) else (none)) else (some (strOfNums x3))
def numbers_Text.l1 : Nat → List Int → Int → List Int → Int → Int → Int → Option (ByteArray)
  | 0, _, _, _, _, _, _ => none
  | k + 1, x3, x5, x7, x8, x9, x13 => if x13 < 8 then (if 0 ≤ (wrap64 (8 * x13)) then (if x3.length < 140737488355328 then (numbers_Text.l1 k (x3 ++ [(shr .i64 x5 (wrap64 (8 * x13))) % 256]) x5 x7 x8 x9 (wrap64 (x13 + 1))) else (none)) else (none)) else (numbers_Text.l0 k x3 x7 x8 (wrap64 (x9 + 1)))
end
def numbers_Text.f (k : Nat) (l0 : List Int) : Option (ByteArray) := numbers_Text.l0 k ([] : List Int) l0 (l0.length : Int) 0
theorem numbers_Text.mono_l : ∀ k, (∀ y0 y1 y2 y3, LeO (numbers_Text.l0 k y0 y1 y2 y3) (numbers_Text.l0 (k + 1) y0 y1 y2 y3)) ∧ (∀ y0 y1 y2 y3 y4 y5, LeO (numbers_Text.l1 k y0 y1 y2 y3 y4 y5) (numbers_Text.l1 (k + 1) y0 y1 y2 y3 y4 y5))
  | 0 => ⟨fun _ _ _ _ r h => by simp [numbers_Text.l0] at h, fun _ _ _ _ _ _ r h => by simp [numbers_Text.l1] at h⟩
  | k + 1 => by
    obtain ⟨ih0, ih1⟩ := numbers_Text.mono_l k
    refine ⟨?_, ?_⟩
    · intro y0 y1 y2 y3
      unfold numbers_Text.l0
      repeat' first
      | (with_reducible exact ih0 _ _ _ _)
      | (with_reducible exact ih1 _ _ _ _ _ _)
      | (with_reducible exact LeO.refl _)
      | (with_reducible exact LeO.none _)
      | (with_reducible refine LeO.ite ?_ ?_)
      | (with_reducible refine LeO.bind ?_ (fun _ => ?_))
      | exact ih0 _ _ _ _
      | exact ih1 _ _ _ _ _ _
      | exact LeO.none _
      | refine LeO.ite ?_ ?_
      | refine LeO.bind ?_ (fun _ => ?_)
    · intro y0 y1 y2 y3 y4 y5
      unfold numbers_Text.l1
      repeat' first
      | (with_reducible exact ih0 _ _ _ _)
      | (with_reducible exact ih1 _ _ _ _ _ _)
      | (with_reducible exact LeO.refl _)
      | (with_reducible exact LeO.none _)
      | (with_reducible refine LeO.ite ?_ ?_)
      | (with_reducible refine LeO.bind ?_ (fun _ => ?_))
      | exact ih0 _ _ _ _
      | exact ih1 _ _ _ _ _ _
      | exact LeO.none _
      | refine LeO.ite ?_ ?_
      | refine LeO.bind ?_ (fun _ => ?_)
theorem numbers_Text.mono : ∀ a0 k, LeO (numbers_Text.f k a0) (numbers_Text.f (k + 1) a0) := by
  intro a0 k
  obtain ⟨ih0, ih1⟩ := numbers_Text.mono_l k
  unfold numbers_Text.f
  repeat' first
      | (with_reducible exact ih0 _ _ _ _)
      | (with_reducible exact ih1 _ _ _ _ _ _)
      | (with_reducible exact LeO.refl _)
      | (with_reducible exact LeO.none _)
      | (with_reducible refine LeO.ite ?_ ?_)
      | (with_reducible refine LeO.bind ?_ (fun _ => ?_))
      | exact ih0 _ _ _ _
      | exact ih1 _ _ _ _ _ _
      | exact LeO.none _
      | refine LeO.ite ?_ ?_
      | refine LeO.bind ?_ (fun _ => ?_)
set_option maxHeartbeats 8000000 in
set_option maxRecDepth 100000 in
theorem numbers_Text.calls (k : Nat) (A0 : Option Addr) (c0 : Nat) (l0 : List Int) (r : ByteArray) (w : World) (hr0 : Kd.C (Kd.int .i64) w A0 l0.length l0) (hc0 : l0.length ≤ c0) (h : numbers_Text.f k l0 = some r) :
    Calls Try.prog 31 #[.slice A0 l0.length c0] w fun e w' => e = .returned (.string r) ∧ Below w.heap.size w w' := by
  have HR0 := Aside0.mk hr0
  have HC0 := Aside0.mk hc0
  clear hr0 hc0
  have HB := Aside0.mk (Below.refl w.heap.size w)
  have H : (numbers_Text.l0 k ([] : List Int) l0 (l0.length : Int) 0) = some r := h
  clear h
  have H' := Aside0.mk H
  clear H
  go_enter Try.func31, Try.ntmps31
  go_wp2
  go_loopg [3, 9] k (fun kq v3 v9 w' => ∃ (x3_1 : List Int) (x9_1 : Int), v9 = .int .i64 x9_1 ∧ Aside0 (numbers_Text.l0 kq x3_1 l0 (l0.length : Int) x9_1 = some r) ∧ Aside0 (kq ≤ k) ∧ Aside0 (Kd.R (Kd.int .u8) 5 w' w.heap.size (fun _ => True) v3 x3_1) ∧ Aside0 (Below w.heap.size w w'))
  case atStart => exact ⟨(([] : List Int)), (0), (by first | rfl | (simp; done) | (simp [*]; done)), H', ⟨Nat.le_refl _⟩, ⟨by first | exact Kd.R_nil _ _ _ _ _ | exact Kd.N_nil _ _ _ _ _ | exact Kd.V_nil _ _ _ _ _ | exact Kd.Q_nil _ _ _ _ _ | exact Kd.S_nil _ _ _ _ _⟩, ⟨by repeat (first | (with_reducible first | exact HB.out | apply below_alloc | apply pw_below_drewN | apply below_drew1) | exact HB.out)⟩⟩
  case round =>
    clear H'
    obtain ⟨x3_1, x9_1, rfl, HA, HK1, HO_3, HB⟩ := hrel
    cases gk with
    | zero => exact absurd HA.out (by simp [numbers_Text.l0])
    | succ k1 =>
      have H := HA.out
      clear HA
      simp only [numbers_Text.l0] at H
      by_cases c2 : x9_1 < (l0.length : Int)
      · rw [if_pos c2] at H
        have c2b0 : decide (x9_1 < (l0.length : Int)) = true := decide_eq_true c2
        clear c2
        by_cases c3 : 0 ≤ x9_1
        · rw [if_pos c3] at H
          have c3b0 : decide (0 ≤ x9_1) = true := decide_eq_true c3
          clear c3
          by_cases c4 : x9_1 < (l0.length : Int)
          · rw [if_pos c4] at H
            have c4b0 : decide (x9_1 < (l0.length : Int)) = true := decide_eq_true c4
            clear c4
            have H' := Aside0.mk H
            clear H
            have p134 : 0 ≤ (x9_1 : Int) := of_decide_eq_true (by first | (with_reducible assumption) | assumption)
            have q134 : x9_1 < (l0.length : Int) := of_decide_eq_true (by first | (with_reducible assumption) | assumption)
            obtain ⟨ad134, e134, hx134_0⟩ := Kd.at_int HR0.out x9_1 p134 q134
            cases e134
            replace hx134_0 := (HB.out.cell (World.block_lt_of_cell? w _ hx134_0)).trans hx134_0
            replace p134 := eq_true p134
            replace q134 := eq_true q134
            go_wp2
            go_loopg [3, 13] k1 (fun kq v3 v13 w' => ∃ (x3_2 : List Int) (x13_2 : Int), v13 = .int .i64 x13_2 ∧ Aside0 (numbers_Text.l1 kq x3_2 (rd l0 x9_1) l0 (l0.length : Int) x9_1 x13_2 = some r) ∧ Aside0 (kq ≤ k1) ∧ Aside0 (Kd.R (Kd.int .u8) 5 w' w.heap.size (fun _ => True) v3 x3_2) ∧ Aside0 (Below w.heap.size w w'))
            case atStart => exact ⟨(x3_1), (0), (by first | rfl | (simp; done) | (simp [*]; done)), H', ⟨Nat.le_refl _⟩, ⟨by (with_reducible repeat (first | apply Kd.R_alloc | apply Kd.R_drewN | apply Kd.R_drew)); exact HO_3.out⟩, ⟨by repeat (first | (with_reducible first | exact HB.out | apply below_alloc | apply pw_below_drewN | apply below_drew1) | exact HB.out)⟩⟩
            case round =>
              clear H'
              try clear p1
              try clear q1
              try clear hx1
              try clear c2
              try clear c2b0
              try clear p2
              try clear c3
              try clear c3b0
              try clear c4
              try clear c4b0
              try clear hx134_0
              try clear p134
              try clear q134
              obtain ⟨x3_2, x13_2, rfl, HA, HK2, HO_3, HB⟩ := hrel
              cases gk with
              | zero => exact absurd HA.out (by simp [numbers_Text.l1])
              | succ k2 =>
                have H := HA.out
                clear HA
                simp only [numbers_Text.l1] at H
                by_cases c5 : x13_2 < 8
                · rw [if_pos c5] at H
                  have c5b0 : decide (x13_2 < 8) = true := decide_eq_true c5
                  clear c5
                  obtain ⟨ji6, hji6⟩ : ∃ j_ : Int, (wrap64 (8 * x13_2)) = j_ := ⟨_, rfl⟩
                  replace H : (if 0 ≤ (ji6) then (if x3_2.length < 140737488355328 then (numbers_Text.l1 k2 (x3_2 ++ [(shr .i64 (rd l0 x9_1) (ji6)) % 256]) (rd l0 x9_1) l0 (l0.length : Int) x9_1 (wrap64 (x13_2 + 1))) else (none)) else (none)) = some r := by first | (rw [hji6] at H; exact H) | (simp only [hji6] at H ⊢; exact H)
                  have hji6w : (IntKind.i64.wrap (8 * x13_2)) = ji6 := (i64_w _).trans hji6
                  by_cases c7 : 0 ≤ (ji6)
                  · rw [if_pos c7] at H
                    have c7b0 := eq_true c7
                    have c7b1 : decide (0 ≤ (ji6)) = true := decide_eq_true c7
                    clear c7
                    obtain ⟨ji8, hji8⟩ : ∃ j_ : Int, (shr .i64 (rd l0 x9_1) (ji6)) = j_ := ⟨_, rfl⟩
                    replace H : (if x3_2.length < 140737488355328 then (numbers_Text.l1 k2 (x3_2 ++ [(ji8) % 256]) (rd l0 x9_1) l0 (l0.length : Int) x9_1 (wrap64 (x13_2 + 1))) else (none)) = some r := by first | (rw [hji8] at H; exact H) | (simp only [hji8] at H ⊢; exact H)
                    have hji8_ : ((rd l0 x9_1) / 2 ^ min (ji6).toNat 64) = ji8 := hji8
                    have hji8z : (ji6) ≤ 64 → ((rd l0 x9_1) / 2 ^ (ji6).toNat) = ji8 := shr_small hji8
                    by_cases c9 : x3_2.length < 140737488355328
                    · rw [if_pos c9] at H
                      have LMc9 := Aside0.mk c9
                      clear c9
                      obtain ⟨y135, hy135⟩ : ∃ y_ : List Int, y_ = (x3_2 ++ [(ji8) % 256]) := ⟨_, rfl⟩
                      replace H : (numbers_Text.l1 k2 y135 (rd l0 x9_1) l0 (l0.length : Int) x9_1 (wrap64 (x13_2 + 1))) = some r := by first | (rw [hy135]; with_reducible exact H) | (have H2_ := (Option.bind_some _ _).symm.trans H; rw [hy135]; with_reducible exact H2_) | (have H2_ := (Option.bind_some _ _).symm.trans H; with_reducible exact H2_) | with_reducible exact H | (rw [hy135]; exact H) | exact H
                      have Ny135 := Aside0.mk hy135
                      clear hy135
                      have H' := Aside0.mk H
                      clear H
                      go_wp2_with (first | ((with_reducible refine gate_builtin (b := .append) (xs := #[.tmp 16, .tmp 22]) rfl ?_); at_builtin; refine Kd.R_append (Kd.int .u8) (w0 := w) w.heap.size rfl (.tmp 16) (.tmp 22) 42 5 (.int .u8 0) 1 rfl Try.underlying42 info5 rfl (by decide) (by omega) u3 x3_2 ((ji8) % 256) [.int .u8 ((ji8) % 256)] (fun _ => True) (fun _ => False) rfl rfl ?aP (fun _ hk => hk.elim) ?aF ?aO ?aB ?aS ?aL ?_; (case aP => exact rfl); (case aB => exact (by repeat (first | (with_reducible first | exact HB.out | apply below_alloc | apply pw_below_drewN | apply below_drew1) | exact HB.out))); (case aF => exact (fun _ _ => trivial)); (case aO => exact (by (with_reducible repeat (first | apply Kd.R_alloc | apply Kd.R_drewN | apply Kd.R_drew)); exact HO_3.out)); (case aS => exact (below_size (by repeat (first | (with_reducible first | exact HB.out | apply below_alloc | apply pw_below_drewN | apply below_drew1) | exact HB.out)))); (case aL => have := LMc9.out; omega); intro v136 w10 ho hb hg hat; rw [← Ny135.out] at ho; have n0_ := Aside0.mk (hb); have n1_ := Aside0.mk (ho); clear HB; clear HO_3; have HB := n0_; have HO137 := n1_; clear n0_ n1_; clear ho hb hg hat))
                      go_roundg k2
                      case measure => have := HK1.out; have := HK2.out; omega
                      case rel => exact ⟨(y135), (wrap64 (x13_2 + 1)), (by first | rfl | (simp; done) | (simp [*]; done)), H', ⟨by have := HK1.out; have := HK2.out; omega⟩, ⟨by (with_reducible repeat (first | apply Kd.R_alloc | apply Kd.R_drewN | apply Kd.R_drew)); exact HO137.out⟩, ⟨by repeat (first | (with_reducible first | exact HB.out | apply below_alloc | apply pw_below_drewN | apply below_drew1) | exact HB.out)⟩⟩
                    · rw [if_neg c9] at H
                      exact absurd H (by simp)
                  · rw [if_neg c7] at H
                    exact absurd H (by simp)
                · rw [if_neg c5] at H
                  have c5b0 : decide (x13_2 < 8) = false := decide_eq_false c5
                  clear c5
                  have H' := Aside0.mk H
                  clear H
                  go_wp2
                  go_roundg k2
                  case measure => have := HK1.out; have := HK2.out; omega
                  case rel => exact ⟨(x3_2), (wrap64 (x9_1 + 1)), (by first | rfl | (simp; done) | (simp [*]; done)), H', ⟨by have := HK1.out; have := HK2.out; omega⟩, ⟨by (with_reducible repeat (first | apply Kd.R_alloc | apply Kd.R_drewN | apply Kd.R_drew)); exact HO_3.out⟩, ⟨by repeat (first | (with_reducible first | exact HB.out | apply below_alloc | apply pw_below_drewN | apply below_drew1) | exact HB.out)⟩⟩
          · rw [if_neg c4] at H
            exact absurd H (by simp)
        · rw [if_neg c3] at H
          exact absurd H (by simp)
      · rw [if_neg c2] at H
        have c2b0 : decide (x9_1 < (l0.length : Int)) = false := decide_eq_false c2
        clear c2
        obtain rfl := Option.some.inj H
        have hcv11 := own_string (P := Try.prog) Try.underlying42 Try.underlying5 Try.underlying9 (Kd.own_of_R HO_3.out)
        go_wp2
        go_ret
        exact ⟨by first | rfl | (simp [errW_none, errW_some] <;> rfl) | (simp [*, errW_none, errW_some] <;> rfl), by repeat (first | (with_reducible first | exact HB.out | apply below_alloc | apply pw_below_drewN | apply below_drew1) | exact HB.out)⟩

end Go.Proofs.YtnddocchfkhlbaaZ
-- Written by a program of this session (gprint.py, over the kit's printer).
namespace Go.Proofs.YtnddocchfkhlbaaZ
open Go.RowKit Go.Proofs.YtnddocchfkhlbaaW.PrintWords Go.Proofs.YtnddocchfkhlbaaW.PrintLast Go.Proofs.YtnddocchfkhlbaaW.PrintMore
attribute [local go_sem] max2_int min2_int max_two min_two max_three min_three max_four min_four   -- for this text's walks alone
set_option linter.unusedVariables false
set_option linter.unusedSimpArgs false

/-! ### sha_Stretch: function 18 -/
mutual
def sha_Stretch.j0 : Nat → ByteArray → ByteArray → Int → Bool → Option (ByteArray × Int)
  | 0, _, _, _, _ => none
  | k + 1, x0, x1, x2, x14 => if x14 = true then (some ((⟨#[]⟩ : ByteArray), 1)) else ((numbers_Text.f k (([(x0.size : Int)] : List Int))).bind fun t141 => (if 1 + t141.size ≤ 9223372036854775807 then (if ((⟨#[0]⟩ : ByteArray) ++ t141).size + x0.size ≤ 9223372036854775807 then (if (((⟨#[0]⟩ : ByteArray) ++ t141) ++ x0).size + x1.size ≤ 9223372036854775807 then ((sha_Sum.f ((((⟨#[0]⟩ : ByteArray) ++ t141) ++ x0) ++ x1)).bind fun t142 => (sha_Stretch.l0 k t142 x2 0)) else (none)) else (none)) else (none)))
def sha_Stretch.l0 : Nat → ByteArray → Int → Int → Option (ByteArray × Int)
  | 0, _, _, _ => none
  | k + 1, x8, x25, x26 => if x26 < x25 then (if 1 + x8.size ≤ 9223372036854775807 then ((sha_Sum.f ((⟨#[1]⟩ : ByteArray) ++ x8)).bind fun t143 => (sha_Stretch.l0 k t143 x25 (wrap64 (x26 + 1)))) else (none)) else (some (x8, 0))
end
def sha_Stretch.f (k : Nat) (a0 : ByteArray) (a1 : ByteArray) (a2 : Int) : Option (ByteArray × Int) := if a2 < 0 then (sha_Stretch.j0 k a0 a1 a2 true) else (sha_Stretch.j0 k a0 a1 a2 (decide (a2 > 1000)))
theorem sha_Stretch.mono_l : ∀ k, (∀ y0 y1 y2 y3, LeO (sha_Stretch.j0 k y0 y1 y2 y3) (sha_Stretch.j0 (k + 1) y0 y1 y2 y3)) ∧ (∀ y0 y1 y2, LeO (sha_Stretch.l0 k y0 y1 y2) (sha_Stretch.l0 (k + 1) y0 y1 y2))
  | 0 => ⟨fun _ _ _ _ r h => by simp [sha_Stretch.j0] at h, fun _ _ _ r h => by simp [sha_Stretch.l0] at h⟩
  | k + 1 => by
    obtain ⟨ih0, ih1⟩ := sha_Stretch.mono_l k
    refine ⟨?_, ?_⟩
    · intro y0 y1 y2 y3
      unfold sha_Stretch.j0
      repeat' first
      | (with_reducible exact ih0 _ _ _ _)
      | (with_reducible exact ih1 _ _ _)
      | (with_reducible exact numbers_Text.mono _ _)
      | (with_reducible exact LeO.refl _)
      | (with_reducible exact LeO.none _)
      | (with_reducible refine LeO.ite ?_ ?_)
      | (with_reducible refine LeO.bind ?_ (fun _ => ?_))
      | exact ih0 _ _ _ _
      | exact ih1 _ _ _
      | exact numbers_Text.mono _ _
      | exact LeO.none _
      | refine LeO.ite ?_ ?_
      | refine LeO.bind ?_ (fun _ => ?_)
    · intro y0 y1 y2
      unfold sha_Stretch.l0
      repeat' first
      | (with_reducible exact ih0 _ _ _ _)
      | (with_reducible exact ih1 _ _ _)
      | (with_reducible exact numbers_Text.mono _ _)
      | (with_reducible exact LeO.refl _)
      | (with_reducible exact LeO.none _)
      | (with_reducible refine LeO.ite ?_ ?_)
      | (with_reducible refine LeO.bind ?_ (fun _ => ?_))
      | exact ih0 _ _ _ _
      | exact ih1 _ _ _
      | exact numbers_Text.mono _ _
      | exact LeO.none _
      | refine LeO.ite ?_ ?_
      | refine LeO.bind ?_ (fun _ => ?_)
theorem sha_Stretch.mono : ∀ a0 a1 a2 k, LeO (sha_Stretch.f k a0 a1 a2) (sha_Stretch.f (k + 1) a0 a1 a2) := by
  intro a0 a1 a2 k
  obtain ⟨ih0, ih1⟩ := sha_Stretch.mono_l k
  unfold sha_Stretch.f
  repeat' first
      | (with_reducible exact ih0 _ _ _ _)
      | (with_reducible exact ih1 _ _ _)
      | (with_reducible exact numbers_Text.mono _ _)
      | (with_reducible exact LeO.refl _)
      | (with_reducible exact LeO.none _)
      | (with_reducible refine LeO.ite ?_ ?_)
      | (with_reducible refine LeO.bind ?_ (fun _ => ?_))
      | exact ih0 _ _ _ _
      | exact ih1 _ _ _
      | exact numbers_Text.mono _ _
      | exact LeO.none _
      | refine LeO.ite ?_ ?_
      | refine LeO.bind ?_ (fun _ => ?_)
set_option maxHeartbeats 8000000 in
set_option maxRecDepth 100000 in
theorem sha_Stretch.calls (k : Nat) (a0 : ByteArray) (a1 : ByteArray) (a2 : Int) (r1 : ByteArray) (r2 : Int) (w : World) (h : sha_Stretch.f k a0 a1 a2 = some (r1, r2)) :
    Calls Try.prog 18 #[.string a0, .string a1, .int .i64 a2] w fun e w' => e = .returned (.tuple #[.string r1, .int .i64 r2]) ∧ Below w.heap.size w w' := by
  have HB := Aside0.mk (Below.refl w.heap.size w)
  have H : (if a2 < 0 then (sha_Stretch.j0 k a0 a1 a2 true) else (sha_Stretch.j0 k a0 a1 a2 (decide (a2 > 1000)))) = some (r1, r2) := h
  clear h
  have HC4 := Aside0.mk H
  clear H
  go_enter Try.func18, Try.ntmps18
  go_upto_region 1 with (fail)
  go_cut [14] (fun v14 wc => ∃ (kq : Nat) (x14_3 : Bool), v14 = .bool x14_3 ∧ Aside0 (sha_Stretch.j0 kq a0 a1 a2 x14_3 = some (r1, r2)) ∧ Aside0 (kq ≤ k) ∧ Aside0 (Below w.heap.size w wc))
  case first =>
    have H := HC4.out
    clear HC4
    by_cases c5 : a2 < 0
    · rw [if_pos c5] at H
      have c5b0 : decide (a2 < 0) = true := decide_eq_true c5
      clear c5
      (first | rw [c5b0] | (simp only [i64_w, i32_w]; rw [c5b0]) | skip)
      have H' := Aside0.mk H
      clear H
      go_wp2
      go_meet
      case rel => exact ⟨_, (true), (by first | rfl | (simp; done) | (simp [*]; done)), H', ⟨by first | omega | exact Nat.le_refl _⟩, ⟨by repeat (first | (with_reducible first | exact HB.out | apply below_alloc | apply pw_below_drewN | apply below_drew1) | exact HB.out)⟩⟩
    · rw [if_neg c5] at H
      have c5b0 : decide (a2 < 0) = false := decide_eq_false c5
      clear c5
      (first | rw [c5b0] | (simp only [i64_w, i32_w]; rw [c5b0]) | skip)
      have H' := Aside0.mk H
      clear H
      go_wp2
      go_meet
      case rel => exact ⟨_, (decide (a2 > 1000)), (by first | rfl | (simp; done) | (simp [*]; done)), H', ⟨by first | omega | exact Nat.le_refl _⟩, ⟨by repeat (first | (with_reducible first | exact HB.out | apply below_alloc | apply pw_below_drewN | apply below_drew1) | exact HB.out)⟩⟩
  case rest =>
    clear HC4
    try clear c1
    try clear p2
    try clear c5
    try clear c5b0
    obtain ⟨kq, x14_3, rfl, HA, HJ3, HB⟩ := hcut
    cases kq with
    | zero => exact absurd HA.out (by simp [sha_Stretch.j0])
    | succ kj3 =>
      have H := HA.out
      clear HA
      simp only [sha_Stretch.j0] at H
      by_cases c6 : x14_3 = true
      · subst c6
        have H1 : (some ((⟨#[]⟩ : ByteArray), 1)) = some (r1, r2) := by rw [if_pos rfl] at H; exact H
        clear H
        have H := H1
        clear H1
        simp only [Option.some.injEq, Prod.mk.injEq] at H
        obtain ⟨rfl, rfl⟩ := H
        go_wp2
        go_ret2
        exact ⟨by first | rfl | (simp [errW_none, errW_some] <;> rfl) | (simp [*, errW_none, errW_some] <;> rfl), by repeat (first | (with_reducible first | exact HB.out | apply below_alloc | apply pw_below_drewN | apply below_drew1) | exact HB.out)⟩
      · replace c6 := Bool.eq_false_iff.mpr c6
        subst c6
        have H1 : ((numbers_Text.f kj3 (([(a0.size : Int)] : List Int))).bind fun t141 => (if 1 + t141.size ≤ 9223372036854775807 then (if ((⟨#[0]⟩ : ByteArray) ++ t141).size + a0.size ≤ 9223372036854775807 then (if (((⟨#[0]⟩ : ByteArray) ++ t141) ++ a0).size + a1.size ≤ 9223372036854775807 then ((sha_Sum.f ((((⟨#[0]⟩ : ByteArray) ++ t141) ++ a0) ++ a1)).bind fun t142 => (sha_Stretch.l0 kj3 t142 a2 0)) else (none)) else (none)) else (none))) = some (r1, r2) := by rw [if_neg (show ¬ (false = true) by decide)] at H; exact H
        clear H
        have H := H1
        clear H1
        obtain ⟨y138, hy138⟩ : ∃ y_ : List Int, y_ = (([(a0.size : Int)] : List Int)) := ⟨_, rfl⟩
        replace H : ((numbers_Text.f kj3 y138).bind fun t141 => (if 1 + t141.size ≤ 9223372036854775807 then (if ((⟨#[0]⟩ : ByteArray) ++ t141).size + a0.size ≤ 9223372036854775807 then (if (((⟨#[0]⟩ : ByteArray) ++ t141) ++ a0).size + a1.size ≤ 9223372036854775807 then ((sha_Sum.f ((((⟨#[0]⟩ : ByteArray) ++ t141) ++ a0) ++ a1)).bind fun t142 => (sha_Stretch.l0 kj3 t142 a2 0)) else (none)) else (none)) else (none))) = some (r1, r2) := by first | (rw [hy138]; with_reducible exact H) | (have H2_ := (Option.bind_some _ _).symm.trans H; rw [hy138]; with_reducible exact H2_) | (have H2_ := (Option.bind_some _ _).symm.trans H; with_reducible exact H2_) | with_reducible exact H | (rw [hy138]; exact H) | exact H
        have Ny138 := Aside0.mk hy138
        clear hy138
        replace H := Option.bind_eq_some_iff.mp H
        obtain ⟨t141, A70, H⟩ := H
        replace H : (if 1 + t141.size ≤ 9223372036854775807 then (if ((⟨#[0]⟩ : ByteArray) ++ t141).size + a0.size ≤ 9223372036854775807 then (if (((⟨#[0]⟩ : ByteArray) ++ t141) ++ a0).size + a1.size ≤ 9223372036854775807 then ((sha_Sum.f ((((⟨#[0]⟩ : ByteArray) ++ t141) ++ a0) ++ a1)).bind fun t142 => (sha_Stretch.l0 kj3 t142 a2 0)) else (none)) else (none)) else (none)) = some (r1, r2) := H
        have A7 := Aside0.mk A70
        clear A70
        by_cases c8 : 1 + t141.size ≤ 9223372036854775807
        · rw [if_pos c8] at H
          have c8b0 := eq_true c8
          have c8b1 : decide (1 + t141.size ≤ 9223372036854775807) = true := decide_eq_true c8
          try have c8b2 : (9223372036854775807 < 1 + t141.size) = False := eq_false (Nat.not_lt.2 c8)
          by_cases c9 : ((⟨#[0]⟩ : ByteArray) ++ t141).size + a0.size ≤ 9223372036854775807
          · rw [if_pos c9] at H
            have c9b0 := eq_true c9
            have c9b1 : decide (((⟨#[0]⟩ : ByteArray) ++ t141).size + a0.size ≤ 9223372036854775807) = true := decide_eq_true c9
            try have c9b2 : (9223372036854775807 < ((⟨#[0]⟩ : ByteArray) ++ t141).size + a0.size) = False := eq_false (Nat.not_lt.2 c9)
            by_cases c10 : (((⟨#[0]⟩ : ByteArray) ++ t141) ++ a0).size + a1.size ≤ 9223372036854775807
            · rw [if_pos c10] at H
              have c10b0 := eq_true c10
              have c10b1 : decide ((((⟨#[0]⟩ : ByteArray) ++ t141) ++ a0).size + a1.size ≤ 9223372036854775807) = true := decide_eq_true c10
              try have c10b2 : (9223372036854775807 < (((⟨#[0]⟩ : ByteArray) ++ t141) ++ a0).size + a1.size) = False := eq_false (Nat.not_lt.2 c10)
              replace H := Option.bind_eq_some_iff.mp H
              obtain ⟨t142, A110, H⟩ := H
              replace H : (sha_Stretch.l0 kj3 t142 a2 0) = some (r1, r2) := H
              have A11 := Aside0.mk A110
              clear A110
              have H' := Aside0.mk H
              clear H
              go_wp2_with (first | ((with_reducible refine gate_dst (N := 17) rfl ?_); refine Kd.R_lit (Kd.int .i64) _ 3 ?hg (N := 17) ?hd (xs := ([(a0.size : Int)] : List Int)) (inner := [.int .i64 (a0.size : Int)]) (ok := fun _ => True) (okp := fun _ => True) ?hr ?hp (fun _ hk => hk) trivial (Below.refl _ _) (Nat.le_refl _) (by simp) ?_; (case hd => rfl); (case hg => rfl); (case hr => first | (go_simp; done) | (go_simp; rfl)); (case hp => exact (Reps.one (show Kd.M (Kd.int .i64) _ _ _ (a0.size : Int) [.int .i64 (a0.size : Int)] from rfl) (Reps.none _ _))); intro v139 w12 ho13 hb hg_ hnew_; clear hg_ hnew_; (first | rw [← Ny138.out] at ho13 | (simp only [Int.reduceToNat] at ho13; rw [← Ny138.out] at ho13)); have n0_ := Aside0.mk (Kd.R_lower ho13 (below_size (by repeat (first | (with_reducible first | exact HB.out | apply below_alloc | apply pw_below_drewN | apply below_drew1) | exact HB.out)))); have n1_ := Aside0.mk (below_step (by repeat (first | (with_reducible first | exact HB.out | apply below_alloc | apply pw_below_drewN | apply below_drew1) | exact HB.out)) hb); clear HB; have HO140 := n0_; have HB := n1_; clear n0_ n1_; clear hb ho13; obtain ⟨Ao14, co14, eo14⟩ := Kd.R_slice HO140.out; subst eo14) | ((with_reducible refine gate_callee (f := 31) rfl ?_); refine goesL_ (some 18) rfl rfl Try.func31 (by kernel_rfl) rfl #[.slice Ao14 y138.length co14] rfl (by (try simp only [List.map_toArray, List.map_cons, List.map_nil]); first | done | rfl | (simp only [List.length_drop, List.length_take]; rfl)) ?_; (with_reducible refine (numbers_Text.calls kj3 _ _ y138 t141 _ ?side1 ?side2 A7.out).mono ?_); (case side1 => repeat (first | exact (Kd.R_reads' HO140.out).2.2 | (with_reducible refine Kd.C_alloc ?_ _) | (with_reducible refine Kd.C_drewN ?_ _) | (with_reducible refine Kd.C_drew ?_))); (case side2 => exact (Kd.R_reads' HO140.out).2.1); rintro e w15 ⟨rfl, hb⟩; refine ⟨_, rfl, ?_⟩; have n0_ := Aside0.mk (Kd.R_below (by (with_reducible repeat (first | apply Kd.R_alloc | apply Kd.R_drewN | apply Kd.R_drew)); exact HO140.out) hb); have n1_ := Aside0.mk (below_step (by repeat (first | (with_reducible first | exact HB.out | apply below_alloc | apply pw_below_drewN | apply below_drew1) | exact HB.out)) hb); clear HO140; clear HB; have HO140 := n0_; have HB := n1_; clear n0_ n1_; (try clear hb); (try clear hb2); (try clear hk); (try clear hi)) | ((with_reducible refine gate_callee (f := 10) rfl ?_); refine goesL_ (some 24) rfl rfl Try.func10 (by kernel_rfl) rfl #[.string ((((⟨#[0]⟩ : ByteArray) ++ t141) ++ a0) ++ a1)] rfl (by (try simp only [List.map_toArray, List.map_cons, List.map_nil]); first | done | rfl | (simp only [List.length_drop, List.length_take]; rfl)) ?_; (with_reducible refine (sha_Sum.calls ((((⟨#[0]⟩ : ByteArray) ++ t141) ++ a0) ++ a1) t142 _ A11.out).mono ?_); rintro e w16 ⟨rfl, hb⟩; refine ⟨_, rfl, ?_⟩; have n0_ := Aside0.mk (Kd.R_below (by (with_reducible repeat (first | apply Kd.R_alloc | apply Kd.R_drewN | apply Kd.R_drew)); exact HO140.out) hb); have n1_ := Aside0.mk (below_step (by repeat (first | (with_reducible first | exact HB.out | apply below_alloc | apply pw_below_drewN | apply below_drew1) | exact HB.out)) hb); clear HO140; clear HB; have HO140 := n0_; have HB := n1_; clear n0_ n1_; (try clear hb); (try clear hb2); (try clear hk); (try clear hi)))
              go_loopg [8, 26] kj3 (fun kq v8 v26 w' => ∃ (x8_2 : ByteArray) (x26_2 : Int), v8 = .string x8_2 ∧ v26 = .int .i64 x26_2 ∧ Aside0 (sha_Stretch.l0 kq x8_2 a2 x26_2 = some (r1, r2)) ∧ Aside0 (kq ≤ kj3) ∧ Aside0 (Below w.heap.size w w'))
              case atStart => exact ⟨(t142), (0), (by first | rfl | (simp; done) | (simp [*]; done)), (by first | rfl | (simp; done) | (simp [*]; done)), H', ⟨Nat.le_refl _⟩, ⟨by repeat (first | (with_reducible first | exact HB.out | apply below_alloc | apply pw_below_drewN | apply below_drew1) | exact HB.out)⟩⟩
              case round =>
                clear H'
                try clear c1
                try clear p2
                try clear c3
                try clear c5
                try clear c5b0
                try clear c6
                try clear c8
                try clear c8b0
                try clear c8b1
                try clear c8b2
                try clear c9
                try clear c9b0
                try clear c9b1
                try clear c9b2
                try clear c10
                try clear c10b0
                try clear c10b1
                try clear c10b2
                try clear p2
                obtain ⟨x8_2, x26_2, rfl, rfl, HA, HK2, HB⟩ := hrel
                cases gk with
                | zero => exact absurd HA.out (by simp [sha_Stretch.l0])
                | succ k2 =>
                  have H := HA.out
                  clear HA
                  simp only [sha_Stretch.l0] at H
                  by_cases c17 : x26_2 < a2
                  · rw [if_pos c17] at H
                    have c17b0 : decide (x26_2 < a2) = true := decide_eq_true c17
                    clear c17
                    by_cases c18 : 1 + x8_2.size ≤ 9223372036854775807
                    · rw [if_pos c18] at H
                      have c18b0 := eq_true c18
                      have c18b1 : decide (1 + x8_2.size ≤ 9223372036854775807) = true := decide_eq_true c18
                      try have c18b2 : (9223372036854775807 < 1 + x8_2.size) = False := eq_false (Nat.not_lt.2 c18)
                      replace H := Option.bind_eq_some_iff.mp H
                      obtain ⟨t143, A190, H⟩ := H
                      replace H : (sha_Stretch.l0 k2 t143 a2 (wrap64 (x26_2 + 1))) = some (r1, r2) := H
                      have A19 := Aside0.mk A190
                      clear A190
                      have H' := Aside0.mk H
                      clear H
                      go_wp2_with (first | ((with_reducible refine gate_callee (f := 10) rfl ?_); refine goesL_ (some 30) rfl rfl Try.func10 (by kernel_rfl) rfl #[.string ((⟨#[1]⟩ : ByteArray) ++ x8_2)] rfl (by (try simp only [List.map_toArray, List.map_cons, List.map_nil]); first | done | rfl | (simp only [List.length_drop, List.length_take]; rfl)) ?_; (with_reducible refine (sha_Sum.calls ((⟨#[1]⟩ : ByteArray) ++ x8_2) t143 _ A19.out).mono ?_); rintro e w20 ⟨rfl, hb⟩; refine ⟨_, rfl, ?_⟩; have n0_ := Aside0.mk (below_step (by repeat (first | (with_reducible first | exact HB.out | apply below_alloc | apply pw_below_drewN | apply below_drew1) | exact HB.out)) hb); clear HB; have HB := n0_; clear n0_; (try clear hb); (try clear hb2); (try clear hk); (try clear hi)))
                      go_roundg k2
                      case measure => have := HJ3.out; have := HK2.out; omega
                      case rel => exact ⟨(t143), (wrap64 (x26_2 + 1)), (by first | rfl | (simp; done) | (simp [*]; done)), (by first | rfl | (simp; done) | (simp [*]; done)), H', ⟨by have := HJ3.out; have := HK2.out; omega⟩, ⟨by repeat (first | (with_reducible first | exact HB.out | apply below_alloc | apply pw_below_drewN | apply below_drew1) | exact HB.out)⟩⟩
                    · rw [if_neg c18] at H
                      exact absurd H (by simp)
                  · rw [if_neg c17] at H
                    have c17b0 : decide (x26_2 < a2) = false := decide_eq_false c17
                    clear c17
                    simp only [Option.some.injEq, Prod.mk.injEq] at H
                    obtain ⟨rfl, rfl⟩ := H
                    go_wp2
                    go_ret2
                    exact ⟨by first | rfl | (simp [errW_none, errW_some] <;> rfl) | (simp [*, errW_none, errW_some] <;> rfl), by repeat (first | (with_reducible first | exact HB.out | apply below_alloc | apply pw_below_drewN | apply below_drew1) | exact HB.out)⟩
            · rw [if_neg c10] at H
              exact absurd H (by simp)
          · rw [if_neg c9] at H
            exact absurd H (by simp)
        · rw [if_neg c8] at H
          exact absurd H (by simp)

end Go.Proofs.YtnddocchfkhlbaaZ
-- Written by a program of this session (gprint.py, over the kit's printer).
namespace Go.Proofs.YtnddocchfkhlbaaZ
open Go.RowKit Go.Proofs.YtnddocchfkhlbaaW.PrintWords Go.Proofs.YtnddocchfkhlbaaW.PrintLast Go.Proofs.YtnddocchfkhlbaaW.PrintMore
attribute [local go_sem] max2_int min2_int max_two min_two max_three min_three max_four min_four   -- for this text's walks alone
set_option linter.unusedVariables false
set_option linter.unusedSimpArgs false

/-! ### gatehouseref03_Eight: function 32 -/
def gatehouseref03_Eight.l0 : Nat → Int → List Int → Int → Option (ByteArray)
  | 0, _, _, _ => none
  | k + 1, x0, x3, x4 => if x4 < 8 then (if x3.length < 140737488355328 then (gatehouseref03_Eight.l0 k (IntKind.u64.wrap (Int.tdiv x0 256)) (x3 ++ [(Int.tmod x0 256) % 256]) (wrap64 (x4 + 1))) else (none)) else (some (strOfNums x3))
def gatehouseref03_Eight.f (k : Nat) (a0 : Int) : Option (ByteArray) := gatehouseref03_Eight.l0 k a0 (([] : List Int)) 0
theorem gatehouseref03_Eight.mono_l : ∀ k, (∀ y0 y1 y2, LeO (gatehouseref03_Eight.l0 k y0 y1 y2) (gatehouseref03_Eight.l0 (k + 1) y0 y1 y2))
  | 0 => fun _ _ _ r h => by simp [gatehouseref03_Eight.l0] at h
  | k + 1 => by
    have ih0 := gatehouseref03_Eight.mono_l k
    · intro y0 y1 y2
      unfold gatehouseref03_Eight.l0
      repeat' first
      | (with_reducible exact ih0 _ _ _)
      | (with_reducible exact LeO.refl _)
      | (with_reducible exact LeO.none _)
      | (with_reducible refine LeO.ite ?_ ?_)
      | (with_reducible refine LeO.bind ?_ (fun _ => ?_))
      | exact ih0 _ _ _
      | exact LeO.none _
      | refine LeO.ite ?_ ?_
      | refine LeO.bind ?_ (fun _ => ?_)
theorem gatehouseref03_Eight.mono : ∀ a0 k, LeO (gatehouseref03_Eight.f k a0) (gatehouseref03_Eight.f (k + 1) a0) := by
  intro a0 k
  have ih0 := gatehouseref03_Eight.mono_l k
  unfold gatehouseref03_Eight.f
  repeat' first
      | (with_reducible exact ih0 _ _ _)
      | (with_reducible exact LeO.refl _)
      | (with_reducible exact LeO.none _)
      | (with_reducible refine LeO.ite ?_ ?_)
      | (with_reducible refine LeO.bind ?_ (fun _ => ?_))
      | exact ih0 _ _ _
      | exact LeO.none _
      | refine LeO.ite ?_ ?_
      | refine LeO.bind ?_ (fun _ => ?_)
set_option maxHeartbeats 8000000 in
set_option maxRecDepth 100000 in
theorem gatehouseref03_Eight.calls (k : Nat) (a0 : Int) (r : ByteArray) (w : World) (h : gatehouseref03_Eight.f k a0 = some r) :
    Calls Try.prog 32 #[.int .u64 a0] w fun e w' => e = .returned (.string r) ∧ Below w.heap.size w w' := by
  have HB := Aside0.mk (Below.refl w.heap.size w)
  have H : (gatehouseref03_Eight.l0 k a0 (([] : List Int)) 0) = some r := h
  clear h
  obtain ⟨y144, hy144⟩ : ∃ y_ : List Int, y_ = (([] : List Int)) := ⟨_, rfl⟩
  replace H : (gatehouseref03_Eight.l0 k a0 y144 0) = some r := by first | (rw [hy144]; with_reducible exact H) | (have H2_ := (Option.bind_some _ _).symm.trans H; rw [hy144]; with_reducible exact H2_) | (have H2_ := (Option.bind_some _ _).symm.trans H; with_reducible exact H2_) | with_reducible exact H | (rw [hy144]; exact H) | exact H
  have Ny144 := Aside0.mk hy144
  clear hy144
  have H' := Aside0.mk H
  clear H
  go_enter Try.func32, Try.ntmps32
  go_wp2_with (first | ((with_reducible refine gate_dst (N := 5) rfl ?_); refine Kd.R_lit (Kd.int .u8) _ 5 ?hg (N := 5) ?hd (xs := ([] : List Int)) (inner := []) (ok := fun _ => True) (okp := fun _ => True) ?hr ?hp (fun _ hk => hk) trivial (Below.refl _ _) (Nat.le_refl _) (by simp) ?_; (case hd => rfl); (case hg => rfl); (case hr => first | (go_simp; done) | (go_simp; rfl)); (case hp => exact (Reps.none _ _)); intro v145 w2 ho3 hb hg_ hnew_; clear hg_ hnew_; (first | rw [← Ny144.out] at ho3 | (simp only [Int.reduceToNat] at ho3; rw [← Ny144.out] at ho3)); have n0_ := Aside0.mk (Kd.R_lower ho3 (below_size (by repeat (first | (with_reducible first | exact HB.out | apply below_alloc | apply pw_below_drewN | apply below_drew1) | exact HB.out)))); have n1_ := Aside0.mk (below_step (by repeat (first | (with_reducible first | exact HB.out | apply below_alloc | apply pw_below_drewN | apply below_drew1) | exact HB.out)) hb); clear HB; have HO146 := n0_; have HB := n1_; clear n0_ n1_; clear hb ho3))
  go_loopg [0, 3, 4] k (fun kq v0 v3 v4 w' => ∃ (x0_1 : Int) (x3_1 : List Int) (x4_1 : Int), v0 = .int .u64 x0_1 ∧ v4 = .int .i64 x4_1 ∧ Aside0 (gatehouseref03_Eight.l0 kq x0_1 x3_1 x4_1 = some r) ∧ Aside0 (kq ≤ k) ∧ Aside0 (Kd.R (Kd.int .u8) 5 w' w.heap.size (fun _ => True) v3 x3_1) ∧ Aside0 (Below w.heap.size w w'))
  case atStart => exact ⟨(a0), (y144), (0), (by first | rfl | (simp; done) | (simp [*]; done)), (by first | rfl | (simp; done) | (simp [*]; done)), H', ⟨Nat.le_refl _⟩, ⟨by (with_reducible repeat (first | apply Kd.R_alloc | apply Kd.R_drewN | apply Kd.R_drew)); exact HO146.out⟩, ⟨by repeat (first | (with_reducible first | exact HB.out | apply below_alloc | apply pw_below_drewN | apply below_drew1) | exact HB.out)⟩⟩
  case round =>
    clear H'
    try clear p2
    try clear c3
    obtain ⟨x0_1, x3_1, x4_1, rfl, rfl, HA, HK1, HO_3, HB⟩ := hrel
    cases gk with
    | zero => exact absurd HA.out (by simp [gatehouseref03_Eight.l0])
    | succ k1 =>
      have H := HA.out
      clear HA
      simp only [gatehouseref03_Eight.l0] at H
      by_cases c4 : x4_1 < 8
      · rw [if_pos c4] at H
        have c4b0 : decide (x4_1 < 8) = true := decide_eq_true c4
        clear c4
        by_cases c5 : x3_1.length < 140737488355328
        · rw [if_pos c5] at H
          have LMc5 := Aside0.mk c5
          clear c5
          obtain ⟨y147, hy147⟩ : ∃ y_ : List Int, y_ = (x3_1 ++ [(Int.tmod x0_1 256) % 256]) := ⟨_, rfl⟩
          replace H : (gatehouseref03_Eight.l0 k1 (IntKind.u64.wrap (Int.tdiv x0_1 256)) y147 (wrap64 (x4_1 + 1))) = some r := by first | (rw [hy147]; with_reducible exact H) | (have H2_ := (Option.bind_some _ _).symm.trans H; rw [hy147]; with_reducible exact H2_) | (have H2_ := (Option.bind_some _ _).symm.trans H; with_reducible exact H2_) | with_reducible exact H | (rw [hy147]; exact H) | exact H
          have Ny147 := Aside0.mk hy147
          clear hy147
          have H' := Aside0.mk H
          clear H
          go_wp2_with (first | ((with_reducible refine gate_builtin (b := .append) (xs := #[.tmp 10, .tmp 14]) rfl ?_); at_builtin; refine Kd.R_append (Kd.int .u8) (w0 := w) w.heap.size rfl (.tmp 10) (.tmp 14) 42 5 (.int .u8 0) 1 rfl Try.underlying42 info5 rfl (by decide) (by omega) u3 x3_1 ((Int.tmod x0_1 256) % 256) [.int .u8 ((Int.tmod x0_1 256) % 256)] (fun _ => True) (fun _ => False) rfl rfl ?aP (fun _ hk => hk.elim) ?aF ?aO ?aB ?aS ?aL ?_; (case aP => exact rfl); (case aB => exact (by repeat (first | (with_reducible first | exact HB.out | apply below_alloc | apply pw_below_drewN | apply below_drew1) | exact HB.out))); (case aF => exact (fun _ _ => trivial)); (case aO => exact (by (with_reducible repeat (first | apply Kd.R_alloc | apply Kd.R_drewN | apply Kd.R_drew)); exact HO_3.out)); (case aS => exact (below_size (by repeat (first | (with_reducible first | exact HB.out | apply below_alloc | apply pw_below_drewN | apply below_drew1) | exact HB.out)))); (case aL => have := LMc5.out; omega); intro v148 w6 ho hb hg hat; rw [← Ny147.out] at ho; have n0_ := Aside0.mk (hb); have n1_ := Aside0.mk (ho); clear HB; clear HO_3; have HB := n0_; have HO149 := n1_; clear n0_ n1_; clear ho hb hg hat))
          go_roundg k1
          case measure => have := HK1.out; omega
          case rel => exact ⟨(IntKind.u64.wrap (Int.tdiv x0_1 256)), (y147), (wrap64 (x4_1 + 1)), (by first | rfl | (simp; done) | (simp [*]; done)), (by first | rfl | (simp; done) | (simp [*]; done)), H', ⟨by have := HK1.out; omega⟩, ⟨by (with_reducible repeat (first | apply Kd.R_alloc | apply Kd.R_drewN | apply Kd.R_drew)); exact HO149.out⟩, ⟨by repeat (first | (with_reducible first | exact HB.out | apply below_alloc | apply pw_below_drewN | apply below_drew1) | exact HB.out)⟩⟩
        · rw [if_neg c5] at H
          exact absurd H (by simp)
      · rw [if_neg c4] at H
        have c4b0 : decide (x4_1 < 8) = false := decide_eq_false c4
        clear c4
        obtain rfl := Option.some.inj H
        have hcv7 := own_string (P := Try.prog) Try.underlying42 Try.underlying5 Try.underlying9 (Kd.own_of_R HO_3.out)
        go_wp2
        go_ret
        exact ⟨by first | rfl | (simp [errW_none, errW_some] <;> rfl) | (simp [*, errW_none, errW_some] <;> rfl), by repeat (first | (with_reducible first | exact HB.out | apply below_alloc | apply pw_below_drewN | apply below_drew1) | exact HB.out)⟩

end Go.Proofs.YtnddocchfkhlbaaZ
-- Written by a program of this session (gprint.py, over the kit's printer).
namespace Go.Proofs.YtnddocchfkhlbaaZ
open Go.RowKit Go.Proofs.YtnddocchfkhlbaaW.PrintWords Go.Proofs.YtnddocchfkhlbaaW.PrintLast Go.Proofs.YtnddocchfkhlbaaW.PrintMore
attribute [local go_sem] max2_int min2_int max_two min_two max_three min_three max_four min_four   -- for this text's walks alone
set_option linter.unusedVariables false
set_option linter.unusedSimpArgs false

/-! ### gatehouseref15_Stretch: function 19 -/
mutual
def gatehouseref15_Stretch.j0 : Nat → ByteArray → ByteArray → Int → Bool → Option (ByteArray × Int)
  | 0, _, _, _, _ => none
  | k + 1, x0, x1, x2, x15 => if x15 = true then (some ((⟨#[]⟩ : ByteArray), 1)) else ((gatehouseref03_Eight.f k (IntKind.u64.wrap ((x0.size : Int)))).bind fun t150 => (if 1 + t150.size ≤ 9223372036854775807 then (if ((⟨#[0]⟩ : ByteArray) ++ t150).size + x0.size ≤ 9223372036854775807 then (if (((⟨#[0]⟩ : ByteArray) ++ t150) ++ x0).size + x1.size ≤ 9223372036854775807 then ((gatehouseref15_Sum.f ((((⟨#[0]⟩ : ByteArray) ++ t150) ++ x0) ++ x1)).bind fun t151 => (gatehouseref15_Stretch.l0 k x2 t151 0)) else (none)) else (none)) else (none)))
def gatehouseref15_Stretch.l0 : Nat → Int → ByteArray → Int → Option (ByteArray × Int)
  | 0, _, _, _ => none
  | k + 1, x2, x8, x9 => if x9 < x2 then (if 1 + x8.size ≤ 9223372036854775807 then ((gatehouseref15_Sum.f ((⟨#[1]⟩ : ByteArray) ++ x8)).bind fun t152 => (gatehouseref15_Stretch.l0 k x2 t152 (wrap64 (x9 + 1)))) else (none)) else (some (x8, 0))
end
def gatehouseref15_Stretch.f (k : Nat) (a0 : ByteArray) (a1 : ByteArray) (a2 : Int) : Option (ByteArray × Int) := if a2 < 0 then (gatehouseref15_Stretch.j0 k a0 a1 a2 true) else (gatehouseref15_Stretch.j0 k a0 a1 a2 (decide (a2 > 1000)))
theorem gatehouseref15_Stretch.mono_l : ∀ k, (∀ y0 y1 y2 y3, LeO (gatehouseref15_Stretch.j0 k y0 y1 y2 y3) (gatehouseref15_Stretch.j0 (k + 1) y0 y1 y2 y3)) ∧ (∀ y0 y1 y2, LeO (gatehouseref15_Stretch.l0 k y0 y1 y2) (gatehouseref15_Stretch.l0 (k + 1) y0 y1 y2))
  | 0 => ⟨fun _ _ _ _ r h => by simp [gatehouseref15_Stretch.j0] at h, fun _ _ _ r h => by simp [gatehouseref15_Stretch.l0] at h⟩
  | k + 1 => by
    obtain ⟨ih0, ih1⟩ := gatehouseref15_Stretch.mono_l k
    refine ⟨?_, ?_⟩
    · intro y0 y1 y2 y3
      unfold gatehouseref15_Stretch.j0
      repeat' first
      | (with_reducible exact ih0 _ _ _ _)
      | (with_reducible exact ih1 _ _ _)
      | (with_reducible exact gatehouseref03_Eight.mono _ _)
      | (with_reducible exact LeO.refl _)
      | (with_reducible exact LeO.none _)
      | (with_reducible refine LeO.ite ?_ ?_)
      | (with_reducible refine LeO.bind ?_ (fun _ => ?_))
      | exact ih0 _ _ _ _
      | exact ih1 _ _ _
      | exact gatehouseref03_Eight.mono _ _
      | exact LeO.none _
      | refine LeO.ite ?_ ?_
      | refine LeO.bind ?_ (fun _ => ?_)
    · intro y0 y1 y2
      unfold gatehouseref15_Stretch.l0
      repeat' first
      | (with_reducible exact ih0 _ _ _ _)
      | (with_reducible exact ih1 _ _ _)
      | (with_reducible exact gatehouseref03_Eight.mono _ _)
      | (with_reducible exact LeO.refl _)
      | (with_reducible exact LeO.none _)
      | (with_reducible refine LeO.ite ?_ ?_)
      | (with_reducible refine LeO.bind ?_ (fun _ => ?_))
      | exact ih0 _ _ _ _
      | exact ih1 _ _ _
      | exact gatehouseref03_Eight.mono _ _
      | exact LeO.none _
      | refine LeO.ite ?_ ?_
      | refine LeO.bind ?_ (fun _ => ?_)
theorem gatehouseref15_Stretch.mono : ∀ a0 a1 a2 k, LeO (gatehouseref15_Stretch.f k a0 a1 a2) (gatehouseref15_Stretch.f (k + 1) a0 a1 a2) := by
  intro a0 a1 a2 k
  obtain ⟨ih0, ih1⟩ := gatehouseref15_Stretch.mono_l k
  unfold gatehouseref15_Stretch.f
  repeat' first
      | (with_reducible exact ih0 _ _ _ _)
      | (with_reducible exact ih1 _ _ _)
      | (with_reducible exact gatehouseref03_Eight.mono _ _)
      | (with_reducible exact LeO.refl _)
      | (with_reducible exact LeO.none _)
      | (with_reducible refine LeO.ite ?_ ?_)
      | (with_reducible refine LeO.bind ?_ (fun _ => ?_))
      | exact ih0 _ _ _ _
      | exact ih1 _ _ _
      | exact gatehouseref03_Eight.mono _ _
      | exact LeO.none _
      | refine LeO.ite ?_ ?_
      | refine LeO.bind ?_ (fun _ => ?_)
set_option maxHeartbeats 8000000 in
set_option maxRecDepth 100000 in
theorem gatehouseref15_Stretch.calls (k : Nat) (a0 : ByteArray) (a1 : ByteArray) (a2 : Int) (r1 : ByteArray) (r2 : Int) (w : World) (h : gatehouseref15_Stretch.f k a0 a1 a2 = some (r1, r2)) :
    Calls Try.prog 19 #[.string a0, .string a1, .int .i64 a2] w fun e w' => e = .returned (.tuple #[.string r1, .int .i64 r2]) ∧ Below w.heap.size w w' := by
  have HB := Aside0.mk (Below.refl w.heap.size w)
  have H : (if a2 < 0 then (gatehouseref15_Stretch.j0 k a0 a1 a2 true) else (gatehouseref15_Stretch.j0 k a0 a1 a2 (decide (a2 > 1000)))) = some (r1, r2) := h
  clear h
  have HC4 := Aside0.mk H
  clear H
  go_enter Try.func19, Try.ntmps19
  go_upto_region 1 with (fail)
  go_cut [15] (fun v15 wc => ∃ (kq : Nat) (x15_3 : Bool), v15 = .bool x15_3 ∧ Aside0 (gatehouseref15_Stretch.j0 kq a0 a1 a2 x15_3 = some (r1, r2)) ∧ Aside0 (kq ≤ k) ∧ Aside0 (Below w.heap.size w wc))
  case first =>
    have H := HC4.out
    clear HC4
    by_cases c5 : a2 < 0
    · rw [if_pos c5] at H
      have c5b0 : decide (a2 < 0) = true := decide_eq_true c5
      clear c5
      (first | rw [c5b0] | (simp only [i64_w, i32_w]; rw [c5b0]) | skip)
      have H' := Aside0.mk H
      clear H
      go_wp2
      go_meet
      case rel => exact ⟨_, (true), (by first | rfl | (simp; done) | (simp [*]; done)), H', ⟨by first | omega | exact Nat.le_refl _⟩, ⟨by repeat (first | (with_reducible first | exact HB.out | apply below_alloc | apply pw_below_drewN | apply below_drew1) | exact HB.out)⟩⟩
    · rw [if_neg c5] at H
      have c5b0 : decide (a2 < 0) = false := decide_eq_false c5
      clear c5
      (first | rw [c5b0] | (simp only [i64_w, i32_w]; rw [c5b0]) | skip)
      have H' := Aside0.mk H
      clear H
      go_wp2
      go_meet
      case rel => exact ⟨_, (decide (a2 > 1000)), (by first | rfl | (simp; done) | (simp [*]; done)), H', ⟨by first | omega | exact Nat.le_refl _⟩, ⟨by repeat (first | (with_reducible first | exact HB.out | apply below_alloc | apply pw_below_drewN | apply below_drew1) | exact HB.out)⟩⟩
  case rest =>
    clear HC4
    try clear c1
    try clear p2
    try clear c5
    try clear c5b0
    obtain ⟨kq, x15_3, rfl, HA, HJ3, HB⟩ := hcut
    cases kq with
    | zero => exact absurd HA.out (by simp [gatehouseref15_Stretch.j0])
    | succ kj3 =>
      have H := HA.out
      clear HA
      simp only [gatehouseref15_Stretch.j0] at H
      by_cases c6 : x15_3 = true
      · subst c6
        have H1 : (some ((⟨#[]⟩ : ByteArray), 1)) = some (r1, r2) := by rw [if_pos rfl] at H; exact H
        clear H
        have H := H1
        clear H1
        simp only [Option.some.injEq, Prod.mk.injEq] at H
        obtain ⟨rfl, rfl⟩ := H
        go_wp2
        go_ret2
        exact ⟨by first | rfl | (simp [errW_none, errW_some] <;> rfl) | (simp [*, errW_none, errW_some] <;> rfl), by repeat (first | (with_reducible first | exact HB.out | apply below_alloc | apply pw_below_drewN | apply below_drew1) | exact HB.out)⟩
      · replace c6 := Bool.eq_false_iff.mpr c6
        subst c6
        have H1 : ((gatehouseref03_Eight.f kj3 (IntKind.u64.wrap ((a0.size : Int)))).bind fun t150 => (if 1 + t150.size ≤ 9223372036854775807 then (if ((⟨#[0]⟩ : ByteArray) ++ t150).size + a0.size ≤ 9223372036854775807 then (if (((⟨#[0]⟩ : ByteArray) ++ t150) ++ a0).size + a1.size ≤ 9223372036854775807 then ((gatehouseref15_Sum.f ((((⟨#[0]⟩ : ByteArray) ++ t150) ++ a0) ++ a1)).bind fun t151 => (gatehouseref15_Stretch.l0 kj3 a2 t151 0)) else (none)) else (none)) else (none))) = some (r1, r2) := by rw [if_neg (show ¬ (false = true) by decide)] at H; exact H
        clear H
        have H := H1
        clear H1
        replace H := Option.bind_eq_some_iff.mp H
        obtain ⟨t150, A70, H⟩ := H
        replace H : (if 1 + t150.size ≤ 9223372036854775807 then (if ((⟨#[0]⟩ : ByteArray) ++ t150).size + a0.size ≤ 9223372036854775807 then (if (((⟨#[0]⟩ : ByteArray) ++ t150) ++ a0).size + a1.size ≤ 9223372036854775807 then ((gatehouseref15_Sum.f ((((⟨#[0]⟩ : ByteArray) ++ t150) ++ a0) ++ a1)).bind fun t151 => (gatehouseref15_Stretch.l0 kj3 a2 t151 0)) else (none)) else (none)) else (none)) = some (r1, r2) := H
        have A7 := Aside0.mk A70
        clear A70
        by_cases c8 : 1 + t150.size ≤ 9223372036854775807
        · rw [if_pos c8] at H
          have c8b0 := eq_true c8
          have c8b1 : decide (1 + t150.size ≤ 9223372036854775807) = true := decide_eq_true c8
          try have c8b2 : (9223372036854775807 < 1 + t150.size) = False := eq_false (Nat.not_lt.2 c8)
          by_cases c9 : ((⟨#[0]⟩ : ByteArray) ++ t150).size + a0.size ≤ 9223372036854775807
          · rw [if_pos c9] at H
            have c9b0 := eq_true c9
            have c9b1 : decide (((⟨#[0]⟩ : ByteArray) ++ t150).size + a0.size ≤ 9223372036854775807) = true := decide_eq_true c9
            try have c9b2 : (9223372036854775807 < ((⟨#[0]⟩ : ByteArray) ++ t150).size + a0.size) = False := eq_false (Nat.not_lt.2 c9)
            by_cases c10 : (((⟨#[0]⟩ : ByteArray) ++ t150) ++ a0).size + a1.size ≤ 9223372036854775807
            · rw [if_pos c10] at H
              have c10b0 := eq_true c10
              have c10b1 : decide ((((⟨#[0]⟩ : ByteArray) ++ t150) ++ a0).size + a1.size ≤ 9223372036854775807) = true := decide_eq_true c10
              try have c10b2 : (9223372036854775807 < (((⟨#[0]⟩ : ByteArray) ++ t150) ++ a0).size + a1.size) = False := eq_false (Nat.not_lt.2 c10)
              replace H := Option.bind_eq_some_iff.mp H
              obtain ⟨t151, A110, H⟩ := H
              replace H : (gatehouseref15_Stretch.l0 kj3 a2 t151 0) = some (r1, r2) := H
              have A11 := Aside0.mk A110
              clear A110
              have H' := Aside0.mk H
              clear H
              have hwr_ : IntKind.u64.wrap ((a0.size : Int)) = (a0.size : Int) := IntWalk.u64_in _ (by omega)
              rw [hwr_] at A7
              clear hwr_
              go_wp2_with (first | ((with_reducible refine gate_callee (f := 32) rfl ?_); refine goesL_ (some 19) rfl rfl Try.func32 (by kernel_rfl) rfl #[.int .u64 (a0.size : Int)] rfl (by (try simp only [List.map_toArray, List.map_cons, List.map_nil]); first | done | rfl | (simp only [List.length_drop, List.length_take]; rfl)) ?_; (with_reducible refine (gatehouseref03_Eight.calls kj3 (a0.size : Int) t150 _ A7.out).mono ?_); rintro e w12 ⟨rfl, hb⟩; refine ⟨_, rfl, ?_⟩; have n0_ := Aside0.mk (below_step (by repeat (first | (with_reducible first | exact HB.out | apply below_alloc | apply pw_below_drewN | apply below_drew1) | exact HB.out)) hb); clear HB; have HB := n0_; clear n0_; (try clear hb); (try clear hb2); (try clear hk); (try clear hi)) | ((with_reducible refine gate_callee (f := 11) rfl ?_); refine goesL_ (some 25) rfl rfl Try.func11 (by kernel_rfl) rfl #[.string ((((⟨#[0]⟩ : ByteArray) ++ t150) ++ a0) ++ a1)] rfl (by (try simp only [List.map_toArray, List.map_cons, List.map_nil]); first | done | rfl | (simp only [List.length_drop, List.length_take]; rfl)) ?_; (with_reducible refine (gatehouseref15_Sum.calls ((((⟨#[0]⟩ : ByteArray) ++ t150) ++ a0) ++ a1) t151 _ A11.out).mono ?_); rintro e w13 ⟨rfl, hb⟩; refine ⟨_, rfl, ?_⟩; have n0_ := Aside0.mk (below_step (by repeat (first | (with_reducible first | exact HB.out | apply below_alloc | apply pw_below_drewN | apply below_drew1) | exact HB.out)) hb); clear HB; have HB := n0_; clear n0_; (try clear hb); (try clear hb2); (try clear hk); (try clear hi)))
              go_loopg [8, 9] kj3 (fun kq v8 v9 w' => ∃ (x8_2 : ByteArray) (x9_2 : Int), v8 = .string x8_2 ∧ v9 = .int .i64 x9_2 ∧ Aside0 (gatehouseref15_Stretch.l0 kq a2 x8_2 x9_2 = some (r1, r2)) ∧ Aside0 (kq ≤ kj3) ∧ Aside0 (Below w.heap.size w w'))
              case atStart => exact ⟨(t151), (0), (by first | rfl | (simp; done) | (simp [*]; done)), (by first | rfl | (simp; done) | (simp [*]; done)), H', ⟨Nat.le_refl _⟩, ⟨by repeat (first | (with_reducible first | exact HB.out | apply below_alloc | apply pw_below_drewN | apply below_drew1) | exact HB.out)⟩⟩
              case round =>
                clear H'
                try clear c1
                try clear p2
                try clear c3
                try clear c5
                try clear c5b0
                try clear c6
                try clear c8
                try clear c8b0
                try clear c8b1
                try clear c8b2
                try clear c9
                try clear c9b0
                try clear c9b1
                try clear c9b2
                try clear c10
                try clear c10b0
                try clear c10b1
                try clear c10b2
                try clear c11
                try clear p2
                obtain ⟨x8_2, x9_2, rfl, rfl, HA, HK2, HB⟩ := hrel
                cases gk with
                | zero => exact absurd HA.out (by simp [gatehouseref15_Stretch.l0])
                | succ k2 =>
                  have H := HA.out
                  clear HA
                  simp only [gatehouseref15_Stretch.l0] at H
                  by_cases c14 : x9_2 < a2
                  · rw [if_pos c14] at H
                    have c14b0 : decide (x9_2 < a2) = true := decide_eq_true c14
                    clear c14
                    by_cases c15 : 1 + x8_2.size ≤ 9223372036854775807
                    · rw [if_pos c15] at H
                      have c15b0 := eq_true c15
                      have c15b1 : decide (1 + x8_2.size ≤ 9223372036854775807) = true := decide_eq_true c15
                      try have c15b2 : (9223372036854775807 < 1 + x8_2.size) = False := eq_false (Nat.not_lt.2 c15)
                      replace H := Option.bind_eq_some_iff.mp H
                      obtain ⟨t152, A160, H⟩ := H
                      replace H : (gatehouseref15_Stretch.l0 k2 a2 t152 (wrap64 (x9_2 + 1))) = some (r1, r2) := H
                      have A16 := Aside0.mk A160
                      clear A160
                      have H' := Aside0.mk H
                      clear H
                      go_wp2_with (first | ((with_reducible refine gate_callee (f := 11) rfl ?_); refine goesL_ (some 33) rfl rfl Try.func11 (by kernel_rfl) rfl #[.string ((⟨#[1]⟩ : ByteArray) ++ x8_2)] rfl (by (try simp only [List.map_toArray, List.map_cons, List.map_nil]); first | done | rfl | (simp only [List.length_drop, List.length_take]; rfl)) ?_; (with_reducible refine (gatehouseref15_Sum.calls ((⟨#[1]⟩ : ByteArray) ++ x8_2) t152 _ A16.out).mono ?_); rintro e w17 ⟨rfl, hb⟩; refine ⟨_, rfl, ?_⟩; have n0_ := Aside0.mk (below_step (by repeat (first | (with_reducible first | exact HB.out | apply below_alloc | apply pw_below_drewN | apply below_drew1) | exact HB.out)) hb); clear HB; have HB := n0_; clear n0_; (try clear hb); (try clear hb2); (try clear hk); (try clear hi)))
                      go_roundg k2
                      case measure => have := HJ3.out; have := HK2.out; omega
                      case rel => exact ⟨(t152), (wrap64 (x9_2 + 1)), (by first | rfl | (simp; done) | (simp [*]; done)), (by first | rfl | (simp; done) | (simp [*]; done)), H', ⟨by have := HJ3.out; have := HK2.out; omega⟩, ⟨by repeat (first | (with_reducible first | exact HB.out | apply below_alloc | apply pw_below_drewN | apply below_drew1) | exact HB.out)⟩⟩
                    · rw [if_neg c15] at H
                      exact absurd H (by simp)
                  · rw [if_neg c14] at H
                    have c14b0 : decide (x9_2 < a2) = false := decide_eq_false c14
                    clear c14
                    simp only [Option.some.injEq, Prod.mk.injEq] at H
                    obtain ⟨rfl, rfl⟩ := H
                    go_wp2
                    go_ret2
                    exact ⟨by first | rfl | (simp [errW_none, errW_some] <;> rfl) | (simp [*, errW_none, errW_some] <;> rfl), by repeat (first | (with_reducible first | exact HB.out | apply below_alloc | apply pw_below_drewN | apply below_drew1) | exact HB.out)⟩
            · rw [if_neg c10] at H
              exact absurd H (by simp)
          · rw [if_neg c9] at H
            exact absurd H (by simp)
        · rw [if_neg c8] at H
          exact absurd H (by simp)

end Go.Proofs.YtnddocchfkhlbaaZ
-- Written by a program of this session (gprint.py, over the kit's printer).
namespace Go.Proofs.YtnddocchfkhlbaaZ
open Go.RowKit Go.Proofs.YtnddocchfkhlbaaW.PrintWords Go.Proofs.YtnddocchfkhlbaaW.PrintLast Go.Proofs.YtnddocchfkhlbaaW.PrintMore
attribute [local go_sem] max2_int min2_int max_two min_two max_three min_three max_four min_four   -- for this text's walks alone
set_option linter.unusedVariables false
set_option linter.unusedSimpArgs false

/-! ### gatehouselaw15_ShaStretches: function 7 -/
mutual
def gatehouselaw15_ShaStretches.j0 : Nat → ByteArray → ByteArray → Int → Bool → Option (Bool)
  | 0, _, _, _, _ => none
  | k + 1, x0, x1, x2, x30 => if x30 = true then (some true) else ((sha_Stretch.f k x0 x1 x2).bind fun bt154 => ((gatehouseref15_Stretch.f k x0 x1 x2).bind fun bt156 => (if bt154.1.toList = bt156.1.toList then (gatehouselaw15_ShaStretches.j1 k x0 x1 x2 bt154.1 bt154.2 (bt154.2 != bt156.2)) else (gatehouselaw15_ShaStretches.j1 k x0 x1 x2 bt154.1 bt154.2 true))))
def gatehouselaw15_ShaStretches.j1 : Nat → ByteArray → ByteArray → Int → ByteArray → Int → Bool → Option (Bool)
  | 0, _, _, _, _, _, _ => none
  | k + 1, x0, x1, x2, x7, x8, x52 => if x52 = true then (some false) else (if x8 = 0 then ((sha_Stretch.f k x0 x1 (wrap64 (x2 + 1))).bind fun bt158 => (if bt158.2 = 0 then (if 1 + x7.size ≤ 9223372036854775807 then ((sha_Sum.f ((⟨#[1]⟩ : ByteArray) ++ x7)).bind fun t160 => (some (bt158.1.toList == t160.toList))) else (none)) else (some false))) else (if x8 = 1 then (some (x7.toList == ([] : List UInt8))) else (some false)))
end
def gatehouselaw15_ShaStretches.f (k : Nat) (a0 : ByteArray) (a1 : ByteArray) (a2 : Int) : Option (Bool) := (gatehouselaw15_lives.f).bind fun t153 => (if t153 = true then (if (a0.size : Int) > 500 then (gatehouselaw15_ShaStretches.j0 k a0 a1 a2 true) else (if (a1.size : Int) > 500 then (gatehouselaw15_ShaStretches.j0 k a0 a1 a2 true) else (if a2 > 20 then (gatehouselaw15_ShaStretches.j0 k a0 a1 a2 (decide (a2 ≤ 1000))) else (gatehouselaw15_ShaStretches.j0 k a0 a1 a2 false)))) else (some false))
theorem gatehouselaw15_ShaStretches.mono_l : ∀ k, (∀ y0 y1 y2 y3, LeO (gatehouselaw15_ShaStretches.j0 k y0 y1 y2 y3) (gatehouselaw15_ShaStretches.j0 (k + 1) y0 y1 y2 y3)) ∧ (∀ y0 y1 y2 y3 y4 y5, LeO (gatehouselaw15_ShaStretches.j1 k y0 y1 y2 y3 y4 y5) (gatehouselaw15_ShaStretches.j1 (k + 1) y0 y1 y2 y3 y4 y5))
  | 0 => ⟨fun _ _ _ _ r h => by simp [gatehouselaw15_ShaStretches.j0] at h, fun _ _ _ _ _ _ r h => by simp [gatehouselaw15_ShaStretches.j1] at h⟩
  | k + 1 => by
    obtain ⟨ih0, ih1⟩ := gatehouselaw15_ShaStretches.mono_l k
    refine ⟨?_, ?_⟩
    · intro y0 y1 y2 y3
      unfold gatehouselaw15_ShaStretches.j0
      repeat' first
      | (with_reducible exact ih0 _ _ _ _)
      | (with_reducible exact ih1 _ _ _ _ _ _)
      | (with_reducible exact gatehouseref15_Stretch.mono _ _ _ _)
      | (with_reducible exact sha_Stretch.mono _ _ _ _)
      | (with_reducible exact LeO.refl _)
      | (with_reducible exact LeO.none _)
      | (with_reducible refine LeO.ite ?_ ?_)
      | (with_reducible refine LeO.bind ?_ (fun _ => ?_))
      | exact ih0 _ _ _ _
      | exact ih1 _ _ _ _ _ _
      | exact gatehouseref15_Stretch.mono _ _ _ _
      | exact sha_Stretch.mono _ _ _ _
      | exact LeO.none _
      | refine LeO.ite ?_ ?_
      | refine LeO.bind ?_ (fun _ => ?_)
    · intro y0 y1 y2 y3 y4 y5
      unfold gatehouselaw15_ShaStretches.j1
      repeat' first
      | (with_reducible exact ih0 _ _ _ _)
      | (with_reducible exact ih1 _ _ _ _ _ _)
      | (with_reducible exact gatehouseref15_Stretch.mono _ _ _ _)
      | (with_reducible exact sha_Stretch.mono _ _ _ _)
      | (with_reducible exact LeO.refl _)
      | (with_reducible exact LeO.none _)
      | (with_reducible refine LeO.ite ?_ ?_)
      | (with_reducible refine LeO.bind ?_ (fun _ => ?_))
      | exact ih0 _ _ _ _
      | exact ih1 _ _ _ _ _ _
      | exact gatehouseref15_Stretch.mono _ _ _ _
      | exact sha_Stretch.mono _ _ _ _
      | exact LeO.none _
      | refine LeO.ite ?_ ?_
      | refine LeO.bind ?_ (fun _ => ?_)
theorem gatehouselaw15_ShaStretches.mono : ∀ a0 a1 a2 k, LeO (gatehouselaw15_ShaStretches.f k a0 a1 a2) (gatehouselaw15_ShaStretches.f (k + 1) a0 a1 a2) := by
  intro a0 a1 a2 k
  obtain ⟨ih0, ih1⟩ := gatehouselaw15_ShaStretches.mono_l k
  unfold gatehouselaw15_ShaStretches.f
  repeat' first
      | (with_reducible exact ih0 _ _ _ _)
      | (with_reducible exact ih1 _ _ _ _ _ _)
      | (with_reducible exact gatehouseref15_Stretch.mono _ _ _ _)
      | (with_reducible exact sha_Stretch.mono _ _ _ _)
      | (with_reducible exact LeO.refl _)
      | (with_reducible exact LeO.none _)
      | (with_reducible refine LeO.ite ?_ ?_)
      | (with_reducible refine LeO.bind ?_ (fun _ => ?_))
      | exact ih0 _ _ _ _
      | exact ih1 _ _ _ _ _ _
      | exact gatehouseref15_Stretch.mono _ _ _ _
      | exact sha_Stretch.mono _ _ _ _
      | exact LeO.none _
      | refine LeO.ite ?_ ?_
      | refine LeO.bind ?_ (fun _ => ?_)
set_option maxHeartbeats 8000000 in
set_option maxRecDepth 100000 in
theorem gatehouselaw15_ShaStretches.calls (k : Nat) (a0 : ByteArray) (a1 : ByteArray) (a2 : Int) (r : Bool) (w : World) (h : gatehouselaw15_ShaStretches.f k a0 a1 a2 = some r) :
    Calls Try.prog 7 #[.string a0, .string a1, .int .i64 a2] w fun e w' => e = .returned (.bool r) ∧ Below w.heap.size w w' := by
  have HB := Aside0.mk (Below.refl w.heap.size w)
  have H : ((gatehouselaw15_lives.f).bind fun t153 => (if t153 = true then (if (a0.size : Int) > 500 then (gatehouselaw15_ShaStretches.j0 k a0 a1 a2 true) else (if (a1.size : Int) > 500 then (gatehouselaw15_ShaStretches.j0 k a0 a1 a2 true) else (if a2 > 20 then (gatehouselaw15_ShaStretches.j0 k a0 a1 a2 (decide (a2 ≤ 1000))) else (gatehouselaw15_ShaStretches.j0 k a0 a1 a2 false)))) else (some false))) = some r := h
  clear h
  replace H := Option.bind_eq_some_iff.mp H
  obtain ⟨t153, A40, H⟩ := H
  replace H : (if t153 = true then (if (a0.size : Int) > 500 then (gatehouselaw15_ShaStretches.j0 k a0 a1 a2 true) else (if (a1.size : Int) > 500 then (gatehouselaw15_ShaStretches.j0 k a0 a1 a2 true) else (if a2 > 20 then (gatehouselaw15_ShaStretches.j0 k a0 a1 a2 (decide (a2 ≤ 1000))) else (gatehouselaw15_ShaStretches.j0 k a0 a1 a2 false)))) else (some false)) = some r := H
  have A4 := Aside0.mk A40
  clear A40
  by_cases c5 : t153 = true
  · subst c5
    have H1 : (if (a0.size : Int) > 500 then (gatehouselaw15_ShaStretches.j0 k a0 a1 a2 true) else (if (a1.size : Int) > 500 then (gatehouselaw15_ShaStretches.j0 k a0 a1 a2 true) else (if a2 > 20 then (gatehouselaw15_ShaStretches.j0 k a0 a1 a2 (decide (a2 ≤ 1000))) else (gatehouselaw15_ShaStretches.j0 k a0 a1 a2 false)))) = some r := by rw [if_pos rfl] at H; exact H
    clear H
    have H := H1
    clear H1
    have HC6 := Aside0.mk H
    clear H
    go_enter Try.func7, Try.ntmps7
    go_upto_region 3 with (first | ((with_reducible refine gate_callee (f := 9) rfl ?_); refine goesL_ (some 13) rfl rfl Try.func9 (by kernel_rfl) rfl #[] rfl (by (try simp only [List.map_toArray, List.map_cons, List.map_nil]); first | done | rfl | (simp only [List.length_drop, List.length_take]; rfl)) ?_; (with_reducible refine (gatehouselaw15_lives.calls  true _ A4.out).mono ?_); rintro e w7 ⟨rfl, hb⟩; refine ⟨_, rfl, ?_⟩; have n0_ := Aside0.mk (below_step (by repeat (first | (with_reducible first | exact HB.out | apply below_alloc | apply pw_below_drewN | apply below_drew1) | exact HB.out)) hb); clear HB; have HB := n0_; clear n0_; (try clear hb); (try clear hb2); (try clear hk); (try clear hi)))
    (try simp only [Act.put, List.setIfInBounds_toArray, List.set_cons_zero, List.set_cons_succ])
    go_cut [30] (fun v30 wc => ∃ (kq : Nat) (x30_5 : Bool), v30 = .bool x30_5 ∧ Aside0 (gatehouselaw15_ShaStretches.j0 kq a0 a1 a2 x30_5 = some r) ∧ Aside0 (kq ≤ k) ∧ Aside0 (Below w.heap.size w wc))
    case first =>
      have H := HC6.out
      clear HC6
      by_cases c8 : (a0.size : Int) > 500
      · rw [if_pos c8] at H
        have c8b0 : decide (500 < (a0.size : Int)) = true := decide_eq_true c8
        have c8b1 : decide (500 < a0.size) = true := decide_eq_true (by omega)
        clear c8
        (first | rw [c8b0] | (simp only [i64_w, i32_w]; rw [c8b0]) | skip)
        have H' := Aside0.mk H
        clear H
        go_wp2
        go_meet
        case rel => exact ⟨_, (true), (by first | rfl | (simp; done) | (simp [*]; done)), H', ⟨by first | omega | exact Nat.le_refl _⟩, ⟨by repeat (first | (with_reducible first | exact HB.out | apply below_alloc | apply pw_below_drewN | apply below_drew1) | exact HB.out)⟩⟩
      · rw [if_neg c8] at H
        have c8b0 : decide (500 < (a0.size : Int)) = false := decide_eq_false c8
        have c8b1 : decide (500 < a0.size) = false := decide_eq_false (by omega)
        clear c8
        (first | rw [c8b0] | (simp only [i64_w, i32_w]; rw [c8b0]) | skip)
        by_cases c9 : (a1.size : Int) > 500
        · rw [if_pos c9] at H
          have c9b0 : decide (500 < (a1.size : Int)) = true := decide_eq_true c9
          have c9b1 : decide (500 < a1.size) = true := decide_eq_true (by omega)
          clear c9
          have H' := Aside0.mk H
          clear H
          go_wp2
          go_meet
          case rel => exact ⟨_, (true), (by first | rfl | (simp; done) | (simp [*]; done)), H', ⟨by first | omega | exact Nat.le_refl _⟩, ⟨by repeat (first | (with_reducible first | exact HB.out | apply below_alloc | apply pw_below_drewN | apply below_drew1) | exact HB.out)⟩⟩
        · rw [if_neg c9] at H
          have c9b0 : decide (500 < (a1.size : Int)) = false := decide_eq_false c9
          have c9b1 : decide (500 < a1.size) = false := decide_eq_false (by omega)
          clear c9
          by_cases c10 : a2 > 20
          · rw [if_pos c10] at H
            have c10b0 : decide (20 < a2) = true := decide_eq_true c10
            clear c10
            have H' := Aside0.mk H
            clear H
            go_wp2
            go_meet
            case rel => exact ⟨_, (decide (a2 ≤ 1000)), (by first | rfl | (simp; done) | (simp [*]; done)), H', ⟨by first | omega | exact Nat.le_refl _⟩, ⟨by repeat (first | (with_reducible first | exact HB.out | apply below_alloc | apply pw_below_drewN | apply below_drew1) | exact HB.out)⟩⟩
          · rw [if_neg c10] at H
            have c10b0 : decide (20 < a2) = false := decide_eq_false c10
            clear c10
            have H' := Aside0.mk H
            clear H
            go_wp2
            go_meet
            case rel => exact ⟨_, (false), (by first | rfl | (simp; done) | (simp [*]; done)), H', ⟨by first | omega | exact Nat.le_refl _⟩, ⟨by repeat (first | (with_reducible first | exact HB.out | apply below_alloc | apply pw_below_drewN | apply below_drew1) | exact HB.out)⟩⟩
    case rest =>
      clear HC6
      try clear c1
      try clear p2
      try clear c5
      try clear c7
      try clear c8
      try clear c8b0
      try clear c8b1
      try clear c9
      try clear c9b0
      try clear c9b1
      try clear c10
      try clear c10b0
      obtain ⟨kq, x30_5, rfl, HA, HJ5, HB⟩ := hcut
      cases kq with
      | zero => exact absurd HA.out (by simp [gatehouselaw15_ShaStretches.j0])
      | succ kj5 =>
        have H := HA.out
        clear HA
        simp only [gatehouselaw15_ShaStretches.j0] at H
        by_cases c11 : x30_5 = true
        · subst c11
          have H1 : (some true) = some r := by rw [if_pos rfl] at H; exact H
          clear H
          have H := H1
          clear H1
          obtain rfl := Option.some.inj H
          go_wp2
          go_ret
          exact ⟨by first | rfl | (simp [errW_none, errW_some] <;> rfl) | (simp [*, errW_none, errW_some] <;> rfl), by repeat (first | (with_reducible first | exact HB.out | apply below_alloc | apply pw_below_drewN | apply below_drew1) | exact HB.out)⟩
        · replace c11 := Bool.eq_false_iff.mpr c11
          subst c11
          have H1 : ((sha_Stretch.f kj5 a0 a1 a2).bind fun bt154 => ((gatehouseref15_Stretch.f kj5 a0 a1 a2).bind fun bt156 => (if bt154.1.toList = bt156.1.toList then (gatehouselaw15_ShaStretches.j1 kj5 a0 a1 a2 bt154.1 bt154.2 (bt154.2 != bt156.2)) else (gatehouselaw15_ShaStretches.j1 kj5 a0 a1 a2 bt154.1 bt154.2 true)))) = some r := by rw [if_neg (show ¬ (false = true) by decide)] at H; exact H
          clear H
          have H := H1
          clear H1
          replace H := Option.bind_eq_some_iff.mp H
          obtain ⟨⟨t154, t155⟩, A120, H⟩ := H
          replace H : ((gatehouseref15_Stretch.f kj5 a0 a1 a2).bind fun bt156 => (if t154.toList = bt156.1.toList then (gatehouselaw15_ShaStretches.j1 kj5 a0 a1 a2 t154 t155 (t155 != bt156.2)) else (gatehouselaw15_ShaStretches.j1 kj5 a0 a1 a2 t154 t155 true))) = some r := H
          have A12 := Aside0.mk A120
          clear A120
          replace H := Option.bind_eq_some_iff.mp H
          obtain ⟨⟨t156, t157⟩, A130, H⟩ := H
          replace H : (if t154.toList = t156.toList then (gatehouselaw15_ShaStretches.j1 kj5 a0 a1 a2 t154 t155 (t155 != t157)) else (gatehouselaw15_ShaStretches.j1 kj5 a0 a1 a2 t154 t155 true)) = some r := H
          have A13 := Aside0.mk A130
          clear A130
          have HC14 := Aside0.mk H
          clear H
          go_upto_region 7 with (first | ((with_reducible refine gate_callee (f := 18) rfl ?_); refine goesL_ (some 35) rfl rfl Try.func18 (by kernel_rfl) rfl #[.string a0, .string a1, .int .i64 a2] rfl (by (try simp only [List.map_toArray, List.map_cons, List.map_nil]); first | done | rfl | (simp only [List.length_drop, List.length_take]; rfl)) ?_; (with_reducible refine (sha_Stretch.calls kj5 a0 a1 a2 t154 t155 _ A12.out).mono ?_); rintro e w15 ⟨rfl, hb⟩; refine ⟨_, rfl, ?_⟩; have n0_ := Aside0.mk (below_step (by repeat (first | (with_reducible first | exact HB.out | apply below_alloc | apply pw_below_drewN | apply below_drew1) | exact HB.out)) hb); clear HB; have HB := n0_; clear n0_; (try clear hb); (try clear hb2); (try clear hk); (try clear hi)) | ((with_reducible refine gate_callee (f := 19) rfl ?_); refine goesL_ (some 42) rfl rfl Try.func19 (by kernel_rfl) rfl #[.string a0, .string a1, .int .i64 a2] rfl (by (try simp only [List.map_toArray, List.map_cons, List.map_nil]); first | done | rfl | (simp only [List.length_drop, List.length_take]; rfl)) ?_; (with_reducible refine (gatehouseref15_Stretch.calls kj5 a0 a1 a2 t156 t157 _ A13.out).mono ?_); rintro e w16 ⟨rfl, hb⟩; refine ⟨_, rfl, ?_⟩; have n0_ := Aside0.mk (below_step (by repeat (first | (with_reducible first | exact HB.out | apply below_alloc | apply pw_below_drewN | apply below_drew1) | exact HB.out)) hb); clear HB; have HB := n0_; clear n0_; (try clear hb); (try clear hb2); (try clear hk); (try clear hi)))
          (try simp only [Act.put, List.setIfInBounds_toArray, List.set_cons_zero, List.set_cons_succ])
          go_cut [52] (fun v52 wc => ∃ (kq : Nat) (x52_13 : Bool), v52 = .bool x52_13 ∧ Aside0 (gatehouselaw15_ShaStretches.j1 kq a0 a1 a2 t154 t155 x52_13 = some r) ∧ Aside0 (kq ≤ kj5) ∧ Aside0 (Below w.heap.size w wc))
          case first =>
            have H := HC14.out
            clear HC14
            by_cases c17 : t154.toList = t156.toList
            · rw [if_pos c17] at H
              have c17b0 : (t154.toList == t156.toList) = true := beq_iff_eq.mpr c17
              have c17b1 : (t154.toList != t156.toList) = false := bne_eq_false_iff_eq.mpr c17
              clear c17
              (first | rw [c17b0] | (simp only [i64_w, i32_w]; rw [c17b0]) | skip)
              have H' := Aside0.mk H
              clear H
              go_wp2
              go_meet
              case rel => exact ⟨_, ((t155 != t157)), (by first | rfl | (simp; done) | (simp [*]; done)), H', ⟨by have := HJ5.out; first | omega | exact Nat.le_refl _⟩, ⟨by repeat (first | (with_reducible first | exact HB.out | apply below_alloc | apply pw_below_drewN | apply below_drew1) | exact HB.out)⟩⟩
            · rw [if_neg c17] at H
              have c17b0 : (t154.toList == t156.toList) = false := beq_eq_false_iff_ne.mpr c17
              have c17b1 : (t154.toList != t156.toList) = true := bne_iff_ne.mpr c17
              (first | rw [c17b0] | (simp only [i64_w, i32_w]; rw [c17b0]) | skip)
              have H' := Aside0.mk H
              clear H
              go_wp2
              go_meet
              case rel => exact ⟨_, (true), (by first | rfl | (simp; done) | (simp [*]; done)), H', ⟨by have := HJ5.out; first | omega | exact Nat.le_refl _⟩, ⟨by repeat (first | (with_reducible first | exact HB.out | apply below_alloc | apply pw_below_drewN | apply below_drew1) | exact HB.out)⟩⟩
          case rest =>
            clear HC14
            try clear c1
            try clear p2
            try clear c5
            try clear c7
            try clear c8
            try clear c8b0
            try clear c8b1
            try clear c9
            try clear c9b0
            try clear c9b1
            try clear c10
            try clear c10b0
            try clear c11
            try clear c17
            try clear c17b0
            try clear c17b1
            try clear p2
            obtain ⟨kq, x52_13, rfl, HA, HJ13, HB⟩ := hcut
            cases kq with
            | zero => exact absurd HA.out (by simp [gatehouselaw15_ShaStretches.j1])
            | succ kj13 =>
              have H := HA.out
              clear HA
              simp only [gatehouselaw15_ShaStretches.j1] at H
              by_cases c18 : x52_13 = true
              · subst c18
                have H1 : (some false) = some r := by rw [if_pos rfl] at H; exact H
                clear H
                have H := H1
                clear H1
                obtain rfl := Option.some.inj H
                go_wp2
                go_ret
                exact ⟨by first | rfl | (simp [errW_none, errW_some] <;> rfl) | (simp [*, errW_none, errW_some] <;> rfl), by repeat (first | (with_reducible first | exact HB.out | apply below_alloc | apply pw_below_drewN | apply below_drew1) | exact HB.out)⟩
              · replace c18 := Bool.eq_false_iff.mpr c18
                subst c18
                have H1 : (if t155 = 0 then ((sha_Stretch.f kj13 a0 a1 (wrap64 (a2 + 1))).bind fun bt158 => (if bt158.2 = 0 then (if 1 + t154.size ≤ 9223372036854775807 then ((sha_Sum.f ((⟨#[1]⟩ : ByteArray) ++ t154)).bind fun t160 => (some (bt158.1.toList == t160.toList))) else (none)) else (some false))) else (if t155 = 1 then (some (t154.toList == ([] : List UInt8))) else (some false))) = some r := by rw [if_neg (show ¬ (false = true) by decide)] at H; exact H
                clear H
                have H := H1
                clear H1
                by_cases c19 : t155 = 0
                · rw [if_pos c19] at H
                  have c19b0 : (t155 == 0) = true := beq_iff_eq.mpr c19
                  have c19b1 : (t155 != 0) = false := bne_eq_false_iff_eq.mpr c19
                  clear c19
                  replace H := Option.bind_eq_some_iff.mp H
                  obtain ⟨⟨t158, t159⟩, A200, H⟩ := H
                  replace H : (if t159 = 0 then (if 1 + t154.size ≤ 9223372036854775807 then ((sha_Sum.f ((⟨#[1]⟩ : ByteArray) ++ t154)).bind fun t160 => (some (t158.toList == t160.toList))) else (none)) else (some false)) = some r := H
                  have A20 := Aside0.mk A200
                  clear A200
                  by_cases c21 : t159 = 0
                  · rw [if_pos c21] at H
                    have c21b0 : (t159 == 0) = true := beq_iff_eq.mpr c21
                    have c21b1 : (t159 != 0) = false := bne_eq_false_iff_eq.mpr c21
                    clear c21
                    by_cases c22 : 1 + t154.size ≤ 9223372036854775807
                    · rw [if_pos c22] at H
                      have c22b0 := eq_true c22
                      have c22b1 : decide (1 + t154.size ≤ 9223372036854775807) = true := decide_eq_true c22
                      try have c22b2 : (9223372036854775807 < 1 + t154.size) = False := eq_false (Nat.not_lt.2 c22)
                      replace H := Option.bind_eq_some_iff.mp H
                      obtain ⟨t160, A230, H⟩ := H
                      replace H : (some (t158.toList == t160.toList)) = some r := H
                      have A23 := Aside0.mk A230
                      clear A230
                      obtain rfl := Option.some.inj H
                      go_wp2_with (first | ((with_reducible refine gate_callee (f := 18) rfl ?_); refine goesL_ (some 66) rfl rfl Try.func18 (by kernel_rfl) rfl #[.string a0, .string a1, .int .i64 (wrap64 (a2 + 1))] rfl (by (try simp only [List.map_toArray, List.map_cons, List.map_nil]); first | done | rfl | (simp only [List.length_drop, List.length_take]; rfl)) ?_; (with_reducible refine (sha_Stretch.calls kj13 a0 a1 (wrap64 (a2 + 1)) t158 t159 _ A20.out).mono ?_); rintro e w24 ⟨rfl, hb⟩; refine ⟨_, rfl, ?_⟩; have n0_ := Aside0.mk (below_step (by repeat (first | (with_reducible first | exact HB.out | apply below_alloc | apply pw_below_drewN | apply below_drew1) | exact HB.out)) hb); clear HB; have HB := n0_; clear n0_; (try clear hb); (try clear hb2); (try clear hk); (try clear hi)) | (go_at_call 10; (with_reducible refine (sha_Sum.calls ((⟨#[1]⟩ : ByteArray) ++ t154) t160 _ A23.out).mono ?_); rintro e w25 ⟨rfl, hb⟩; have n0_ := Aside0.mk (below_step (by repeat (first | (with_reducible first | exact HB.out | apply below_alloc | apply pw_below_drewN | apply below_drew1) | exact HB.out)) hb); clear HB; have HB := n0_; clear n0_; (try clear hb); (try clear hb2); (try clear hk); (try clear hi)))
                      go_ret
                      exact ⟨by first | rfl | (simp [errW_none, errW_some] <;> rfl) | (simp [*, errW_none, errW_some] <;> rfl), by repeat (first | (with_reducible first | exact HB.out | apply below_alloc | apply pw_below_drewN | apply below_drew1) | exact HB.out)⟩
                    · rw [if_neg c22] at H
                      exact absurd H (by simp)
                  · rw [if_neg c21] at H
                    have c21b0 : (t159 == 0) = false := beq_eq_false_iff_ne.mpr c21
                    have c21b1 : (t159 != 0) = true := bne_iff_ne.mpr c21
                    obtain rfl := Option.some.inj H
                    go_wp2_with (first | ((with_reducible refine gate_callee (f := 18) rfl ?_); refine goesL_ (some 66) rfl rfl Try.func18 (by kernel_rfl) rfl #[.string a0, .string a1, .int .i64 (wrap64 (a2 + 1))] rfl (by (try simp only [List.map_toArray, List.map_cons, List.map_nil]); first | done | rfl | (simp only [List.length_drop, List.length_take]; rfl)) ?_; (with_reducible refine (sha_Stretch.calls kj13 a0 a1 (wrap64 (a2 + 1)) t158 t159 _ A20.out).mono ?_); rintro e w26 ⟨rfl, hb⟩; refine ⟨_, rfl, ?_⟩; have n0_ := Aside0.mk (below_step (by repeat (first | (with_reducible first | exact HB.out | apply below_alloc | apply pw_below_drewN | apply below_drew1) | exact HB.out)) hb); clear HB; have HB := n0_; clear n0_; (try clear hb); (try clear hb2); (try clear hk); (try clear hi)))
                    go_ret
                    exact ⟨by first | rfl | (simp [errW_none, errW_some] <;> rfl) | (simp [*, errW_none, errW_some] <;> rfl), by repeat (first | (with_reducible first | exact HB.out | apply below_alloc | apply pw_below_drewN | apply below_drew1) | exact HB.out)⟩
                · rw [if_neg c19] at H
                  have c19b0 : (t155 == 0) = false := beq_eq_false_iff_ne.mpr c19
                  have c19b1 : (t155 != 0) = true := bne_iff_ne.mpr c19
                  by_cases c27 : t155 = 1
                  · rw [if_pos c27] at H
                    have c27b0 : (t155 == 1) = true := beq_iff_eq.mpr c27
                    have c27b1 : (t155 != 1) = false := bne_eq_false_iff_eq.mpr c27
                    clear c27
                    obtain rfl := Option.some.inj H
                    go_wp2
                    go_ret
                    exact ⟨by first | rfl | (simp [errW_none, errW_some] <;> rfl) | (simp [*, errW_none, errW_some] <;> rfl), by repeat (first | (with_reducible first | exact HB.out | apply below_alloc | apply pw_below_drewN | apply below_drew1) | exact HB.out)⟩
                  · rw [if_neg c27] at H
                    have c27b0 : (t155 == 1) = false := beq_eq_false_iff_ne.mpr c27
                    have c27b1 : (t155 != 1) = true := bne_iff_ne.mpr c27
                    obtain rfl := Option.some.inj H
                    go_wp2
                    go_ret
                    exact ⟨by first | rfl | (simp [errW_none, errW_some] <;> rfl) | (simp [*, errW_none, errW_some] <;> rfl), by repeat (first | (with_reducible first | exact HB.out | apply below_alloc | apply pw_below_drewN | apply below_drew1) | exact HB.out)⟩
  · replace c5 := Bool.eq_false_iff.mpr c5
    subst c5
    have H1 : (some false) = some r := by rw [if_neg (show ¬ (false = true) by decide)] at H; exact H
    clear H
    have H := H1
    clear H1
    obtain rfl := Option.some.inj H
    go_enter Try.func7, Try.ntmps7
    go_wp2_with (first | ((with_reducible refine gate_callee (f := 9) rfl ?_); refine goesL_ (some 13) rfl rfl Try.func9 (by kernel_rfl) rfl #[] rfl (by (try simp only [List.map_toArray, List.map_cons, List.map_nil]); first | done | rfl | (simp only [List.length_drop, List.length_take]; rfl)) ?_; (with_reducible refine (gatehouselaw15_lives.calls  false _ A4.out).mono ?_); rintro e w28 ⟨rfl, hb⟩; refine ⟨_, rfl, ?_⟩; have n0_ := Aside0.mk (below_step (by repeat (first | (with_reducible first | exact HB.out | apply below_alloc | apply pw_below_drewN | apply below_drew1) | exact HB.out)) hb); clear HB; have HB := n0_; clear n0_; (try clear hb); (try clear hb2); (try clear hk); (try clear hi)))
    go_ret
    exact ⟨by first | rfl | (simp [errW_none, errW_some] <;> rfl) | (simp [*, errW_none, errW_some] <;> rfl), by repeat (first | (with_reducible first | exact HB.out | apply below_alloc | apply pw_below_drewN | apply below_drew1) | exact HB.out)⟩

/-- THE ONE PURE STATEMENT of gatehouselaw15_ShaStretches: yours. -/
def gatehouselaw15_ShaStretches.Pure : Prop := ∀ (a0 : ByteArray) (a1 : ByteArray) (a2 : Int), a0.size ≤ 140737488351232 → a1.size ≤ 140737488351232 → (Lit.int .i64 a2).wf = true → ∃ k, gatehouselaw15_ShaStretches.f k a0 a1 a2 = some true
theorem gatehouselaw15_ShaStretches.walk (P : gatehouselaw15_ShaStretches.Pure) (a0 : ByteArray) (a1 : ByteArray) (a2 : Int) (w : World) (w0 : a0.size ≤ 140737488351232) (w1 : a1.size ≤ 140737488351232) (w2 : (Lit.int .i64 a2).wf = true) :
    Calls Try.prog 7 #[.string a0, .string a1, .int .i64 a2] w fun e w' => e = .returned (.bool true) ∧ Below w.heap.size w w' := by
  obtain ⟨k, h⟩ := P a0 a1 a2 w0 w1 w2
  refine (gatehouselaw15_ShaStretches.calls k a0 a1 a2 true w h).mono ?_
  rintro e w' ⟨rfl, hd⟩
  exact ⟨rfl, hd⟩

end Go.Proofs.YtnddocchfkhlbaaZ
namespace Go.Proofs.Ytnddocchfkhlbaa.Pure
open Go.RowKit Go.Proofs.Ytnddocchfkhlbaa Go.Proofs.YtnddocchfkhlbaaZ Go.Proofs.YtnddocchfkhlbaaW.PrintWords Go.Proofs.YtnddocchfkhlbaaW.PrintLast

def sumOf (a : ByteArray) : ByteArray := bstr (shaD a.data.toList)
theorem sumOf_size (a : ByteArray) : (sumOf a).size = 32 := by unfold sumOf; rw [bstr_size, shaD_length]
theorem sha_sum (a : ByteArray) (h : a.size ≤ 70368744177664) : sha_Sum.f a = some (sumOf a) := by unfold sha_Sum.f; rw [if_pos h]; rfl
theorem ref_sum (a : ByteArray) (h : a.size ≤ 70368744177664) : gatehouseref15_Sum.f a = some (sumOf a) := by unfold gatehouseref15_Sum.f; rw [if_pos h]; rfl
def onD (d : ByteArray) : ByteArray := (⟨#[1]⟩ : ByteArray) ++ d
theorem onD_size (d : ByteArray) : (onD d).size = 1 + d.size := by unfold onD; rw [ByteArray.size_append]; rfl
def rs (d : ByteArray) : Nat → ByteArray
  | 0 => d
  | m + 1 => rs (sumOf (onD d)) m
theorem rs_size (m : Nat) : ∀ d, d.size = 32 → (rs d m).size = 32 := by
  induction m with
  | zero => intro d h; exact h
  | succ m ih => intro d _; exact ih _ (sumOf_size _)
theorem rs_succ (m : Nat) : ∀ d, rs d (m + 1) = sumOf (onD (rs d m)) := by
  induction m with
  | zero => intro d; rfl
  | succ m ih => intro d; show rs (sumOf (onD d)) (m + 1) = _; rw [ih]; rfl

theorem sha_loop (m : Nat) : ∀ (k : Nat) (d : ByteArray) (n i : Int), n - i = m → 0 ≤ i → n ≤ 1001 → m < k → d.size = 32 → sha_Stretch.l0 k d n i = some (rs d m, 0) := by
  induction m with
  | zero =>
    intro k d n i h h0 h1 hk hd
    obtain ⟨k, rfl⟩ : ∃ q, k = q + 1 := ⟨k - 1, by omega⟩
    simp only [sha_Stretch.l0]; rw [if_neg (by omega)]; rfl
  | succ m ih =>
    intro k d n i h h0 h1 hk hd
    obtain ⟨k, rfl⟩ : ∃ q, k = q + 1 := ⟨k - 1, by omega⟩
    have hw : wrap64 (i + 1) = i + 1 := by unfold wrap64; omega
    simp only [sha_Stretch.l0]
    rw [if_pos (by omega), if_pos (by omega), sha_sum _ (by have := onD_size d; unfold onD at this; omega), Option.bind_some, hw]
    exact ih k _ n (i + 1) (by omega) (by omega) h1 (by omega) (sumOf_size _)
theorem ref_loop (m : Nat) : ∀ (k : Nat) (d : ByteArray) (n i : Int), n - i = m → 0 ≤ i → n ≤ 1001 → m < k → d.size = 32 → gatehouseref15_Stretch.l0 k n d i = some (rs d m, 0) := by
  induction m with
  | zero =>
    intro k d n i h h0 h1 hk hd
    obtain ⟨k, rfl⟩ : ∃ q, k = q + 1 := ⟨k - 1, by omega⟩
    simp only [gatehouseref15_Stretch.l0]; rw [if_neg (by omega)]; rfl
  | succ m ih =>
    intro k d n i h h0 h1 hk hd
    obtain ⟨k, rfl⟩ : ∃ q, k = q + 1 := ⟨k - 1, by omega⟩
    have hw : wrap64 (i + 1) = i + 1 := by unfold wrap64; omega
    simp only [gatehouseref15_Stretch.l0]
    rw [if_pos (by omega), if_pos (by omega), ref_sum _ (by have := onD_size d; unfold onD at this; omega), Option.bind_some, hw]
    exact ih k _ n (i + 1) (by omega) (by omega) h1 (by omega) (sumOf_size _)

def eights : Bool := (List.range 501).all fun n => match numbers_Text.f 12 [(n : Int)], gatehouseref03_Eight.f 12 (n : Int) with | some x, some y => x.data == y.data && x.size == 8 | _, _ => false
theorem eights_all : eights = true := by kernel_rfl
theorem eight_at (n : Nat) (h : n ≤ 500) : ∃ b : ByteArray, b.size = 8 ∧ numbers_Text.f 12 [(n : Int)] = some b ∧ gatehouseref03_Eight.f 12 (n : Int) = some b := by
  have e := eights_all
  unfold eights at e
  have q := List.all_eq_true.1 e n (by simp; omega)
  cases hb : numbers_Text.f 12 [(n : Int)] with
  | none => rw [hb] at q; cases q
  | some x =>
    cases hc : gatehouseref03_Eight.f 12 (n : Int) with
    | none => rw [hb, hc] at q; cases q
    | some y =>
      rw [hb, hc] at q
      simp only [Bool.and_eq_true, beq_iff_eq] at q
      have hxy : x = y := by
        cases x; cases y
        exact congrArg ByteArray.mk q.1
      exact ⟨x, q.2, rfl, by rw [hxy]⟩

def head (b s p : ByteArray) : ByteArray := (((⟨#[0]⟩ : ByteArray) ++ b) ++ s) ++ p
theorem stretch_both (s p : ByteArray) (hs : s.size ≤ 500) (hp : p.size ≤ 500) : ∃ d : ByteArray, d.size = 32 ∧ ∀ (n : Int) (k : Nat), 0 ≤ n → n ≤ 1000 → (n.toNat + 20 ≤ k) →
    sha_Stretch.f k s p n = some (rs d n.toNat, 0) ∧ gatehouseref15_Stretch.f k s p n = some (rs d n.toNat, 0) := by
  obtain ⟨b, hb, hT, hE⟩ := eight_at s.size hs
  refine ⟨sumOf (head b s p), sumOf_size _, fun n k h0 h1 hk => ?_⟩
  obtain ⟨k, rfl⟩ : ∃ q, k = q + 1 := ⟨k - 1, by omega⟩
  have hw : IntKind.u64.wrap (s.size : Int) = (s.size : Int) := IntWalk.u64_in _ (by omega)
  have hT' : numbers_Text.f k [(s.size : Int)] = some b := at_rounds (numbers_Text.mono _) (by omega) hT
  have hE' : gatehouseref03_Eight.f k (s.size : Int) = some b := at_rounds (gatehouseref03_Eight.mono _) (by omega) hE
  have z1 : ((⟨#[0]⟩ : ByteArray) ++ b).size = 9 := by rw [ByteArray.size_append, hb]; rfl
  have z2 : (((⟨#[0]⟩ : ByteArray) ++ b) ++ s).size = 9 + s.size := by rw [ByteArray.size_append, z1]
  have z3 : ((((⟨#[0]⟩ : ByteArray) ++ b) ++ s) ++ p).size = 9 + s.size + p.size := by rw [ByteArray.size_append, z2]
  have hd : decide (n > 1000) = false := by simpa using h1
  constructor
  · unfold sha_Stretch.f
    rw [if_neg (by omega), hd]
    simp only [sha_Stretch.j0]
    rw [if_neg (by simp), hT', Option.bind_some, if_pos (by omega), if_pos (by omega), if_pos (by omega), sha_sum _ (by omega), Option.bind_some]
    exact sha_loop _ _ _ _ _ (by omega) (by omega) (by omega) (by omega) (sumOf_size _)
  · unfold gatehouseref15_Stretch.f
    rw [if_neg (by omega), hd]
    simp only [gatehouseref15_Stretch.j0]
    rw [if_neg (by simp), hw, hE', Option.bind_some, if_pos (by omega), if_pos (by omega), if_pos (by omega), ref_sum _ (by omega), Option.bind_some]
    exact ref_loop _ _ _ _ _ (by omega) (by omega) (by omega) (by omega) (sumOf_size _)
def nothing : ByteArray := ⟨#[]⟩
theorem stretch_no (s p : ByteArray) (n : Int) (k : Nat) (h : n < 0 ∨ 1000 < n) : sha_Stretch.f (k + 1) s p n = some (nothing, 1) ∧ gatehouseref15_Stretch.f (k + 1) s p n = some (nothing, 1) := by
  unfold sha_Stretch.f gatehouseref15_Stretch.f
  by_cases h0 : n < 0
  · rw [if_pos h0, if_pos h0]; simp only [sha_Stretch.j0, gatehouseref15_Stretch.j0]; exact ⟨rfl, rfl⟩
  · have hd : decide (n > 1000) = true := by simp; omega
    rw [if_neg h0, if_neg h0, hd]; simp only [sha_Stretch.j0, gatehouseref15_Stretch.j0]; exact ⟨rfl, rfl⟩

theorem j0_true (k : Nat) (a0 a1 : ByteArray) (a2 : Int) : gatehouselaw15_ShaStretches.j0 (k + 1) a0 a1 a2 true = some true := by
  simp only [gatehouselaw15_ShaStretches.j0]; rfl
theorem j0_false (a0 a1 : ByteArray) (a2 : Int) (h0 : a0.size ≤ 500) (h1 : a1.size ≤ 500) (h2 : a2 ≤ 20 ∨ 1000 < a2) (hw : a2 < 9223372036854775808) : gatehouselaw15_ShaStretches.j0 60 a0 a1 a2 false = some true := by
  simp only [gatehouselaw15_ShaStretches.j0]
  rw [if_neg (by simp)]
  by_cases hb : a2 < 0 ∨ 1000 < a2
  · obtain ⟨e1, e2⟩ := stretch_no a0 a1 a2 58 hb
    rw [e1, Option.bind_some, e2, Option.bind_some, if_pos rfl]
    simp only [gatehouselaw15_ShaStretches.j1]
    rw [if_neg (by simp), if_neg (by decide), if_pos trivial]
    exact congrArg some (by decide +kernel)
  · obtain ⟨d, hd, hall⟩ := stretch_both a0 a1 h0 h1
    obtain ⟨e1, e2⟩ := hall a2 59 (by omega) (by omega) (by omega)
    obtain ⟨e3, _⟩ := hall (a2 + 1) 58 (by omega) (by omega) (by omega)
    have hw : wrap64 (a2 + 1) = a2 + 1 := by unfold wrap64; omega
    have hz := rs_size a2.toNat d hd
    have ht : (a2 + 1).toNat = a2.toNat + 1 := by omega
    rw [e1, Option.bind_some, e2, Option.bind_some, if_pos rfl]
    simp only [gatehouselaw15_ShaStretches.j1]
    rw [if_neg (by simp), if_pos trivial, hw, e3, Option.bind_some, if_pos rfl, if_pos (by rw [hz]; omega), sha_sum _ (by have := onD_size (rs d a2.toNat); unfold onD at this; omega), Option.bind_some, ht, rs_succ]
    simp [onD]
theorem ShaStretches : gatehouselaw15_ShaStretches.Pure := by
  intro a0 a1 a2 _ _ hw
  have hw' : a2 < 9223372036854775808 := by
    have := (bounds_i64 hw).2
    omega
  refine ⟨60, ?_⟩
  unfold gatehouselaw15_ShaStretches.f gatehouselaw15_lives.f
  rw [Option.bind_some, if_pos rfl]
  by_cases h0 : (a0.size : Int) > 500
  · rw [if_pos h0]; exact j0_true _ _ _ _
  · rw [if_neg h0]
    by_cases h1 : (a1.size : Int) > 500
    · rw [if_pos h1]; exact j0_true _ _ _ _
    · rw [if_neg h1]
      by_cases h2 : a2 > 20
      · rw [if_pos h2]
        by_cases h3 : a2 ≤ 1000
        · rw [decide_eq_true h3]; exact j0_true _ _ _ _
        · rw [decide_eq_false h3]; exact j0_false _ _ _ (by omega) (by omega) (by omega) hw'
      · rw [if_neg h2]; exact j0_false _ _ _ (by omega) (by omega) (by omega) hw'
end Go.Proofs.Ytnddocchfkhlbaa.Pure
