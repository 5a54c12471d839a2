-- Written by a program of this session (gprint.py, over the kit's printer).
import Derived.Test.YtnddocchfkhlbaaZ0
namespace Go.Proofs.YtnddocchfkhlbaaZ
open Go.RowKit Go.Proofs.YtnddocchfkhlbaaW.PrintWords Go.Proofs.YtnddocchfkhlbaaW.PrintLast Go.Proofs.YtnddocchfkhlbaaW.PrintMore
attribute [local go_sem] max2_int min2_int max_two min_two max_three min_three max_four min_four   -- for this text's walks alone
set_option linter.unusedVariables false
set_option linter.unusedSimpArgs false

/-! ### gatehouseref15_prime: function 26 -/
mutual
def gatehouseref15_prime.l0 : Nat → Int → Int → Option (Int)
  | 0, _, _ => none
  | k + 1, x0, x3 => if x3 < 400 then (gatehouseref15_prime.l1 k x0 x3 true 2) else (some 0)
def gatehouseref15_prime.l1 : Nat → Int → Int → Bool → Int → Option (Int)
  | 0, _, _, _, _ => none
  | k + 1, x0, x3, x4, x5 => if (IntKind.u64.wrap (x5 * x5)) ≤ x3 then (if x5 = 0 then (none) else (if (Int.tmod x3 x5) = 0 then (gatehouseref15_prime.l1 k x0 x3 false (IntKind.u64.wrap (x5 + 1))) else (gatehouseref15_prime.l1 k x0 x3 x4 (IntKind.u64.wrap (x5 + 1))))) else (if x4 = true then (gatehouseref15_prime.j2 k x0 x3 x4 (x0 == 0)) else (gatehouseref15_prime.j2 k x0 x3 x4 false))
def gatehouseref15_prime.j2 : Nat → Int → Int → Bool → Bool → Option (Int)
  | 0, _, _, _, _ => none
  | k + 1, x0, x3, x4, x25 => if x25 = true then (some x3) else (if x4 = true then (gatehouseref15_prime.l0 k (wrap64 (x0 - 1)) (IntKind.u64.wrap (x3 + 1))) else (gatehouseref15_prime.l0 k x0 (IntKind.u64.wrap (x3 + 1))))
end
def gatehouseref15_prime.f (k : Nat) (a0 : Int) : Option (Int) := gatehouseref15_prime.l0 k a0 2
theorem gatehouseref15_prime.mono_l : ∀ k, (∀ y0 y1, LeO (gatehouseref15_prime.l0 k y0 y1) (gatehouseref15_prime.l0 (k + 1) y0 y1)) ∧ (∀ y0 y1 y2 y3, LeO (gatehouseref15_prime.l1 k y0 y1 y2 y3) (gatehouseref15_prime.l1 (k + 1) y0 y1 y2 y3)) ∧ (∀ y0 y1 y2 y3, LeO (gatehouseref15_prime.j2 k y0 y1 y2 y3) (gatehouseref15_prime.j2 (k + 1) y0 y1 y2 y3))
  | 0 => ⟨fun _ _ r h => by simp [gatehouseref15_prime.l0] at h, fun _ _ _ _ r h => by simp [gatehouseref15_prime.l1] at h, fun _ _ _ _ r h => by simp [gatehouseref15_prime.j2] at h⟩
  | k + 1 => by
    obtain ⟨ih0, ih1, ih2⟩ := gatehouseref15_prime.mono_l k
    refine ⟨?_, ?_, ?_⟩
    · intro y0 y1
      unfold gatehouseref15_prime.l0
      repeat' first
      | (with_reducible exact ih0 _ _)
      | (with_reducible exact ih1 _ _ _ _)
      | (with_reducible exact ih2 _ _ _ _)
      | (with_reducible exact LeO.refl _)
      | (with_reducible exact LeO.none _)
      | (with_reducible refine LeO.ite ?_ ?_)
      | (with_reducible refine LeO.bind ?_ (fun _ => ?_))
      | exact ih0 _ _
      | exact ih1 _ _ _ _
      | exact ih2 _ _ _ _
      | exact LeO.none _
      | refine LeO.ite ?_ ?_
      | refine LeO.bind ?_ (fun _ => ?_)
    · intro y0 y1 y2 y3
      unfold gatehouseref15_prime.l1
      repeat' first
      | (with_reducible exact ih0 _ _)
      | (with_reducible exact ih1 _ _ _ _)
      | (with_reducible exact ih2 _ _ _ _)
      | (with_reducible exact LeO.refl _)
      | (with_reducible exact LeO.none _)
      | (with_reducible refine LeO.ite ?_ ?_)
      | (with_reducible refine LeO.bind ?_ (fun _ => ?_))
      | exact ih0 _ _
      | exact ih1 _ _ _ _
      | exact ih2 _ _ _ _
      | exact LeO.none _
      | refine LeO.ite ?_ ?_
      | refine LeO.bind ?_ (fun _ => ?_)
    · intro y0 y1 y2 y3
      unfold gatehouseref15_prime.j2
      repeat' first
      | (with_reducible exact ih0 _ _)
      | (with_reducible exact ih1 _ _ _ _)
      | (with_reducible exact ih2 _ _ _ _)
      | (with_reducible exact LeO.refl _)
      | (with_reducible exact LeO.none _)
      | (with_reducible refine LeO.ite ?_ ?_)
      | (with_reducible refine LeO.bind ?_ (fun _ => ?_))
      | exact ih0 _ _
      | exact ih1 _ _ _ _
      | exact ih2 _ _ _ _
      | exact LeO.none _
      | refine LeO.ite ?_ ?_
      | refine LeO.bind ?_ (fun _ => ?_)
theorem gatehouseref15_prime.mono : ∀ a0 k, LeO (gatehouseref15_prime.f k a0) (gatehouseref15_prime.f (k + 1) a0) := by
  intro a0 k
  obtain ⟨ih0, ih1, ih2⟩ := gatehouseref15_prime.mono_l k
  unfold gatehouseref15_prime.f
  repeat' first
      | (with_reducible exact ih0 _ _)
      | (with_reducible exact ih1 _ _ _ _)
      | (with_reducible exact ih2 _ _ _ _)
      | (with_reducible exact LeO.refl _)
      | (with_reducible exact LeO.none _)
      | (with_reducible refine LeO.ite ?_ ?_)
      | (with_reducible refine LeO.bind ?_ (fun _ => ?_))
      | exact ih0 _ _
      | exact ih1 _ _ _ _
      | exact ih2 _ _ _ _
      | exact LeO.none _
      | refine LeO.ite ?_ ?_
      | refine LeO.bind ?_ (fun _ => ?_)
set_option maxHeartbeats 8000000 in
set_option maxRecDepth 100000 in
theorem gatehouseref15_prime.calls (k : Nat) (a0 : Int) (r : Int) (w : World) (h : gatehouseref15_prime.f k a0 = some r) :
    Calls Try.prog 26 #[.int .i64 a0] w fun e w' => e = .returned (.int .u64 r) ∧ Drawn0 w w' := by
  have H : (gatehouseref15_prime.l0 k a0 2) = some r := h
  clear h
  have H' := Aside0.mk H
  clear H
  go_enter Try.func26, Try.ntmps26
  go_wp2
  go_loopg [0, 3] k (fun kq v0 v3 w' => ∃ (x0_1 : Int) (x3_1 : Int), v0 = .int .i64 x0_1 ∧ v3 = .int .u64 x3_1 ∧ Aside0 (gatehouseref15_prime.l0 kq x0_1 x3_1 = some r) ∧ Aside0 (kq ≤ k) ∧ Drawn0 w w')
  case atStart => exact ⟨(a0), (2), (by first | rfl | (simp; done) | (simp [*]; done)), (by first | rfl | (simp; done) | (simp [*]; done)), H', ⟨Nat.le_refl _⟩, by repeat (first | exact Drawn0.refl _ | apply Drawn0.step)⟩
  case round =>
    clear H'
    obtain ⟨x0_1, x3_1, rfl, rfl, HA, HK1, ⟨m1, rfl⟩⟩ := hrel
    cases gk with
    | zero => exact absurd HA.out (by simp [gatehouseref15_prime.l0])
    | succ k1 =>
      have H := HA.out
      clear HA
      simp only [gatehouseref15_prime.l0] at H
      by_cases c2 : x3_1 < 400
      · rw [if_pos c2] at H
        have c2b0 : decide (x3_1 < 400) = true := decide_eq_true c2
        clear c2
        have H' := Aside0.mk H
        clear H
        go_wp2
        go_loopg [4, 5] k1 (fun kq v4 v5 w' => ∃ (x4_2 : Bool) (x5_2 : Int), v4 = .bool x4_2 ∧ v5 = .int .u64 x5_2 ∧ Aside0 (gatehouseref15_prime.l1 kq x0_1 x3_1 x4_2 x5_2 = some r) ∧ Aside0 (kq ≤ k1) ∧ Drawn0 w w')
        case atStart => exact ⟨(true), (2), (by first | rfl | (simp; done) | (simp [*]; done)), (by first | rfl | (simp; done) | (simp [*]; done)), H', ⟨Nat.le_refl _⟩, by repeat (first | exact Drawn0.refl _ | apply Drawn0.step)⟩
        case round =>
          clear H'
          try clear c2
          try clear c2b0
          try clear p2
          obtain ⟨x4_2, x5_2, rfl, rfl, HA, HK2, ⟨m2, rfl⟩⟩ := hrel
          cases gk with
          | zero => exact absurd HA.out (by simp [gatehouseref15_prime.l1])
          | succ k2 =>
            have H := HA.out
            clear HA
            simp only [gatehouseref15_prime.l1] at H
            by_cases c3 : (IntKind.u64.wrap (x5_2 * x5_2)) ≤ x3_1
            · rw [if_pos c3] at H
              have c3b0 : decide ((IntKind.u64.wrap (x5_2 * x5_2)) ≤ x3_1) = true := decide_eq_true c3
              clear c3
              by_cases c4 : x5_2 = 0
              · rw [if_pos c4] at H
                exact absurd H (by simp)
              · rw [if_neg c4] at H
                have c4b0 : (x5_2 == 0) = false := beq_eq_false_iff_ne.mpr c4
                have c4b1 : (x5_2 != 0) = true := bne_iff_ne.mpr c4
                by_cases c5 : (Int.tmod x3_1 x5_2) = 0
                · rw [if_pos c5] at H
                  have c5b0 : ((Int.tmod x3_1 x5_2) == 0) = true := beq_iff_eq.mpr c5
                  have c5b1 : ((Int.tmod x3_1 x5_2) != 0) = false := bne_eq_false_iff_eq.mpr c5
                  clear c5
                  have H' := Aside0.mk H
                  clear H
                  go_wp2
                  go_roundg k2
                  case measure => have := HK1.out; have := HK2.out; omega
                  case rel => exact ⟨(false), (IntKind.u64.wrap (x5_2 + 1)), (by first | rfl | (simp; done) | (simp [*]; done)), (by first | rfl | (simp; done) | (simp [*]; done)), H', ⟨by have := HK1.out; have := HK2.out; omega⟩, by repeat (first | exact Drawn0.refl _ | apply Drawn0.step)⟩
                · rw [if_neg c5] at H
                  have c5b0 : ((Int.tmod x3_1 x5_2) == 0) = false := beq_eq_false_iff_ne.mpr c5
                  have c5b1 : ((Int.tmod x3_1 x5_2) != 0) = true := bne_iff_ne.mpr c5
                  have H' := Aside0.mk H
                  clear H
                  go_wp2
                  go_roundg k2
                  case measure => have := HK1.out; have := HK2.out; omega
                  case rel => exact ⟨(x4_2), (IntKind.u64.wrap (x5_2 + 1)), (by first | rfl | (simp; done) | (simp [*]; done)), (by first | rfl | (simp; done) | (simp [*]; done)), H', ⟨by have := HK1.out; have := HK2.out; omega⟩, by repeat (first | exact Drawn0.refl _ | apply Drawn0.step)⟩
            · rw [if_neg c3] at H
              have c3b0 : decide ((IntKind.u64.wrap (x5_2 * x5_2)) ≤ x3_1) = false := decide_eq_false c3
              clear c3
              have HC6 := Aside0.mk H
              clear H
              go_upto_region 10 with (fail)
              go_cut [25] (fun v25 wc => ∃ (kq : Nat) (x25_5 : Bool), v25 = .bool x25_5 ∧ Aside0 (gatehouseref15_prime.j2 kq x0_1 x3_1 x4_2 x25_5 = some r) ∧ Aside0 (kq ≤ k2) ∧ Drawn0 w wc)
              case first =>
                have H := HC6.out
                clear HC6
                by_cases c7 : x4_2 = true
                · subst c7
                  have H1 : (gatehouseref15_prime.j2 k2 x0_1 x3_1 true (x0_1 == 0)) = some r := by rw [if_pos rfl] at H; exact H
                  clear H
                  have H := H1
                  clear H1
                  have H' := Aside0.mk H
                  clear H
                  go_wp2
                  go_meet
                  case rel => exact ⟨_, ((x0_1 == 0)), (by first | rfl | (simp; done) | (simp [*]; done)), H', ⟨by have := HK1.out; have := HK2.out; first | omega | exact Nat.le_refl _⟩, by repeat (first | exact Drawn0.refl _ | apply Drawn0.step)⟩
                · replace c7 := Bool.eq_false_iff.mpr c7
                  subst c7
                  have H1 : (gatehouseref15_prime.j2 k2 x0_1 x3_1 false false) = some r := by rw [if_neg (show ¬ (false = true) by decide)] at H; exact H
                  clear H
                  have H := H1
                  clear H1
                  have H' := Aside0.mk H
                  clear H
                  go_wp2
                  go_meet
                  case rel => exact ⟨_, (false), (by first | rfl | (simp; done) | (simp [*]; done)), H', ⟨by have := HK1.out; have := HK2.out; first | omega | exact Nat.le_refl _⟩, by repeat (first | exact Drawn0.refl _ | apply Drawn0.step)⟩
              case rest =>
                clear HC6
                try clear c2
                try clear c2b0
                try clear p2
                try clear c3
                try clear c3b0
                try clear c4
                try clear c4b0
                try clear c4b1
                try clear c5
                try clear c5b0
                try clear c5b1
                try clear c7
                try clear p2
                obtain ⟨kq, x25_5, rfl, HA, HJ5, ⟨mc5, rfl⟩⟩ := hcut
                cases kq with
                | zero => exact absurd HA.out (by simp [gatehouseref15_prime.j2])
                | succ kj5 =>
                  have H := HA.out
                  clear HA
                  simp only [gatehouseref15_prime.j2] at H
                  by_cases c8 : x25_5 = true
                  · subst c8
                    have H1 : (some x3_1) = some r := by rw [if_pos rfl] at H; exact H
                    clear H
                    have H := H1
                    clear H1
                    obtain rfl := Option.some.inj H
                    go_wp2
                    go_ret
                    exact ⟨by first | rfl | (simp; done) | (simp [*]; done), by repeat (first | exact Drawn0.refl _ | apply Drawn0.step)⟩
                  · replace c8 := Bool.eq_false_iff.mpr c8
                    subst c8
                    have H1 : (if x4_2 = true then (gatehouseref15_prime.l0 kj5 (wrap64 (x0_1 - 1)) (IntKind.u64.wrap (x3_1 + 1))) else (gatehouseref15_prime.l0 kj5 x0_1 (IntKind.u64.wrap (x3_1 + 1)))) = some r := by rw [if_neg (show ¬ (false = true) by decide)] at H; exact H
                    clear H
                    have H := H1
                    clear H1
                    by_cases c9 : x4_2 = true
                    · subst c9
                      have H1 : (gatehouseref15_prime.l0 kj5 (wrap64 (x0_1 - 1)) (IntKind.u64.wrap (x3_1 + 1))) = some r := by rw [if_pos rfl] at H; exact H
                      clear H
                      have H := H1
                      clear H1
                      have H' := Aside0.mk H
                      clear H
                      go_wp2
                      go_roundg kj5
                      case measure => have := HK1.out; have := HK2.out; have := HJ5.out; omega
                      case rel => exact ⟨(wrap64 (x0_1 - 1)), (IntKind.u64.wrap (x3_1 + 1)), (by first | rfl | (simp; done) | (simp [*]; done)), (by first | rfl | (simp; done) | (simp [*]; done)), H', ⟨by have := HK1.out; have := HK2.out; have := HJ5.out; omega⟩, by repeat (first | exact Drawn0.refl _ | apply Drawn0.step)⟩
                    · replace c9 := Bool.eq_false_iff.mpr c9
                      subst c9
                      have H1 : (gatehouseref15_prime.l0 kj5 x0_1 (IntKind.u64.wrap (x3_1 + 1))) = some r := by rw [if_neg (show ¬ (false = true) by decide)] at H; exact H
                      clear H
                      have H := H1
                      clear H1
                      have H' := Aside0.mk H
                      clear H
                      go_wp2
                      go_roundg kj5
                      case measure => have := HK1.out; have := HK2.out; have := HJ5.out; omega
                      case rel => exact ⟨(x0_1), (IntKind.u64.wrap (x3_1 + 1)), (by first | rfl | (simp; done) | (simp [*]; done)), (by first | rfl | (simp; done) | (simp [*]; done)), H', ⟨by have := HK1.out; have := HK2.out; have := HJ5.out; omega⟩, by repeat (first | exact Drawn0.refl _ | apply Drawn0.step)⟩
      · rw [if_neg c2] at H
        have c2b0 : decide (x3_1 < 400) = false := decide_eq_false c2
        clear c2
        obtain rfl := Option.some.inj H
        go_wp2
        go_ret
        exact ⟨by first | rfl | (simp; done) | (simp [*]; done), by repeat (first | exact Drawn0.refl _ | apply Drawn0.step)⟩

end Go.Proofs.YtnddocchfkhlbaaZ
