-- Written by a program of this session (gprint.py, over the kit's printer).
import Derived.Test.YtnddocchfkhlbaaZ0
import Derived.Test.YtnddocchfkhlbaaZ11
namespace Go.Proofs.YtnddocchfkhlbaaZ
open Go.RowKit Go.Proofs.YtnddocchfkhlbaaW.PrintWords Go.Proofs.YtnddocchfkhlbaaW.PrintLast Go.Proofs.YtnddocchfkhlbaaW.PrintMore
attribute [local go_sem] max2_int min2_int max_two min_two max_three min_three max_four min_four   -- for this text's walks alone
set_option linter.unusedVariables false
set_option linter.unusedSimpArgs false

/-! ### gatehouseref15_root: function 25 -/
def gatehouseref15_root.l0 : Nat → Int → Int → Int → Int → Option (Int)
  | 0, _, _, _, _ => none
  | k + 1, x0, x1, x5, x6 => if x6 > 0 then ((gatehouseref15_fits.f k (IntKind.u64.wrap (x5 + x6)) x0 x1).bind fun t130 => (if t130 = true then (gatehouseref15_root.l0 k x0 x1 (IntKind.u64.wrap (x5 + x6)) (IntKind.u64.wrap (Int.tdiv x6 2))) else (gatehouseref15_root.l0 k x0 x1 x5 (IntKind.u64.wrap (Int.tdiv x6 2))))) else (some ((x5) % 4294967296))
def gatehouseref15_root.f (k : Nat) (a0 : Int) (a1 : Int) : Option (Int) := gatehouseref15_root.l0 k a0 a1 0 68719476736
theorem gatehouseref15_root.mono_l : ∀ k, (∀ y0 y1 y2 y3, LeO (gatehouseref15_root.l0 k y0 y1 y2 y3) (gatehouseref15_root.l0 (k + 1) y0 y1 y2 y3))
  | 0 => fun _ _ _ _ r h => by simp [gatehouseref15_root.l0] at h
  | k + 1 => by
    have ih0 := gatehouseref15_root.mono_l k
    · intro y0 y1 y2 y3
      unfold gatehouseref15_root.l0
      repeat' first
      | (with_reducible exact ih0 _ _ _ _)
      | (with_reducible exact gatehouseref15_fits.mono _ _ _ _)
      | (with_reducible exact LeO.refl _)
      | (with_reducible exact LeO.none _)
      | (with_reducible refine LeO.ite ?_ ?_)
      | (with_reducible refine LeO.bind ?_ (fun _ => ?_))
      | exact ih0 _ _ _ _
      | exact gatehouseref15_fits.mono _ _ _ _
      | exact LeO.none _
      | refine LeO.ite ?_ ?_
      | refine LeO.bind ?_ (fun _ => ?_)
theorem gatehouseref15_root.mono : ∀ a0 a1 k, LeO (gatehouseref15_root.f k a0 a1) (gatehouseref15_root.f (k + 1) a0 a1) := by
  intro a0 a1 k
  have ih0 := gatehouseref15_root.mono_l k
  unfold gatehouseref15_root.f
  repeat' first
      | (with_reducible exact ih0 _ _ _ _)
      | (with_reducible exact gatehouseref15_fits.mono _ _ _ _)
      | (with_reducible exact LeO.refl _)
      | (with_reducible exact LeO.none _)
      | (with_reducible refine LeO.ite ?_ ?_)
      | (with_reducible refine LeO.bind ?_ (fun _ => ?_))
      | exact ih0 _ _ _ _
      | exact gatehouseref15_fits.mono _ _ _ _
      | exact LeO.none _
      | refine LeO.ite ?_ ?_
      | refine LeO.bind ?_ (fun _ => ?_)
set_option maxHeartbeats 8000000 in
set_option maxRecDepth 100000 in
theorem gatehouseref15_root.calls (k : Nat) (a0 : Int) (a1 : Int) (r : Int) (w : World) (h : gatehouseref15_root.f k a0 a1 = some r) :
    Calls Try.prog 25 #[.int .u64 a0, .int .i64 a1] w fun e w' => e = .returned (.int .u32 r) ∧ Below w.heap.size w w' := by
  have HB := Aside0.mk (Below.refl w.heap.size w)
  have H : (gatehouseref15_root.l0 k a0 a1 0 68719476736) = some r := h
  clear h
  have H' := Aside0.mk H
  clear H
  go_enter Try.func25, Try.ntmps25
  go_wp2
  go_loopg [5, 6] k (fun kq v5 v6 w' => ∃ (x5_1 : Int) (x6_1 : Int), v5 = .int .u64 x5_1 ∧ v6 = .int .u64 x6_1 ∧ Aside0 (gatehouseref15_root.l0 kq a0 a1 x5_1 x6_1 = some r) ∧ Aside0 (kq ≤ k) ∧ Aside0 (Below w.heap.size w w'))
  case atStart => exact ⟨(0), (68719476736), (by first | rfl | (simp; done) | (simp [*]; done)), (by first | rfl | (simp; done) | (simp [*]; done)), H', ⟨Nat.le_refl _⟩, ⟨by repeat (first | (with_reducible first | exact HB.out | apply below_alloc | apply pw_below_drewN | apply below_drew1) | exact HB.out)⟩⟩
  case round =>
    clear H'
    try clear c2
    try clear p2
    obtain ⟨x5_1, x6_1, rfl, rfl, HA, HK1, HB⟩ := hrel
    cases gk with
    | zero => exact absurd HA.out (by simp [gatehouseref15_root.l0])
    | succ k1 =>
      have H := HA.out
      clear HA
      simp only [gatehouseref15_root.l0] at H
      by_cases c3 : x6_1 > 0
      · rw [if_pos c3] at H
        have c3b0 : decide (0 < x6_1) = true := decide_eq_true c3
        clear c3
        replace H := Option.bind_eq_some_iff.mp H
        obtain ⟨t130, A40, H⟩ := H
        replace H : (if t130 = true then (gatehouseref15_root.l0 k1 a0 a1 (IntKind.u64.wrap (x5_1 + x6_1)) (IntKind.u64.wrap (Int.tdiv x6_1 2))) else (gatehouseref15_root.l0 k1 a0 a1 x5_1 (IntKind.u64.wrap (Int.tdiv x6_1 2)))) = some r := H
        have A4 := Aside0.mk A40
        clear A40
        by_cases c5 : t130 = true
        · subst c5
          have H1 : (gatehouseref15_root.l0 k1 a0 a1 (IntKind.u64.wrap (x5_1 + x6_1)) (IntKind.u64.wrap (Int.tdiv x6_1 2))) = some r := by rw [if_pos rfl] at H; exact H
          clear H
          have H := H1
          clear H1
          have H' := Aside0.mk H
          clear H
          go_wp2_with (first | ((with_reducible refine gate_callee (f := 35) rfl ?_); refine goesL_ (some 16) rfl rfl Try.func35 (by kernel_rfl) rfl #[.int .u64 (IntKind.u64.wrap (x5_1 + x6_1)), .int .u64 a0, .int .i64 a1] rfl (by (try simp only [List.map_toArray, List.map_cons, List.map_nil]); first | done | rfl | (simp only [List.length_drop, List.length_take]; rfl)) ?_; (with_reducible refine (gatehouseref15_fits.calls k1 (IntKind.u64.wrap (x5_1 + x6_1)) a0 a1 true _ A4.out).mono ?_); rintro e w6 ⟨rfl, hb⟩; refine ⟨_, rfl, ?_⟩; have n0_ := Aside0.mk (below_step (by repeat (first | (with_reducible first | exact HB.out | apply below_alloc | apply pw_below_drewN | apply below_drew1) | exact HB.out)) hb); clear HB; have HB := n0_; clear n0_; (try clear hb); (try clear hb2); (try clear hk); (try clear hi)))
          go_roundg k1
          case measure => have := HK1.out; omega
          case rel => exact ⟨(IntKind.u64.wrap (x5_1 + x6_1)), (IntKind.u64.wrap (Int.tdiv x6_1 2)), (by first | rfl | (simp; done) | (simp [*]; done)), (by first | rfl | (simp; done) | (simp [*]; done)), H', ⟨by have := HK1.out; omega⟩, ⟨by repeat (first | (with_reducible first | exact HB.out | apply below_alloc | apply pw_below_drewN | apply below_drew1) | exact HB.out)⟩⟩
        · replace c5 := Bool.eq_false_iff.mpr c5
          subst c5
          have H1 : (gatehouseref15_root.l0 k1 a0 a1 x5_1 (IntKind.u64.wrap (Int.tdiv x6_1 2))) = some r := by rw [if_neg (show ¬ (false = true) by decide)] at H; exact H
          clear H
          have H := H1
          clear H1
          have H' := Aside0.mk H
          clear H
          go_wp2_with (first | ((with_reducible refine gate_callee (f := 35) rfl ?_); refine goesL_ (some 16) rfl rfl Try.func35 (by kernel_rfl) rfl #[.int .u64 (IntKind.u64.wrap (x5_1 + x6_1)), .int .u64 a0, .int .i64 a1] rfl (by (try simp only [List.map_toArray, List.map_cons, List.map_nil]); first | done | rfl | (simp only [List.length_drop, List.length_take]; rfl)) ?_; (with_reducible refine (gatehouseref15_fits.calls k1 (IntKind.u64.wrap (x5_1 + x6_1)) a0 a1 false _ A4.out).mono ?_); rintro e w7 ⟨rfl, hb⟩; refine ⟨_, rfl, ?_⟩; have n0_ := Aside0.mk (below_step (by repeat (first | (with_reducible first | exact HB.out | apply below_alloc | apply pw_below_drewN | apply below_drew1) | exact HB.out)) hb); clear HB; have HB := n0_; clear n0_; (try clear hb); (try clear hb2); (try clear hk); (try clear hi)))
          go_roundg k1
          case measure => have := HK1.out; omega
          case rel => exact ⟨(x5_1), (IntKind.u64.wrap (Int.tdiv x6_1 2)), (by first | rfl | (simp; done) | (simp [*]; done)), (by first | rfl | (simp; done) | (simp [*]; done)), H', ⟨by have := HK1.out; omega⟩, ⟨by repeat (first | (with_reducible first | exact HB.out | apply below_alloc | apply pw_below_drewN | apply below_drew1) | exact HB.out)⟩⟩
      · rw [if_neg c3] at H
        have c3b0 : decide (0 < x6_1) = false := decide_eq_false c3
        clear c3
        obtain rfl := Option.some.inj H
        go_wp2
        go_ret
        exact ⟨by first | rfl | (simp [errW_none, errW_some] <;> rfl) | (simp [*, errW_none, errW_some] <;> rfl), by repeat (first | (with_reducible first | exact HB.out | apply below_alloc | apply pw_below_drewN | apply below_drew1) | exact HB.out)⟩

end Go.Proofs.YtnddocchfkhlbaaZ
