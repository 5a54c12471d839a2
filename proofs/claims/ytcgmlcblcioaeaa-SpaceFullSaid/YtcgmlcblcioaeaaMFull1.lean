import Derived.Test.YtcgmlcblcioaeaaZ0
import Derived.Test.YtcgmlcblcioaeaaG
import Derived.Test.YtcgmlcblcioaeaaT0
import Derived.Test.YtcgmlcblcioaeaaMFull0
-- Written by a program of this session (gprint.py, over the kit's printer).
namespace Go.Proofs.YtcgmlcblcioaeaaZ
open Go.RowKit Go.Proofs.YtcgmlcblcioaeaaW.PrintWords Go.Proofs.YtcgmlcblcioaeaaW.PrintLast Go.Proofs.YtcgmlcblcioaeaaW.PrintMore
attribute [local go_sem] max2_int min2_int max_two min_two max_three min_three max_four min_four   -- for this text's walks alone
set_option linter.unusedVariables false
set_option linter.unusedSimpArgs false

/-! ### gatehouselaw05_SpaceFull: function 4 -/
mutual
def gatehouselaw05_SpaceFull.l0 : Nat → List Int → Int → List Int → Int → Option (Bool)
  | 0, _, _, _, _ => none
  | k + 1, x0, x1, x5, x6 => if x6 < 16 then (if x5.length < 17592186044416 then (gatehouselaw05_SpaceFull.l0 k x0 x1 (x5 ++ [x6]) (wrap64 (x6 + 1))) else (none)) else (gatehouselaw05_SpaceFull.l1 k x0 x1 x5 ([] : List (S31)) 0)
def gatehouselaw05_SpaceFull.l1 : Nat → List Int → Int → List Int → List (S31) → Int → Option (Bool)
  | 0, _, _, _, _, _ => none
  | k + 1, x0, x1, x5, x7, x8 => if (x5.length : Int) > 0 then (if x8 < (x0.length : Int) then (if 0 ≤ x8 then (if (IntKind.u64.wrap ((x5.length : Int))) = 0 then (none) else (if 0 ≤ (wrap64 (Int.tmod (IntKind.u64.wrap (rd x0 x8)) (IntKind.u64.wrap ((x5.length : Int))))) then (if (wrap64 (Int.tmod (IntKind.u64.wrap (rd x0 x8)) (IntKind.u64.wrap ((x5.length : Int))))) < (x5.length : Int) then ((some (([] : List Int) : List Int)).bind fun y333 => (if (wrap64 (Int.tmod (IntKind.u64.wrap (rd x0 x8)) (IntKind.u64.wrap ((x5.length : Int))))) ≤ (x5.length : Int) then ((some (x5.take ((wrap64 (Int.tmod (IntKind.u64.wrap (rd x0 x8)) (IntKind.u64.wrap ((x5.length : Int))))) : Int).toNat : List Int)).bind fun y336 => (if y333.length + y336.length < 17592186044416 then ((some (y333 ++ y336 : List Int)).bind fun y340 => (if 0 ≤ (wrap64 ((wrap64 (Int.tmod (IntKind.u64.wrap (rd x0 x8)) (IntKind.u64.wrap ((x5.length : Int))))) + 1)) then (if (wrap64 ((wrap64 (Int.tmod (IntKind.u64.wrap (rd x0 x8)) (IntKind.u64.wrap ((x5.length : Int))))) + 1)) ≤ (x5.length : Int) then ((some (x5.drop ((wrap64 ((wrap64 (Int.tmod (IntKind.u64.wrap (rd x0 x8)) (IntKind.u64.wrap ((x5.length : Int))))) + 1)) : Int).toNat : List Int)).bind fun y343 => (if y340.length + y343.length < 17592186044416 then ((space_Put.f x7 (wrap64 ((rd x5 (wrap64 (Int.tmod (IntKind.u64.wrap (rd x0 x8)) (IntKind.u64.wrap ((x5.length : Int)))))) * (wrap64 (4 + x1)))) 4 1 (wrap64 ((rd x5 (wrap64 (Int.tmod (IntKind.u64.wrap (rd x0 x8)) (IntKind.u64.wrap ((x5.length : Int)))))) + 1)) 0 false false).bind fun bt350 => (if bt350.2 = 0 then (gatehouselaw05_SpaceFull.l1 k x0 x1 (y340 ++ y343) bt350.1 (wrap64 (x8 + 1))) else (some false))) else (none))) else (none)) else (none))) else (none))) else (none))) else (none)) else (none))) else (none)) else (if 0 < (x5.length : Int) then ((some (([] : List Int) : List Int)).bind fun y355 => (if 0 ≤ (x5.length : Int) then ((some (x5.take 0 : List Int)).bind fun y358 => (if y355.length + y358.length < 17592186044416 then ((some (y355 ++ y358 : List Int)).bind fun y362 => (if 0 ≤ (wrap64 1) then (if (wrap64 1) ≤ (x5.length : Int) then ((some (x5.drop ((wrap64 1) : Int).toNat : List Int)).bind fun y365 => (if y362.length + y365.length < 17592186044416 then ((space_Put.f x7 (wrap64 ((rd x5 0) * (wrap64 (4 + x1)))) 4 1 (wrap64 ((rd x5 0) + 1)) 0 false false).bind fun bt372 => (if bt372.2 = 0 then (gatehouselaw05_SpaceFull.l1 k x0 x1 (y362 ++ y365) bt372.1 (wrap64 (x8 + 1))) else (some false))) else (none))) else (none)) else (none))) else (none))) else (none))) else (none))) else (gatehouselaw05_SpaceFull.l2 k x1 x7 x7 (x7.length : Int) 0)
def gatehouselaw05_SpaceFull.l2 : Nat → Int → List (S31) → List (S31) → Int → Int → Option (Bool)
  | 0, _, _, _, _, _ => none
  | k + 1, x1, x7, x81, x82, x83 => if x83 < x82 then (if 0 ≤ x83 then (if x83 < (x81.length : Int) then (if ((rd_T31 x81 x83).f3) = (wrap64 (x83 + 1)) then (if ((rd_T31 x81 x83).f0) = (wrap64 (x83 * (wrap64 (4 + x1)))) then (gatehouselaw05_SpaceFull.l2 k x1 x7 x81 x82 (wrap64 (x83 + 1))) else (some false)) else (some false)) else (none)) else (none)) else ((space_Put.f x7 1048576 1 1 99 0 false false).bind fun bt378 => ((space_Put.f x7 3 1 1 99 0 false false).bind fun bt382 => (if (x7.length : Int) = 16 then (if bt378.2 = 7 then (some (bt382.2 == 2)) else (some false)) else (some false))))
end
def gatehouselaw05_SpaceFull.f (k : Nat) (l0 : List Int) (a1 : Int) : Option (Bool) := (gatehouselaw05_lives.f k).bind fun t327 => (if t327 = true then (gatehouselaw05_SpaceFull.l0 k l0 (wrap64 (Int.tmod (IntKind.u64.wrap (a1)) 1000)) ([] : List Int) 0) else (some false))
theorem gatehouselaw05_SpaceFull.mono_l : ∀ k, (∀ y0 y1 y2 y3, LeO (gatehouselaw05_SpaceFull.l0 k y0 y1 y2 y3) (gatehouselaw05_SpaceFull.l0 (k + 1) y0 y1 y2 y3)) ∧ (∀ y0 y1 y2 y3 y4, LeO (gatehouselaw05_SpaceFull.l1 k y0 y1 y2 y3 y4) (gatehouselaw05_SpaceFull.l1 (k + 1) y0 y1 y2 y3 y4)) ∧ (∀ y0 y1 y2 y3 y4, LeO (gatehouselaw05_SpaceFull.l2 k y0 y1 y2 y3 y4) (gatehouselaw05_SpaceFull.l2 (k + 1) y0 y1 y2 y3 y4))
  | 0 => ⟨fun _ _ _ _ r h => by simp [gatehouselaw05_SpaceFull.l0] at h, fun _ _ _ _ _ r h => by simp [gatehouselaw05_SpaceFull.l1] at h, fun _ _ _ _ _ r h => by simp [gatehouselaw05_SpaceFull.l2] at h⟩
  | k + 1 => by
    obtain ⟨ih0, ih1, ih2⟩ := gatehouselaw05_SpaceFull.mono_l k
    refine ⟨?_, ?_, ?_⟩
    · intro y0 y1 y2 y3
      unfold gatehouselaw05_SpaceFull.l0
      repeat' first
      | (with_reducible exact ih0 _ _ _ _)
      | (with_reducible exact ih1 _ _ _ _ _)
      | (with_reducible exact ih2 _ _ _ _ _)
      | (with_reducible exact gatehouselaw05_lives.mono _)
      | (with_reducible exact LeO.refl _)
      | (with_reducible exact LeO.none _)
      | (with_reducible refine LeO.ite ?_ ?_)
      | (with_reducible refine LeO.bind ?_ (fun _ => ?_))
      | exact ih0 _ _ _ _
      | exact ih1 _ _ _ _ _
      | exact ih2 _ _ _ _ _
      | exact gatehouselaw05_lives.mono _
      | exact LeO.none _
      | refine LeO.ite ?_ ?_
      | refine LeO.bind ?_ (fun _ => ?_)
    · intro y0 y1 y2 y3 y4
      unfold gatehouselaw05_SpaceFull.l1
      repeat' first
      | (with_reducible exact ih0 _ _ _ _)
      | (with_reducible exact ih1 _ _ _ _ _)
      | (with_reducible exact ih2 _ _ _ _ _)
      | (with_reducible exact gatehouselaw05_lives.mono _)
      | (with_reducible exact LeO.refl _)
      | (with_reducible exact LeO.none _)
      | (with_reducible refine LeO.ite ?_ ?_)
      | (with_reducible refine LeO.bind ?_ (fun _ => ?_))
      | exact ih0 _ _ _ _
      | exact ih1 _ _ _ _ _
      | exact ih2 _ _ _ _ _
      | exact gatehouselaw05_lives.mono _
      | exact LeO.none _
      | refine LeO.ite ?_ ?_
      | refine LeO.bind ?_ (fun _ => ?_)
    · intro y0 y1 y2 y3 y4
      unfold gatehouselaw05_SpaceFull.l2
      repeat' first
      | (with_reducible exact ih0 _ _ _ _)
      | (with_reducible exact ih1 _ _ _ _ _)
      | (with_reducible exact ih2 _ _ _ _ _)
      | (with_reducible exact gatehouselaw05_lives.mono _)
      | (with_reducible exact LeO.refl _)
      | (with_reducible exact LeO.none _)
      | (with_reducible refine LeO.ite ?_ ?_)
      | (with_reducible refine LeO.bind ?_ (fun _ => ?_))
      | exact ih0 _ _ _ _
      | exact ih1 _ _ _ _ _
      | exact ih2 _ _ _ _ _
      | exact gatehouselaw05_lives.mono _
      | exact LeO.none _
      | refine LeO.ite ?_ ?_
      | refine LeO.bind ?_ (fun _ => ?_)
theorem gatehouselaw05_SpaceFull.mono : ∀ a0 a1 k, LeO (gatehouselaw05_SpaceFull.f k a0 a1) (gatehouselaw05_SpaceFull.f (k + 1) a0 a1) := by
  intro a0 a1 k
  obtain ⟨ih0, ih1, ih2⟩ := gatehouselaw05_SpaceFull.mono_l k
  unfold gatehouselaw05_SpaceFull.f
  repeat' first
      | (with_reducible exact ih0 _ _ _ _)
      | (with_reducible exact ih1 _ _ _ _ _)
      | (with_reducible exact ih2 _ _ _ _ _)
      | (with_reducible exact gatehouselaw05_lives.mono _)
      | (with_reducible exact LeO.refl _)
      | (with_reducible exact LeO.none _)
      | (with_reducible refine LeO.ite ?_ ?_)
      | (with_reducible refine LeO.bind ?_ (fun _ => ?_))
      | exact ih0 _ _ _ _
      | exact ih1 _ _ _ _ _
      | exact ih2 _ _ _ _ _
      | exact gatehouselaw05_lives.mono _
      | exact LeO.none _
      | refine LeO.ite ?_ ?_
      | refine LeO.bind ?_ (fun _ => ?_)
def gatehouselaw05_SpaceFull.T17 : Bool × List (List Nat × List Nat) := (true, [([], []), ([], []), ([], []), ([1, 2], [1, 2]), ([0, 3], [0, 3]), ([], []), ([], []), ([6], [6]), ([5, 7], [5, 7]), ([4, 8, 4], [4, 8]), ([9, 9, 0, 1, 2, 3, 4, 5, 6, 7, 8, 9], [1, 5, 9])])
def gatehouselaw05_SpaceFull.B17 : List Nat := [0, 0, 0, 6, 15, 0, 0, 64, 224, 511, 1023]
theorem gatehouselaw05_SpaceFull.tab17 : rtab .any (opsOf Try.f4 17) = gatehouselaw05_SpaceFull.T17 := by kernel_rfl
theorem gatehouselaw05_SpaceFull.bits17 : waitsOk gatehouselaw05_SpaceFull.T17.2 gatehouselaw05_SpaceFull.B17 = true := by kernel_rfl
set_option maxHeartbeats 8000000 in
set_option maxRecDepth 100000 in
theorem gatehouselaw05_SpaceFull.calls (k : Nat) (A0 : Option Addr) (c0 : Nat) (l0 : List Int) (a1 : Int) (r : Bool) (w : World) (hr0 : Kd.C (Kd.int .i64) w A0 l0.length l0) (hc0 : l0.length ≤ c0) (h : gatehouselaw05_SpaceFull.f k l0 a1 = some r) :
    Calls Try.prog 4 #[.slice A0 l0.length c0, .int .i64 a1] w fun e w' => e = .returned (.bool r) ∧ Below w.heap.size w w' := by
  have hu31 := Try.underlying31
  have HR0 := Aside0.mk hr0
  have HC0 := Aside0.mk hc0
  clear hr0 hc0
  have HB := Aside0.mk (Below.refl w.heap.size w)
  have H : ((gatehouselaw05_lives.f k).bind fun t327 => (if t327 = true then (gatehouselaw05_SpaceFull.l0 k l0 (wrap64 (Int.tmod (IntKind.u64.wrap (a1)) 1000)) ([] : List Int) 0) else (some false))) = some r := h
  clear h
  replace H := Option.bind_eq_some_iff.mp H
  obtain ⟨t327, A30, H⟩ := H
  replace H : (if t327 = true then (gatehouselaw05_SpaceFull.l0 k l0 (wrap64 (Int.tmod (IntKind.u64.wrap (a1)) 1000)) ([] : List Int) 0) else (some false)) = some r := H
  have A3 := Aside0.mk A30
  clear A30
  by_cases c4 : t327 = true
  · subst c4
    have H1 : (gatehouselaw05_SpaceFull.l0 k l0 (wrap64 (Int.tmod (IntKind.u64.wrap (a1)) 1000)) ([] : List Int) 0) = some r := by rw [if_pos rfl] at H; exact H
    clear H
    have H := H1
    clear H1
    have H' := Aside0.mk H
    clear H
    go_enter Try.func4, Try.ntmps4
    go_wp2_with (first | ((with_reducible refine gate_callee (f := 9) rfl ?_); refine goesL_ (some 19) rfl rfl Try.func9 (by kernel_rfl) rfl #[] rfl (by (try simp only [List.map_toArray, List.map_cons, List.map_nil]); first | done | rfl | (simp only [List.length_drop, List.length_take]; rfl)) ?_; (with_reducible refine (gatehouselaw05_lives.calls k  true _ A3.out).mono ?_); rintro e w5 ⟨rfl, hb⟩; refine ⟨_, rfl, ?_⟩; have n0_ := Aside0.mk (below_step (by repeat (first | (with_reducible first | exact HB.out | apply below_alloc | apply pw_below_drewN | apply below_drew1) | exact HB.out)) hb); clear HB; have HB := n0_; clear n0_; (try clear hb); (try clear hb2); (try clear hk); (try clear hi)))
    go_loopg [5, 6] k (fun kq v5 v6 w' => ∃ (x5_1 : List Int) (x6_1 : Int), v6 = .int .i64 x6_1 ∧ Aside0 (gatehouselaw05_SpaceFull.l0 kq l0 (wrap64 (Int.tmod (IntKind.u64.wrap (a1)) 1000)) x5_1 x6_1 = some r) ∧ Aside0 (kq ≤ k) ∧ Aside0 (Kd.R (Kd.int .i64) 3 w' w.heap.size (fun _ => True) v5 x5_1) ∧ Aside0 (Below w.heap.size w w'))
    case atStart => exact ⟨(([] : List Int)), (0), (by first | rfl | (simp; done) | (simp [*]; done)), H', ⟨Nat.le_refl _⟩, ⟨by first | exact Kd.R_nil _ _ _ _ _ | exact Kd.N_nil _ _ _ _ _ | exact Kd.V_nil _ _ _ _ _ | exact Kd.Q_nil _ _ _ _ _ | exact Kd.S_nil _ _ _ _ _⟩, ⟨by repeat (first | (with_reducible first | exact HB.out | apply below_alloc | apply pw_below_drewN | apply below_drew1) | exact HB.out)⟩⟩
    case round =>
      clear H'
      try clear p2
      try clear c4
      obtain ⟨x5_1, x6_1, rfl, HA, HK1, HO_5, HB⟩ := hrel
      cases gk with
      | zero => exact absurd HA.out (by simp [gatehouselaw05_SpaceFull.l0])
      | succ k1 =>
        have H := HA.out
        clear HA
        simp only [gatehouselaw05_SpaceFull.l0] at H
        by_cases c6 : x6_1 < 16
        · rw [if_pos c6] at H
          have c6b0 : decide (x6_1 < 16) = true := decide_eq_true c6
          clear c6
          by_cases c7 : x5_1.length < 17592186044416
          · rw [if_pos c7] at H
            have LMc7 := Aside0.mk c7
            clear c7
            obtain ⟨y328, hy328⟩ : ∃ y_ : List Int, y_ = (x5_1 ++ [x6_1]) := ⟨_, rfl⟩
            replace H : (gatehouselaw05_SpaceFull.l0 k1 l0 (wrap64 (Int.tmod (IntKind.u64.wrap (a1)) 1000)) y328 (wrap64 (x6_1 + 1))) = some r := by first | (rw [hy328]; with_reducible exact H) | (have H2_ := (Option.bind_some _ _).symm.trans H; rw [hy328]; with_reducible exact H2_) | (have H2_ := (Option.bind_some _ _).symm.trans H; with_reducible exact H2_) | with_reducible exact H | (rw [hy328]; exact H) | exact H
            have Ny328 := Aside0.mk hy328
            clear hy328
            have H' := Aside0.mk H
            clear H
            go_wp2_with (first | ((with_reducible refine gate_builtin (b := .append) (xs := #[.tmp 29, .tmp 31]) rfl ?_); at_builtin; refine Kd.R_append (Kd.int .i64) (w0 := w) w.heap.size rfl (.tmp 29) (.tmp 31) 33 3 (.int .i64 0) 8 rfl Try.underlying33 info3 rfl (by decide) (by omega) u5 x5_1 x6_1 [.int .i64 x6_1] (fun _ => True) (fun _ => False) rfl rfl ?aP (fun _ hk => hk.elim) ?aF ?aO ?aB ?aS ?aL ?_; (case aP => exact rfl); (case aB => exact (by repeat (first | (with_reducible first | exact HB.out | apply below_alloc | apply pw_below_drewN | apply below_drew1) | exact HB.out))); (case aF => exact (fun _ _ => trivial)); (case aO => exact (by (with_reducible repeat (first | apply Kd.R_alloc | apply Kd.R_drewN | apply Kd.R_drew)); exact HO_5.out)); (case aS => exact (below_size (by repeat (first | (with_reducible first | exact HB.out | apply below_alloc | apply pw_below_drewN | apply below_drew1) | exact HB.out)))); (case aL => have := LMc7.out; omega); intro v329 w8 ho hb hg hat; rw [← Ny328.out] at ho; have n0_ := Aside0.mk (hb); have n1_ := Aside0.mk (ho); clear HB; clear HO_5; have HB := n0_; have HO330 := n1_; clear n0_ n1_; clear ho hb hg hat))
            go_roundg k1
            case measure => have := HK1.out; omega
            case rel => exact ⟨(y328), (wrap64 (x6_1 + 1)), (by first | rfl | (simp; done) | (simp [*]; done)), H', ⟨by have := HK1.out; omega⟩, ⟨by (with_reducible repeat (first | apply Kd.R_alloc | apply Kd.R_drewN | apply Kd.R_drew)); exact HO330.out⟩, ⟨by repeat (first | (with_reducible first | exact HB.out | apply below_alloc | apply pw_below_drewN | apply below_drew1) | exact HB.out)⟩⟩
          · rw [if_neg c7] at H
            exact absurd H (by simp)
        · rw [if_neg c6] at H
          have c6b0 : decide (x6_1 < 16) = false := decide_eq_false c6
          clear c6
          have H' := Aside0.mk H
          clear H
          go_wp2
          go_loopg [5, 7, 8] k1 (fun kq v5 v7 v8 w' => ∃ (x5_2 : List Int) (x7_2 : List (S31)) (x8_2 : Int), v8 = .int .i64 x8_2 ∧ Aside0 (gatehouselaw05_SpaceFull.l1 kq l0 (wrap64 (Int.tmod (IntKind.u64.wrap (a1)) 1000)) x5_2 x7_2 x8_2 = some r) ∧ Aside0 (kq ≤ k1) ∧ Aside0 (Kd.R (Kd.int .i64) 3 w' w.heap.size (fun _ => True) v5 x5_2) ∧ Aside0 (Kd.R k31 31 w' w.heap.size (fun _ => True) v7 x7_2) ∧ Aside0 (Below w.heap.size w w'))
          case atStart => exact ⟨(x5_1), (([] : List (S31))), (0), (by first | rfl | (simp; done) | (simp [*]; done)), H', ⟨Nat.le_refl _⟩, ⟨by (with_reducible repeat (first | apply Kd.R_alloc | apply Kd.R_drewN | apply Kd.R_drew)); exact HO_5.out⟩, ⟨by first | exact Kd.R_nil _ _ _ _ _ | exact Kd.N_nil _ _ _ _ _ | exact Kd.V_nil _ _ _ _ _ | exact Kd.Q_nil _ _ _ _ _ | exact Kd.S_nil _ _ _ _ _⟩, ⟨by repeat (first | (with_reducible first | exact HB.out | apply below_alloc | apply pw_below_drewN | apply below_drew1) | exact HB.out)⟩⟩
          case round =>
            clear H'
            try clear p2
            try clear c4
            try clear c6
            try clear c6b0
            try clear p6
            try clear c7
            try clear p2
            obtain ⟨x5_2, x7_2, x8_2, rfl, HA, HK2, HO_5, HO_7, HB⟩ := hrel
            cases gk with
            | zero => exact absurd HA.out (by simp [gatehouselaw05_SpaceFull.l1])
            | succ k2 =>
              have H := HA.out
              clear HA
              simp only [gatehouselaw05_SpaceFull.l1] at H
              by_cases c9 : (x5_2.length : Int) > 0
              · rw [if_pos c9] at H
                have c9b0 : decide (0 < (x5_2.length : Int)) = true := decide_eq_true c9
                have c9b1 : decide (0 < x5_2.length) = true := decide_eq_true (by omega)
                clear c9
                by_cases c10 : x8_2 < (l0.length : Int)
                · rw [if_pos c10] at H
                  have c10b0 : decide (x8_2 < (l0.length : Int)) = true := decide_eq_true c10
                  clear c10
                  by_cases c11 : 0 ≤ x8_2
                  · rw [if_pos c11] at H
                    have c11b0 : decide (0 ≤ x8_2) = true := decide_eq_true c11
                    clear c11
                    by_cases c12 : (IntKind.u64.wrap ((x5_2.length : Int))) = 0
                    · rw [if_pos c12] at H
                      exact absurd H (by simp)
                    · rw [if_neg c12] at H
                      have c12b0 : ((IntKind.u64.wrap ((x5_2.length : Int))) == 0) = false := beq_eq_false_iff_ne.mpr c12
                      have c12b1 : ((IntKind.u64.wrap ((x5_2.length : Int))) != 0) = true := bne_iff_ne.mpr c12
                      obtain ⟨ji13, hji13⟩ : ∃ j_ : Int, (wrap64 (Int.tmod (IntKind.u64.wrap (rd l0 x8_2)) (IntKind.u64.wrap ((x5_2.length : Int))))) = j_ := ⟨_, rfl⟩
                      replace H : (if 0 ≤ (ji13) then (if (ji13) < (x5_2.length : Int) then ((some (([] : List Int) : List Int)).bind fun y333 => (if (ji13) ≤ (x5_2.length : Int) then ((some (x5_2.take ((ji13) : Int).toNat : List Int)).bind fun y336 => (if y333.length + y336.length < 17592186044416 then ((some (y333 ++ y336 : List Int)).bind fun y340 => (if 0 ≤ (wrap64 ((ji13) + 1)) then (if (wrap64 ((ji13) + 1)) ≤ (x5_2.length : Int) then ((some (x5_2.drop ((wrap64 ((ji13) + 1)) : Int).toNat : List Int)).bind fun y343 => (if y340.length + y343.length < 17592186044416 then ((space_Put.f x7_2 (wrap64 ((rd x5_2 (ji13)) * (wrap64 (4 + (wrap64 (Int.tmod (IntKind.u64.wrap (a1)) 1000)))))) 4 1 (wrap64 ((rd x5_2 (ji13)) + 1)) 0 false false).bind fun bt350 => (if bt350.2 = 0 then (gatehouselaw05_SpaceFull.l1 k2 l0 (wrap64 (Int.tmod (IntKind.u64.wrap (a1)) 1000)) (y340 ++ y343) bt350.1 (wrap64 (x8_2 + 1))) else (some false))) else (none))) else (none)) else (none))) else (none))) else (none))) else (none)) else (none)) = some r := by first | (rw [hji13] at H; exact H) | (simp only [hji13] at H ⊢; exact H)
                      have hji13w : (IntKind.i64.wrap (Int.tmod (IntKind.u64.wrap (rd l0 x8_2)) (IntKind.u64.wrap ((x5_2.length : Int))))) = ji13 := (i64_w _).trans hji13
                      by_cases c14 : 0 ≤ (ji13)
                      · rw [if_pos c14] at H
                        have c14b0 : decide (0 ≤ (ji13)) = true := decide_eq_true c14
                        clear c14
                        by_cases c15 : (ji13) < (x5_2.length : Int)
                        · rw [if_pos c15] at H
                          have c15b0 : decide ((ji13) < (x5_2.length : Int)) = true := decide_eq_true c15
                          clear c15
                          obtain ⟨y333, hy333⟩ : ∃ y_ : List Int, y_ = (([] : List Int)) := ⟨_, rfl⟩
                          replace H : (if (ji13) ≤ (x5_2.length : Int) then ((some (x5_2.take ((ji13) : Int).toNat : List Int)).bind fun y336 => (if y333.length + y336.length < 17592186044416 then ((some (y333 ++ y336 : List Int)).bind fun y340 => (if 0 ≤ (wrap64 ((ji13) + 1)) then (if (wrap64 ((ji13) + 1)) ≤ (x5_2.length : Int) then ((some (x5_2.drop ((wrap64 ((ji13) + 1)) : Int).toNat : List Int)).bind fun y343 => (if y340.length + y343.length < 17592186044416 then ((space_Put.f x7_2 (wrap64 ((rd x5_2 (ji13)) * (wrap64 (4 + (wrap64 (Int.tmod (IntKind.u64.wrap (a1)) 1000)))))) 4 1 (wrap64 ((rd x5_2 (ji13)) + 1)) 0 false false).bind fun bt350 => (if bt350.2 = 0 then (gatehouselaw05_SpaceFull.l1 k2 l0 (wrap64 (Int.tmod (IntKind.u64.wrap (a1)) 1000)) (y340 ++ y343) bt350.1 (wrap64 (x8_2 + 1))) else (some false))) else (none))) else (none)) else (none))) else (none))) else (none)) = some r := by first | (rw [hy333]; with_reducible exact H) | (have H2_ := (Option.bind_some _ _).symm.trans H; rw [hy333]; with_reducible exact H2_) | (have H2_ := (Option.bind_some _ _).symm.trans H; with_reducible exact H2_) | with_reducible exact H | (rw [hy333]; exact H) | exact H
                          have Ny333 := Aside0.mk hy333
                          clear hy333
                          have c16b0 := eq_true (of_decide_eq_true (by first | (with_reducible assumption) | assumption) : 0 ≤ (ji13))
                          by_cases c17 : (ji13) ≤ (x5_2.length : Int)
                          · rw [if_pos c17] at H
                            have c17b0 := eq_true c17
                            have c17b1 : decide ((ji13) ≤ (x5_2.length : Int)) = true := decide_eq_true c17
                            clear c17
                            obtain ⟨y336, hy336⟩ : ∃ y_ : List Int, y_ = (x5_2.take ((ji13) : Int).toNat) := ⟨_, rfl⟩
                            replace H : (if y333.length + y336.length < 17592186044416 then ((some (y333 ++ y336 : List Int)).bind fun y340 => (if 0 ≤ (wrap64 ((ji13) + 1)) then (if (wrap64 ((ji13) + 1)) ≤ (x5_2.length : Int) then ((some (x5_2.drop ((wrap64 ((ji13) + 1)) : Int).toNat : List Int)).bind fun y343 => (if y340.length + y343.length < 17592186044416 then ((space_Put.f x7_2 (wrap64 ((rd x5_2 (ji13)) * (wrap64 (4 + (wrap64 (Int.tmod (IntKind.u64.wrap (a1)) 1000)))))) 4 1 (wrap64 ((rd x5_2 (ji13)) + 1)) 0 false false).bind fun bt350 => (if bt350.2 = 0 then (gatehouselaw05_SpaceFull.l1 k2 l0 (wrap64 (Int.tmod (IntKind.u64.wrap (a1)) 1000)) (y340 ++ y343) bt350.1 (wrap64 (x8_2 + 1))) else (some false))) else (none))) else (none)) else (none))) else (none)) = some r := by first | (rw [hy336]; with_reducible exact H) | (have H2_ := (Option.bind_some _ _).symm.trans H; rw [hy336]; with_reducible exact H2_) | (have H2_ := (Option.bind_some _ _).symm.trans H; with_reducible exact H2_) | with_reducible exact H | (rw [hy336]; exact H) | exact H
                            have Ny336 := Aside0.mk hy336
                            clear hy336
                            by_cases c18 : y333.length + y336.length < 17592186044416
                            · rw [if_pos c18] at H
                              have LMc18 := Aside0.mk c18
                              clear c18
                              obtain ⟨y340, hy340⟩ : ∃ y_ : List Int, y_ = (y333 ++ y336) := ⟨_, rfl⟩
                              replace H : (if 0 ≤ (wrap64 ((ji13) + 1)) then (if (wrap64 ((ji13) + 1)) ≤ (x5_2.length : Int) then ((some (x5_2.drop ((wrap64 ((ji13) + 1)) : Int).toNat : List Int)).bind fun y343 => (if y340.length + y343.length < 17592186044416 then ((space_Put.f x7_2 (wrap64 ((rd x5_2 (ji13)) * (wrap64 (4 + (wrap64 (Int.tmod (IntKind.u64.wrap (a1)) 1000)))))) 4 1 (wrap64 ((rd x5_2 (ji13)) + 1)) 0 false false).bind fun bt350 => (if bt350.2 = 0 then (gatehouselaw05_SpaceFull.l1 k2 l0 (wrap64 (Int.tmod (IntKind.u64.wrap (a1)) 1000)) (y340 ++ y343) bt350.1 (wrap64 (x8_2 + 1))) else (some false))) else (none))) else (none)) else (none)) = some r := by first | (rw [hy340]; with_reducible exact H) | (have H2_ := (Option.bind_some _ _).symm.trans H; rw [hy340]; with_reducible exact H2_) | (have H2_ := (Option.bind_some _ _).symm.trans H; with_reducible exact H2_) | with_reducible exact H | (rw [hy340]; exact H) | exact H
                              have Ny340 := Aside0.mk hy340
                              clear hy340
                              obtain ⟨ji19, hji19⟩ : ∃ j_ : Int, (wrap64 ((ji13) + 1)) = j_ := ⟨_, rfl⟩
                              replace H : (if 0 ≤ (ji19) then (if (ji19) ≤ (x5_2.length : Int) then ((some (x5_2.drop ((ji19) : Int).toNat : List Int)).bind fun y343 => (if y340.length + y343.length < 17592186044416 then ((space_Put.f x7_2 (wrap64 ((rd x5_2 (ji13)) * (wrap64 (4 + (wrap64 (Int.tmod (IntKind.u64.wrap (a1)) 1000)))))) 4 1 (wrap64 ((rd x5_2 (ji13)) + 1)) 0 false false).bind fun bt350 => (if bt350.2 = 0 then (gatehouselaw05_SpaceFull.l1 k2 l0 (wrap64 (Int.tmod (IntKind.u64.wrap (a1)) 1000)) (y340 ++ y343) bt350.1 (wrap64 (x8_2 + 1))) else (some false))) else (none))) else (none)) else (none)) = some r := by first | (rw [hji19] at H; exact H) | (simp only [hji19] at H ⊢; exact H)
                              have hji19w : (IntKind.i64.wrap ((ji13) + 1)) = ji19 := (i64_w _).trans hji19
                              by_cases c20 : 0 ≤ (ji19)
                              · rw [if_pos c20] at H
                                have c20b0 := eq_true c20
                                have c20b1 : decide (0 ≤ (ji19)) = true := decide_eq_true c20
                                clear c20
                                by_cases c21 : (ji19) ≤ (x5_2.length : Int)
                                · rw [if_pos c21] at H
                                  have c21b0 := eq_true c21
                                  have c21b1 : decide ((ji19) ≤ (x5_2.length : Int)) = true := decide_eq_true c21
                                  clear c21
                                  obtain ⟨y343, hy343⟩ : ∃ y_ : List Int, y_ = (x5_2.drop ((ji19) : Int).toNat) := ⟨_, rfl⟩
                                  replace H : (if y340.length + y343.length < 17592186044416 then ((space_Put.f x7_2 (wrap64 ((rd x5_2 (ji13)) * (wrap64 (4 + (wrap64 (Int.tmod (IntKind.u64.wrap (a1)) 1000)))))) 4 1 (wrap64 ((rd x5_2 (ji13)) + 1)) 0 false false).bind fun bt350 => (if bt350.2 = 0 then (gatehouselaw05_SpaceFull.l1 k2 l0 (wrap64 (Int.tmod (IntKind.u64.wrap (a1)) 1000)) (y340 ++ y343) bt350.1 (wrap64 (x8_2 + 1))) else (some false))) else (none)) = some r := by first | (rw [hy343]; with_reducible exact H) | (have H2_ := (Option.bind_some _ _).symm.trans H; rw [hy343]; with_reducible exact H2_) | (have H2_ := (Option.bind_some _ _).symm.trans H; with_reducible exact H2_) | with_reducible exact H | (rw [hy343]; exact H) | exact H
                                  have Ny343 := Aside0.mk hy343
                                  clear hy343
                                  by_cases c22 : y340.length + y343.length < 17592186044416
                                  · rw [if_pos c22] at H
                                    have LMc22 := Aside0.mk c22
                                    clear c22
                                    obtain ⟨y347, hy347⟩ : ∃ y_ : List Int, y_ = (y340 ++ y343) := ⟨_, rfl⟩
                                    replace H : ((space_Put.f x7_2 (wrap64 ((rd x5_2 (ji13)) * (wrap64 (4 + (wrap64 (Int.tmod (IntKind.u64.wrap (a1)) 1000)))))) 4 1 (wrap64 ((rd x5_2 (ji13)) + 1)) 0 false false).bind fun bt350 => (if bt350.2 = 0 then (gatehouselaw05_SpaceFull.l1 k2 l0 (wrap64 (Int.tmod (IntKind.u64.wrap (a1)) 1000)) y347 bt350.1 (wrap64 (x8_2 + 1))) else (some false))) = some r := by first | (rw [hy347]; with_reducible exact H) | (have H2_ := (Option.bind_some _ _).symm.trans H; rw [hy347]; with_reducible exact H2_) | (have H2_ := (Option.bind_some _ _).symm.trans H; with_reducible exact H2_) | with_reducible exact H | (rw [hy347]; exact H) | exact H
                                    have Ny347 := Aside0.mk hy347
                                    clear hy347
                                    replace H := Option.bind_eq_some_iff.mp H
                                    obtain ⟨⟨t350, t353⟩, A230, H⟩ := H
                                    replace H : (if t353 = 0 then (gatehouselaw05_SpaceFull.l1 k2 l0 (wrap64 (Int.tmod (IntKind.u64.wrap (a1)) 1000)) y347 t350 (wrap64 (x8_2 + 1))) else (some false)) = some r := H
                                    have A23 := Aside0.mk A230
                                    clear A230
                                    by_cases c24 : t353 = 0
                                    · rw [if_pos c24] at H
                                      have c24b0 : (t353 == 0) = true := beq_iff_eq.mpr c24
                                      have c24b1 : (t353 != 0) = false := bne_eq_false_iff_eq.mpr c24
                                      clear c24
                                      have H' := Aside0.mk H
                                      clear H
                                      obtain ⟨Ao25, co25, eo25⟩ := Kd.R_slice HO_5.out
                                      subst eo25
                                      have p331 : 0 ≤ (x8_2 : Int) := of_decide_eq_true (by first | (with_reducible assumption) | assumption)
                                      have q331 : x8_2 < (l0.length : Int) := of_decide_eq_true (by first | (with_reducible assumption) | assumption)
                                      obtain ⟨ad331, e331, hx331_0⟩ := Kd.at_int HR0.out x8_2 p331 q331
                                      cases e331
                                      replace hx331_0 := (HB.out.cell (World.block_lt_of_cell? w _ hx331_0)).trans hx331_0
                                      replace p331 := eq_true p331
                                      replace q331 := eq_true q331
                                      have p332 : 0 ≤ ((ji13) : Int) := of_decide_eq_true (by first | (with_reducible assumption) | assumption)
                                      have q332 : (ji13) < (x5_2.length : Int) := of_decide_eq_true (by first | (with_reducible assumption) | assumption)
                                      obtain ⟨ad332, e332, hx332_0⟩ := Kd.at_int (Kd.R_reads' HO_5.out).2.2 (ji13) p332 q332
                                      cases e332
                                      replace p332 := eq_true p332
                                      replace q332 := eq_true q332
                                      try go_wp2
                                      have n0_ := Aside0.mk (Kd.R_drew HO_5.out)
                                      have n1_ := Aside0.mk (Kd.R_drew HO_7.out)
                                      have n2_ := Aside0.mk (below_drew1 HB.out)
                                      clear HO_5
                                      clear HO_7
                                      clear HB
                                      have HO_5 := n0_
                                      have HO_7 := n1_
                                      have HB := n2_
                                      clear n0_ n1_ n2_
                                      have q27 : ((ji13) : Int) ≤ ((x5_2.length : Int) : Int) := of_decide_eq_true (by first | (with_reducible assumption) | assumption)
                                      obtain ⟨i027, hi027, _, hsz27, _⟩ := info_parts info3
                                      have hroom27 : x5_2.length ≤ co25 := (Kd.R_reads' HO_5.out).2.1
                                      have hC27 : Kd.C (Kd.int .i64) _ (some ad332) x5_2.length x5_2 := (Kd.R_reads' HO_5.out).2.2
                                      have hcut27 := cut_to (P := Try.prog) 33 3 .i64 Try.underlying33 hi027 (some ad332) x5_2.length co25 (ji13) (of_decide_eq_true (by first | (with_reducible assumption) | assumption)) q27 hroom27
                                      have hr27 := Kd.C_take (m := ((ji13) : Int).toNat) hC27 (by omega)
                                      have hy27 : y336.length = ((ji13) : Int).toNat := (by rw [Ny336.out, List.length_take]; omega)
                                      rw [← Ny336.out] at hr27
                                      rw [← hy27] at hcut27
                                      have HR339 := Aside0.mk hr27
                                      have HC339 := Aside0.mk (show y336.length ≤ co25 from by omega)
                                      clear hr27 hC27 hroom27 hi027 hsz27
                                      have KY27 := Aside0.mk hy27
                                      clear hy27
                                      have KL27 := Aside0.mk (show ((ji13) : Int).toNat ≤ x5_2.length from by omega)
                                      replace q27 := eq_true q27
                                      have q28 : ((ji19) : Int) ≤ ((x5_2.length : Int) : Int) := of_decide_eq_true (by first | (with_reducible assumption) | assumption)
                                      obtain ⟨i028, hi028, _, hsz28, _⟩ := info_parts info3
                                      have hroom28 : x5_2.length ≤ co25 := (Kd.R_reads' HO_5.out).2.1
                                      have hC28 : Kd.C (Kd.int .i64) _ (some ad332) x5_2.length x5_2 := (Kd.R_reads' HO_5.out).2.2
                                      have q028 : (0 : Int) ≤ ((ji19) : Int) := of_decide_eq_true (by first | (with_reducible assumption) | assumption)
                                      have hcut28 := cut_from (P := Try.prog) 33 3 .i64 Try.underlying33 hi028 1 hsz28 (some ad332) x5_2.length co25 (ji19) q028 q28
                                      have hr28 := Kd.C_drop (m := ((ji19) : Int).toNat) (c := co25) hC28 (by omega) hroom28
                                      obtain ⟨A28, hA28⟩ : ∃ A1, A1 = (if co25 = ((ji19) : Int).toNat then (some ad332) else ((some ad332) : Option Addr).map (·.add (((ji19) : Int).toNat * 1))) := ⟨_, rfl⟩
                                      obtain ⟨c28, hc28⟩ : ∃ c1, c1 = co25 - ((ji19) : Int).toNat := ⟨_, rfl⟩
                                      have hy28 : y343.length = x5_2.length - ((ji19) : Int).toNat := (by rw [Ny343.out, List.length_drop] <;> omega)
                                      rw [show (x5_2).drop ((ji19) : Int).toNat = y343 from Ny343.out.symm] at hr28
                                      replace hr28 : Kd.C (Kd.int .i64) _ A28 y343.length y343 := (by rw [hA28]; exact hr28)
                                      rw [← hy28, ← hA28, ← hc28] at hcut28
                                      have HR346 := Aside0.mk hr28
                                      have HC346 := Aside0.mk (show y343.length ≤ c28 from by rw [hy28, hc28]; exact Nat.sub_le_sub_right hroom28 _)
                                      clear hr28 hC28 hroom28 hi028 hsz28 hc28
                                      have KY28 := Aside0.mk hy28
                                      have KA28 := Aside0.mk hA28
                                      clear hy28 hA28
                                      have KL28 := Aside0.mk (show ((ji19) : Int).toNat ≤ x5_2.length from by omega)
                                      replace q28 := eq_true q28
                                      refine start_ (n := 11) (S := fun w' => True) (ds := []) #[false, false, false, false, false, false, false, false, false, false, false] (by kernel_rfl) rfl rfl trivial (fun hHeld => ?_); refine with_tabW gatehouselaw05_SpaceFull.tab17 gatehouselaw05_SpaceFull.bits17 (fun HT_ HW_ => ?_)
                                      generalize wr.drew = w26 at HO_5 HO_7 HB HR339 HR346 hHeld ⊢
                                      refine pure_ (i := 1) (N := some 57) (v := ?_) (a' := ?_) #[false, true, false, false, false, false, false, false, false, false, false] rfl rfl (any_of HT_.out (by kernel_rfl)) (fun _ _ _ h => h) (Or.inl ⟨by rfl, ?_⟩) ?_ ?_
                                      rotate_left
                                      · intro w'
                                        go_simp
                                        with_reducible rfl
                                      rotate_left
                                      · simp only [Act.put, List.setIfInBounds_toArray, List.set_cons_zero, List.set_cons_succ, i64_w, i32_w]
                                        rfl
                                      refine pure_ (i := 2) (N := some 58) (v := ?_) (a' := ?_) #[false, true, true, false, false, false, false, false, false, false, false] rfl rfl (any_of HT_.out (by kernel_rfl)) (fun _ _ _ h => h) (Or.inl ⟨by rfl, ?_⟩) ?_ ?_
                                      rotate_left
                                      · intro w'
                                        go_simp
                                        with_reducible rfl
                                      rotate_left
                                      · simp only [Act.put, List.setIfInBounds_toArray, List.set_cons_zero, List.set_cons_succ, i64_w, i32_w]
                                        rfl
                                      refine pure_ (i := 3) (N := some 59) (v := ?_) (a' := ?_) #[false, true, true, true, false, false, false, false, false, false, false] rfl rfl (any_of HT_.out (by kernel_rfl)) (fun _ _ _ h => h) (Or.inl ⟨by rfl, ?_⟩) ?_ ?_
                                      rotate_left
                                      · intro w'
                                        go_simp
                                        with_reducible rfl
                                      rotate_left
                                      · simp only [Act.put, List.setIfInBounds_toArray, List.set_cons_zero, List.set_cons_succ, i64_w, i32_w]
                                        rfl
                                      refine pure_ (i := 5) (N := some 61) (v := ?_) (a' := ?_) #[false, true, true, true, false, true, false, false, false, false, false] rfl rfl (any_of HT_.out (by kernel_rfl)) (fun _ _ _ h => h) (Or.inl ⟨by rfl, ?_⟩) ?_ ?_
                                      rotate_left
                                      · intro w'
                                        go_simp
                                        with_reducible rfl
                                      rotate_left
                                      · simp only [Act.put, List.setIfInBounds_toArray, List.set_cons_zero, List.set_cons_succ, i64_w, i32_w]
                                        rfl
                                      refine pure_ (i := 6) (N := some 62) (v := ?_) (a' := ?_) #[false, true, true, true, false, true, true, false, false, false, false] rfl rfl (any_of HT_.out (by kernel_rfl)) (fun _ _ _ h => h) (Or.inl ⟨by rfl, ?_⟩) ?_ ?_
                                      rotate_left
                                      · intro w'
                                        go_simp
                                        with_reducible rfl
                                      rotate_left
                                      · simp only [Act.put, List.setIfInBounds_toArray, List.set_cons_zero, List.set_cons_succ, i64_w, i32_w]
                                        rfl
                                      refine pure_ (i := 7) (N := some 63) (v := ?_) (a' := ?_) #[false, true, true, true, false, true, true, true, false, false, false] rfl rfl (any_of HT_.out (by kernel_rfl)) (fun _ _ _ h => h) (Or.inl ⟨by rfl, ?_⟩) ?_ ?_
                                      rotate_left
                                      · intro w'
                                        go_simp
                                        with_reducible rfl
                                      rotate_left
                                      · simp only [Act.put, List.setIfInBounds_toArray, List.set_cons_zero, List.set_cons_succ, i64_w, i32_w]
                                        rfl
                                      refine pure_ (i := 8) (N := some 64) (v := ?_) (a' := ?_) #[false, true, true, true, false, true, true, true, true, false, false] rfl rfl (any_of HT_.out (by kernel_rfl)) (fun _ _ _ h => h) (Or.inl ⟨by rfl, ?_⟩) ?_ ?_
                                      rotate_left
                                      · intro w'
                                        go_simp
                                        with_reducible rfl
                                      rotate_left
                                      · simp only [Act.put, List.setIfInBounds_toArray, List.set_cons_zero, List.set_cons_succ, i64_w, i32_w]
                                        rfl
                                      refine one_ (i := 0) (N := some 56) #[true, true, true, true, false, true, true, true, true, false, false] rfl rfl (one_of HT_.out (by kernel_rfl)) (by decide) (fun K hK => ?_)
                                      refine Kd.R_lit_step (Kd.int .i64) _ 3 ?hg (N := 56) ?hd (xs := ([] : List Int)) (inner := []) (ok := fun _ => True) (okp := fun _ => True) ?hr ?hp (fun _ hk => hk) trivial (Below.refl _ _) (Nat.le_refl _) (by simp) ?_; (case hd => rfl); (case hg => rfl); (case hr => first | (go_simp; done) | (go_simp; rfl)); (case hp => exact (Reps.none _ _))
                                      intro v334 w29 ho30 hb hg_ hnew_
                                      clear hg_ hnew_
                                      (first | rw [← Ny333.out] at ho30 | (simp only [Int.reduceToNat] at ho30; rw [← Ny333.out] at ho30))
                                      have n0_ := Aside0.mk (Kd.R_elder' (by (with_reducible repeat (first | apply Kd.R_alloc | apply Kd.R_drewN | apply Kd.R_drew)); exact HO_5.out) (Kd.R_base ho30) hb)
                                      have n1_ := Aside0.mk (Kd.R_below (by (with_reducible repeat (first | apply Kd.R_alloc | apply Kd.R_drewN | apply Kd.R_drew)); exact HO_7.out) hb)
                                      have n2_ := Aside0.mk (Kd.R_lower (Kd.R_new' ho30 (Kd.R_lt (by (with_reducible repeat (first | apply Kd.R_alloc | apply Kd.R_drewN | apply Kd.R_drew)); exact HO_5.out))) (below_size (by repeat (first | (with_reducible first | exact HB.out | apply below_alloc | apply pw_below_drewN | apply below_drew1) | exact HB.out))))
                                      have n3_ := Aside0.mk (Kd.C_below (by repeat (first | (with_reducible exact HR339.out) | (with_reducible refine Kd.C_alloc ?_ _) | (with_reducible refine Kd.C_drewN ?_ _) | (with_reducible refine Kd.C_drew ?_) | exact HR339.out)) hb)
                                      have n4_ := Aside0.mk (Kd.C_below (by repeat (first | (with_reducible exact HR346.out) | (with_reducible refine Kd.C_alloc ?_ _) | (with_reducible refine Kd.C_drewN ?_ _) | (with_reducible refine Kd.C_drew ?_) | exact HR346.out)) hb)
                                      have n5_ := Aside0.mk (below_step (by repeat (first | (with_reducible first | exact HB.out | apply below_alloc | apply pw_below_drewN | apply below_drew1) | exact HB.out)) hb)
                                      clear HO_5
                                      clear HO_7
                                      clear HR339
                                      clear HR346
                                      clear HB
                                      have HO_5 := n0_
                                      have HO_7 := n1_
                                      have HO335 := n2_
                                      have HR339 := n3_
                                      have HR346 := n4_
                                      have HB := n5_
                                      clear n0_ n1_ n2_ n3_ n4_ n5_
                                      clear hb ho30
                                      refine hK.out _ _ trivial (fun hHeld => ?_)
                                      clear hK K
                                      refine norm_ (a' := ?_) ?_ ?_
                                      rotate_left
                                      · show Act.put _ (some 56) _ = _
                                        simp only [Act.put, List.setIfInBounds_toArray, List.set_cons_zero, List.set_cons_succ, i64_w, i32_w]
                                        rfl
                                      refine one_ (i := 4) (N := some 60) #[true, true, true, true, true, true, true, true, true, false, false] rfl rfl (one_of HT_.out (by kernel_rfl)) (by decide) (fun K hK => ?_)
                                      refine Kd.R_append_rows_step (Kd.int .i64) (w0 := w) w.heap.size (by rfl) (.tmp 56) (.tmp 59) 33 3 (.int .i64 0) 8 rfl Try.underlying33 info3 rfl (by decide) (by omega) v334 y333 y336 _ _ _ (fun k_ => some k_ ≠ (.slice (some ad332) x5_2.length co25 : Value).ownBlock) (fun _ => False) rfl rfl ?aO ?aR (fun _ _ h => h) (fun _ h => h.elim) ?aF ?aB ?aS ?aL ?_
                                      (case aR => repeat (first | exact (by repeat (first | (with_reducible exact HR339.out) | (with_reducible refine Kd.C_alloc ?_ _) | (with_reducible refine Kd.C_drewN ?_ _) | (with_reducible refine Kd.C_drew ?_) | exact HR339.out)) | (with_reducible refine Kd.C_alloc ?_ _) | (with_reducible refine Kd.C_drewN ?_ _) | (with_reducible refine Kd.C_drew ?_)))
                                      (case aB => exact (by repeat (first | (with_reducible first | exact HB.out | apply below_alloc | apply pw_below_drewN | apply below_drew1) | exact HB.out)))
                                      (case aF => exact (fun k_ hk => Kd.fresh' (Kd.R_lt (by (with_reducible repeat (first | apply Kd.R_alloc | apply Kd.R_drewN | apply Kd.R_drew)); exact HO_5.out)) k_ hk))
                                      (case aO => exact (by (with_reducible repeat (first | apply Kd.R_alloc | apply Kd.R_drewN | apply Kd.R_drew)); exact Kd.R_mono HO335.out (fun _ hk => hk.2)))
                                      (case aS => exact (below_size (by repeat (first | (with_reducible first | exact HB.out | apply below_alloc | apply pw_below_drewN | apply below_drew1) | exact HB.out))))
                                      (case aL => have := LMc18.out; omega)
                                      intro v341 w31 ho hb hg hat
                                      rw [← Ny340.out] at ho
                                      have n0_ := Aside0.mk (Kd.R_after (ok := (fun _ => True)) (by (with_reducible repeat (first | apply Kd.R_alloc | apply Kd.R_drewN | apply Kd.R_drew)); exact HO_5.out) hg hat)
                                      have n1_ := Aside0.mk (Kd.R_over' (by (with_reducible repeat (first | apply Kd.R_alloc | apply Kd.R_drewN | apply Kd.R_drew)); exact HO_7.out) (Kd.R_typed (by (with_reducible repeat (first | apply Kd.R_alloc | apply Kd.R_drewN | apply Kd.R_drew)); exact HO335.out)) (by decide) hg)
                                      have n2_ := Aside0.mk (hb)
                                      have n3_ := Aside0.mk ((show Kd.C (Kd.int .i64) w31 (some ad332) y336.length y336 from by rw [Ny336.out]; exact Kd.C_take (m := ((ji13) : Int).toNat) ((Kd.R_reads' (Kd.R_after (ok := (fun _ => True)) (by (with_reducible repeat (first | apply Kd.R_alloc | apply Kd.R_drewN | apply Kd.R_drew)); exact HO_5.out) hg hat)).2.2) KL27.out))
                                      have n4_ := Aside0.mk ((show Kd.C (Kd.int .i64) w31 A28 y343.length y343 from by rw [Ny343.out, KA28.out]; exact Kd.C_drop (m := ((ji19) : Int).toNat) (c := co25) ((Kd.R_reads' (Kd.R_after (ok := (fun _ => True)) (by (with_reducible repeat (first | apply Kd.R_alloc | apply Kd.R_drewN | apply Kd.R_drew)); exact HO_5.out) hg hat)).2.2) KL28.out ((Kd.R_reads' (Kd.R_after (ok := (fun _ => True)) (by (with_reducible repeat (first | apply Kd.R_alloc | apply Kd.R_drewN | apply Kd.R_drew)); exact HO_5.out) hg hat)).2.1)))
                                      have n5_ := Aside0.mk (ho)
                                      clear HO_5
                                      clear HO_7
                                      clear HB
                                      clear HR339
                                      clear HR346
                                      clear HO335
                                      have HO_5 := n0_
                                      have HO_7 := n1_
                                      have HB := n2_
                                      have HR339 := n3_
                                      have HR346 := n4_
                                      have HO342 := n5_
                                      clear n0_ n1_ n2_ n3_ n4_ n5_
                                      clear ho hb hg hat
                                      refine hK.out _ _ trivial (fun hHeld => ?_)
                                      clear hK K
                                      refine norm_ (a' := ?_) ?_ ?_
                                      rotate_left
                                      · show Act.put _ (some 60) _ = _
                                        simp only [Act.put, List.setIfInBounds_toArray, List.set_cons_zero, List.set_cons_succ, i64_w, i32_w]
                                        rfl
                                      refine one_ (i := 9) (N := some 65) #[true, true, true, true, true, true, true, true, true, true, false] rfl rfl (one_of HT_.out (by kernel_rfl)) (by decide) (fun K hK => ?_)
                                      refine Kd.R_append_rows_step (Kd.int .i64) (w0 := w) w.heap.size (by rfl) (.tmp 60) (.tmp 64) 33 3 (.int .i64 0) 8 rfl Try.underlying33 info3 rfl (by decide) (by omega) v341 y340 y343 _ _ _ (fun k_ => some k_ ≠ (.slice (some ad332) x5_2.length co25 : Value).ownBlock) (fun _ => False) rfl rfl ?aO ?aR (fun _ _ h => h) (fun _ h => h.elim) ?aF ?aB ?aS ?aL ?_
                                      (case aR => repeat (first | exact (by repeat (first | (with_reducible exact HR346.out) | (with_reducible refine Kd.C_alloc ?_ _) | (with_reducible refine Kd.C_drewN ?_ _) | (with_reducible refine Kd.C_drew ?_) | exact HR346.out)) | (with_reducible refine Kd.C_alloc ?_ _) | (with_reducible refine Kd.C_drewN ?_ _) | (with_reducible refine Kd.C_drew ?_)))
                                      (case aB => exact (by repeat (first | (with_reducible first | exact HB.out | apply below_alloc | apply pw_below_drewN | apply below_drew1) | exact HB.out)))
                                      (case aF => exact (fun k_ hk => Kd.fresh' (Kd.R_lt (by (with_reducible repeat (first | apply Kd.R_alloc | apply Kd.R_drewN | apply Kd.R_drew)); exact HO_5.out)) k_ hk))
                                      (case aO => exact (by (with_reducible repeat (first | apply Kd.R_alloc | apply Kd.R_drewN | apply Kd.R_drew)); exact HO342.out))
                                      (case aS => exact (below_size (by repeat (first | (with_reducible first | exact HB.out | apply below_alloc | apply pw_below_drewN | apply below_drew1) | exact HB.out))))
                                      (case aL => have := LMc22.out; omega)
                                      intro v348 w32 ho hb hg hat
                                      rw [← Ny347.out] at ho
                                      have n0_ := Aside0.mk (Kd.R_after (ok := (fun _ => True)) (by (with_reducible repeat (first | apply Kd.R_alloc | apply Kd.R_drewN | apply Kd.R_drew)); exact HO_5.out) hg hat)
                                      have n1_ := Aside0.mk (Kd.R_over' (by (with_reducible repeat (first | apply Kd.R_alloc | apply Kd.R_drewN | apply Kd.R_drew)); exact HO_7.out) (Kd.R_typed (by (with_reducible repeat (first | apply Kd.R_alloc | apply Kd.R_drewN | apply Kd.R_drew)); exact HO342.out)) (by decide) hg)
                                      have n2_ := Aside0.mk (hb)
                                      have n3_ := Aside0.mk ((show Kd.C (Kd.int .i64) w32 (some ad332) y336.length y336 from by rw [Ny336.out]; exact Kd.C_take (m := ((ji13) : Int).toNat) ((Kd.R_reads' (Kd.R_after (ok := (fun _ => True)) (by (with_reducible repeat (first | apply Kd.R_alloc | apply Kd.R_drewN | apply Kd.R_drew)); exact HO_5.out) hg hat)).2.2) KL27.out))
                                      have n4_ := Aside0.mk ((show Kd.C (Kd.int .i64) w32 A28 y343.length y343 from by rw [Ny343.out, KA28.out]; exact Kd.C_drop (m := ((ji19) : Int).toNat) (c := co25) ((Kd.R_reads' (Kd.R_after (ok := (fun _ => True)) (by (with_reducible repeat (first | apply Kd.R_alloc | apply Kd.R_drewN | apply Kd.R_drew)); exact HO_5.out) hg hat)).2.2) KL28.out ((Kd.R_reads' (Kd.R_after (ok := (fun _ => True)) (by (with_reducible repeat (first | apply Kd.R_alloc | apply Kd.R_drewN | apply Kd.R_drew)); exact HO_5.out) hg hat)).2.1)))
                                      have n5_ := Aside0.mk (ho)
                                      clear HO_5
                                      clear HO_7
                                      clear HB
                                      clear HR339
                                      clear HR346
                                      clear HO342
                                      have HO_5 := n0_
                                      have HO_7 := n1_
                                      have HB := n2_
                                      have HR339 := n3_
                                      have HR346 := n4_
                                      have HO349 := n5_
                                      clear n0_ n1_ n2_ n3_ n4_ n5_
                                      clear ho hb hg hat
                                      refine hK.out _ _ trivial (fun hHeld => ?_)
                                      clear hK K
                                      refine norm_ (a' := ?_) ?_ ?_
                                      rotate_left
                                      · show Act.put _ (some 65) _ = _
                                        simp only [Act.put, List.setIfInBounds_toArray, List.set_cons_zero, List.set_cons_succ, i64_w, i32_w]
                                        rfl
                                      refine pure_ (i := 10) (N := some 5) (v := ?_) (a' := ?_) #[true, true, true, true, true, true, true, true, true, true, true] rfl rfl (any_of HT_.out (by kernel_rfl)) (fun _ _ _ h => h) (Or.inl ⟨by rfl, ?_⟩) ?_ ?_
                                      rotate_left
                                      · intro w'
                                        go_simp
                                        with_reducible rfl
                                      rotate_left
                                      · simp only [Act.put, List.setIfInBounds_toArray, List.set_cons_zero, List.set_cons_succ, i64_w, i32_w]
                                        rfl
                                      refine done_ (done_of HT_.out (by kernel_rfl)) ?_
                                      obtain ⟨Ao33, co33, eo33⟩ := Kd.R_slice HO_7.out
                                      subst eo33
                                      try go_wp2_with (first | ((with_reducible refine gate_callee (f := 12) rfl ?_); refine goesL_ (some 75) rfl rfl Try.func12 (by kernel_rfl) rfl #[.slice Ao33 x7_2.length co33, .agg #[.int .i64 (wrap64 ((rd x5_2 (ji13)) * (wrap64 (4 + (wrap64 (Int.tmod (IntKind.u64.wrap (a1)) 1000)))))), .int .i64 4, .int .i64 1, .int .i64 (wrap64 ((rd x5_2 (ji13)) + 1)), .int .i64 0, .bool false, .bool false]] rfl (by (try simp only [List.map_toArray, List.map_cons, List.map_nil]); first | done | (simp only [hji13]; rfl) | rfl | (simp only [List.length_drop, List.length_take]; rfl)) ?_; (with_reducible refine (space_Put.calls _ _ x7_2 (wrap64 ((rd x5_2 (ji13)) * (wrap64 (4 + (wrap64 (Int.tmod (IntKind.u64.wrap (a1)) 1000)))))) 4 1 (wrap64 ((rd x5_2 (ji13)) + 1)) 0 false false t350 t353 _ ?side1 ?side2 A23.out).mono ?_); (case side1 => repeat (first | exact (Kd.R_reads' HO_7.out).2.2 | (with_reducible refine Kd.C_alloc ?_ _) | (with_reducible refine Kd.C_drewN ?_ _) | (with_reducible refine Kd.C_drew ?_))); (case side2 => exact (Kd.R_reads' HO_7.out).2.1); rintro e w34 ⟨v351, rfl, ho0, hb⟩; refine ⟨_, rfl, ?_⟩; have n0_ := Aside0.mk (Kd.R_below (by (with_reducible repeat (first | apply Kd.R_alloc | apply Kd.R_drewN | apply Kd.R_drew)); exact HO_5.out) hb); have n1_ := Aside0.mk (Kd.R_elder' (by (with_reducible repeat (first | apply Kd.R_alloc | apply Kd.R_drewN | apply Kd.R_drew)); exact HO_7.out) (Kd.R_base ho0) hb); have n2_ := Aside0.mk (Kd.R_below (by (with_reducible repeat (first | apply Kd.R_alloc | apply Kd.R_drewN | apply Kd.R_drew)); exact HO349.out) hb); have n3_ := Aside0.mk (Kd.R_lower (Kd.R_new' ho0 (Kd.R_lt (by (with_reducible repeat (first | apply Kd.R_alloc | apply Kd.R_drewN | apply Kd.R_drew)); exact HO_7.out))) (below_size (by repeat (first | (with_reducible first | exact HB.out | apply below_alloc | apply pw_below_drewN | apply below_drew1) | exact HB.out)))); have n4_ := Aside0.mk (Kd.C_below (by repeat (first | (with_reducible exact HR339.out) | (with_reducible refine Kd.C_alloc ?_ _) | (with_reducible refine Kd.C_drewN ?_ _) | (with_reducible refine Kd.C_drew ?_) | exact HR339.out)) hb); have n5_ := Aside0.mk (Kd.C_below (by repeat (first | (with_reducible exact HR346.out) | (with_reducible refine Kd.C_alloc ?_ _) | (with_reducible refine Kd.C_drewN ?_ _) | (with_reducible refine Kd.C_drew ?_) | exact HR346.out)) hb); have n6_ := Aside0.mk (below_step (by repeat (first | (with_reducible first | exact HB.out | apply below_alloc | apply pw_below_drewN | apply below_drew1) | exact HB.out)) hb); clear HO_5; clear HO_7; clear HO349; clear HR339; clear HR346; clear HB; have HO_5 := n0_; have HO_7 := n1_; have HO349 := n2_; have HO352 := n3_; have HR339 := n4_; have HR346 := n5_; have HB := n6_; clear n0_ n1_ n2_ n3_ n4_ n5_ n6_; (try clear hb); (try clear hb2); (try clear hk); (try clear hi); (try clear ho0)))
                                      go_roundg k2
                                      case measure => have := HK1.out; have := HK2.out; omega
                                      case rel => exact ⟨(y347), (t350), (wrap64 (x8_2 + 1)), (by first | rfl | (simp; done) | (simp [*]; done)), H', ⟨by have := HK1.out; have := HK2.out; omega⟩, ⟨by (with_reducible repeat (first | apply Kd.R_alloc | apply Kd.R_drewN | apply Kd.R_drew)); exact Kd.R_mono HO349.out (fun _ hk => trivial)⟩, ⟨by (with_reducible repeat (first | apply Kd.R_alloc | apply Kd.R_drewN | apply Kd.R_drew)); exact Kd.R_mono HO352.out (fun _ hk => trivial)⟩, ⟨by repeat (first | (with_reducible first | exact HB.out | apply below_alloc | apply pw_below_drewN | apply below_drew1) | exact HB.out)⟩⟩
                                    · rw [if_neg c24] at H
                                      have c24b0 : (t353 == 0) = false := beq_eq_false_iff_ne.mpr c24
                                      have c24b1 : (t353 != 0) = true := bne_iff_ne.mpr c24
                                      obtain rfl := Option.some.inj H
                                      obtain ⟨Ao35, co35, eo35⟩ := Kd.R_slice HO_5.out
                                      subst eo35
                                      have p331 : 0 ≤ (x8_2 : Int) := of_decide_eq_true (by first | (with_reducible assumption) | assumption)
                                      have q331 : x8_2 < (l0.length : Int) := of_decide_eq_true (by first | (with_reducible assumption) | assumption)
                                      obtain ⟨ad331, e331, hx331_0⟩ := Kd.at_int HR0.out x8_2 p331 q331
                                      cases e331
                                      replace hx331_0 := (HB.out.cell (World.block_lt_of_cell? w _ hx331_0)).trans hx331_0
                                      replace p331 := eq_true p331
                                      replace q331 := eq_true q331
                                      have p332 : 0 ≤ ((ji13) : Int) := of_decide_eq_true (by first | (with_reducible assumption) | assumption)
                                      have q332 : (ji13) < (x5_2.length : Int) := of_decide_eq_true (by first | (with_reducible assumption) | assumption)
                                      obtain ⟨ad332, e332, hx332_0⟩ := Kd.at_int (Kd.R_reads' HO_5.out).2.2 (ji13) p332 q332
                                      cases e332
                                      replace p332 := eq_true p332
                                      replace q332 := eq_true q332
                                      try go_wp2
                                      have n0_ := Aside0.mk (Kd.R_drew HO_5.out)
                                      have n1_ := Aside0.mk (Kd.R_drew HO_7.out)
                                      have n2_ := Aside0.mk (below_drew1 HB.out)
                                      clear HO_5
                                      clear HO_7
                                      clear HB
                                      have HO_5 := n0_
                                      have HO_7 := n1_
                                      have HB := n2_
                                      clear n0_ n1_ n2_
                                      have q37 : ((ji13) : Int) ≤ ((x5_2.length : Int) : Int) := of_decide_eq_true (by first | (with_reducible assumption) | assumption)
                                      obtain ⟨i037, hi037, _, hsz37, _⟩ := info_parts info3
                                      have hroom37 : x5_2.length ≤ co35 := (Kd.R_reads' HO_5.out).2.1
                                      have hC37 : Kd.C (Kd.int .i64) _ (some ad332) x5_2.length x5_2 := (Kd.R_reads' HO_5.out).2.2
                                      have hcut37 := cut_to (P := Try.prog) 33 3 .i64 Try.underlying33 hi037 (some ad332) x5_2.length co35 (ji13) (of_decide_eq_true (by first | (with_reducible assumption) | assumption)) q37 hroom37
                                      have hr37 := Kd.C_take (m := ((ji13) : Int).toNat) hC37 (by omega)
                                      have hy37 : y336.length = ((ji13) : Int).toNat := (by rw [Ny336.out, List.length_take]; omega)
                                      rw [← Ny336.out] at hr37
                                      rw [← hy37] at hcut37
                                      have HR339 := Aside0.mk hr37
                                      have HC339 := Aside0.mk (show y336.length ≤ co35 from by omega)
                                      clear hr37 hC37 hroom37 hi037 hsz37
                                      have KY37 := Aside0.mk hy37
                                      clear hy37
                                      have KL37 := Aside0.mk (show ((ji13) : Int).toNat ≤ x5_2.length from by omega)
                                      replace q37 := eq_true q37
                                      have q38 : ((ji19) : Int) ≤ ((x5_2.length : Int) : Int) := of_decide_eq_true (by first | (with_reducible assumption) | assumption)
                                      obtain ⟨i038, hi038, _, hsz38, _⟩ := info_parts info3
                                      have hroom38 : x5_2.length ≤ co35 := (Kd.R_reads' HO_5.out).2.1
                                      have hC38 : Kd.C (Kd.int .i64) _ (some ad332) x5_2.length x5_2 := (Kd.R_reads' HO_5.out).2.2
                                      have q038 : (0 : Int) ≤ ((ji19) : Int) := of_decide_eq_true (by first | (with_reducible assumption) | assumption)
                                      have hcut38 := cut_from (P := Try.prog) 33 3 .i64 Try.underlying33 hi038 1 hsz38 (some ad332) x5_2.length co35 (ji19) q038 q38
                                      have hr38 := Kd.C_drop (m := ((ji19) : Int).toNat) (c := co35) hC38 (by omega) hroom38
                                      obtain ⟨A38, hA38⟩ : ∃ A1, A1 = (if co35 = ((ji19) : Int).toNat then (some ad332) else ((some ad332) : Option Addr).map (·.add (((ji19) : Int).toNat * 1))) := ⟨_, rfl⟩
                                      obtain ⟨c38, hc38⟩ : ∃ c1, c1 = co35 - ((ji19) : Int).toNat := ⟨_, rfl⟩
                                      have hy38 : y343.length = x5_2.length - ((ji19) : Int).toNat := (by rw [Ny343.out, List.length_drop] <;> omega)
                                      rw [show (x5_2).drop ((ji19) : Int).toNat = y343 from Ny343.out.symm] at hr38
                                      replace hr38 : Kd.C (Kd.int .i64) _ A38 y343.length y343 := (by rw [hA38]; exact hr38)
                                      rw [← hy38, ← hA38, ← hc38] at hcut38
                                      have HR346 := Aside0.mk hr38
                                      have HC346 := Aside0.mk (show y343.length ≤ c38 from by rw [hy38, hc38]; exact Nat.sub_le_sub_right hroom38 _)
                                      clear hr38 hC38 hroom38 hi038 hsz38 hc38
                                      have KY38 := Aside0.mk hy38
                                      have KA38 := Aside0.mk hA38
                                      clear hy38 hA38
                                      have KL38 := Aside0.mk (show ((ji19) : Int).toNat ≤ x5_2.length from by omega)
                                      replace q38 := eq_true q38
                                      refine start_ (n := 11) (S := fun w' => True) (ds := []) #[false, false, false, false, false, false, false, false, false, false, false] (by kernel_rfl) rfl rfl trivial (fun hHeld => ?_); refine with_tabW gatehouselaw05_SpaceFull.tab17 gatehouselaw05_SpaceFull.bits17 (fun HT_ HW_ => ?_)
                                      generalize wr.drew = w36 at HO_5 HO_7 HB HR339 HR346 hHeld ⊢
                                      refine pure_ (i := 1) (N := some 57) (v := ?_) (a' := ?_) #[false, true, false, false, false, false, false, false, false, false, false] rfl rfl (any_of HT_.out (by kernel_rfl)) (fun _ _ _ h => h) (Or.inl ⟨by rfl, ?_⟩) ?_ ?_
                                      rotate_left
                                      · intro w'
                                        go_simp
                                        with_reducible rfl
                                      rotate_left
                                      · simp only [Act.put, List.setIfInBounds_toArray, List.set_cons_zero, List.set_cons_succ, i64_w, i32_w]
                                        rfl
                                      refine pure_ (i := 2) (N := some 58) (v := ?_) (a' := ?_) #[false, true, true, false, false, false, false, false, false, false, false] rfl rfl (any_of HT_.out (by kernel_rfl)) (fun _ _ _ h => h) (Or.inl ⟨by rfl, ?_⟩) ?_ ?_
                                      rotate_left
                                      · intro w'
                                        go_simp
                                        with_reducible rfl
                                      rotate_left
                                      · simp only [Act.put, List.setIfInBounds_toArray, List.set_cons_zero, List.set_cons_succ, i64_w, i32_w]
                                        rfl
                                      refine pure_ (i := 3) (N := some 59) (v := ?_) (a' := ?_) #[false, true, true, true, false, false, false, false, false, false, false] rfl rfl (any_of HT_.out (by kernel_rfl)) (fun _ _ _ h => h) (Or.inl ⟨by rfl, ?_⟩) ?_ ?_
                                      rotate_left
                                      · intro w'
                                        go_simp
                                        with_reducible rfl
                                      rotate_left
                                      · simp only [Act.put, List.setIfInBounds_toArray, List.set_cons_zero, List.set_cons_succ, i64_w, i32_w]
                                        rfl
                                      refine pure_ (i := 5) (N := some 61) (v := ?_) (a' := ?_) #[false, true, true, true, false, true, false, false, false, false, false] rfl rfl (any_of HT_.out (by kernel_rfl)) (fun _ _ _ h => h) (Or.inl ⟨by rfl, ?_⟩) ?_ ?_
                                      rotate_left
                                      · intro w'
                                        go_simp
                                        with_reducible rfl
                                      rotate_left
                                      · simp only [Act.put, List.setIfInBounds_toArray, List.set_cons_zero, List.set_cons_succ, i64_w, i32_w]
                                        rfl
                                      refine pure_ (i := 6) (N := some 62) (v := ?_) (a' := ?_) #[false, true, true, true, false, true, true, false, false, false, false] rfl rfl (any_of HT_.out (by kernel_rfl)) (fun _ _ _ h => h) (Or.inl ⟨by rfl, ?_⟩) ?_ ?_
                                      rotate_left
                                      · intro w'
                                        go_simp
                                        with_reducible rfl
                                      rotate_left
                                      · simp only [Act.put, List.setIfInBounds_toArray, List.set_cons_zero, List.set_cons_succ, i64_w, i32_w]
                                        rfl
                                      refine pure_ (i := 7) (N := some 63) (v := ?_) (a' := ?_) #[false, true, true, true, false, true, true, true, false, false, false] rfl rfl (any_of HT_.out (by kernel_rfl)) (fun _ _ _ h => h) (Or.inl ⟨by rfl, ?_⟩) ?_ ?_
                                      rotate_left
                                      · intro w'
                                        go_simp
                                        with_reducible rfl
                                      rotate_left
                                      · simp only [Act.put, List.setIfInBounds_toArray, List.set_cons_zero, List.set_cons_succ, i64_w, i32_w]
                                        rfl
                                      refine pure_ (i := 8) (N := some 64) (v := ?_) (a' := ?_) #[false, true, true, true, false, true, true, true, true, false, false] rfl rfl (any_of HT_.out (by kernel_rfl)) (fun _ _ _ h => h) (Or.inl ⟨by rfl, ?_⟩) ?_ ?_
                                      rotate_left
                                      · intro w'
                                        go_simp
                                        with_reducible rfl
                                      rotate_left
                                      · simp only [Act.put, List.setIfInBounds_toArray, List.set_cons_zero, List.set_cons_succ, i64_w, i32_w]
                                        rfl
                                      refine one_ (i := 0) (N := some 56) #[true, true, true, true, false, true, true, true, true, false, false] rfl rfl (one_of HT_.out (by kernel_rfl)) (by decide) (fun K hK => ?_)
                                      refine Kd.R_lit_step (Kd.int .i64) _ 3 ?hg (N := 56) ?hd (xs := ([] : List Int)) (inner := []) (ok := fun _ => True) (okp := fun _ => True) ?hr ?hp (fun _ hk => hk) trivial (Below.refl _ _) (Nat.le_refl _) (by simp) ?_; (case hd => rfl); (case hg => rfl); (case hr => first | (go_simp; done) | (go_simp; rfl)); (case hp => exact (Reps.none _ _))
                                      intro v334 w39 ho40 hb hg_ hnew_
                                      clear hg_ hnew_
                                      (first | rw [← Ny333.out] at ho40 | (simp only [Int.reduceToNat] at ho40; rw [← Ny333.out] at ho40))
                                      have n0_ := Aside0.mk (Kd.R_elder' (by (with_reducible repeat (first | apply Kd.R_alloc | apply Kd.R_drewN | apply Kd.R_drew)); exact HO_5.out) (Kd.R_base ho40) hb)
                                      have n1_ := Aside0.mk (Kd.R_below (by (with_reducible repeat (first | apply Kd.R_alloc | apply Kd.R_drewN | apply Kd.R_drew)); exact HO_7.out) hb)
                                      have n2_ := Aside0.mk (Kd.R_lower (Kd.R_new' ho40 (Kd.R_lt (by (with_reducible repeat (first | apply Kd.R_alloc | apply Kd.R_drewN | apply Kd.R_drew)); exact HO_5.out))) (below_size (by repeat (first | (with_reducible first | exact HB.out | apply below_alloc | apply pw_below_drewN | apply below_drew1) | exact HB.out))))
                                      have n3_ := Aside0.mk (Kd.C_below (by repeat (first | (with_reducible exact HR339.out) | (with_reducible refine Kd.C_alloc ?_ _) | (with_reducible refine Kd.C_drewN ?_ _) | (with_reducible refine Kd.C_drew ?_) | exact HR339.out)) hb)
                                      have n4_ := Aside0.mk (Kd.C_below (by repeat (first | (with_reducible exact HR346.out) | (with_reducible refine Kd.C_alloc ?_ _) | (with_reducible refine Kd.C_drewN ?_ _) | (with_reducible refine Kd.C_drew ?_) | exact HR346.out)) hb)
                                      have n5_ := Aside0.mk (below_step (by repeat (first | (with_reducible first | exact HB.out | apply below_alloc | apply pw_below_drewN | apply below_drew1) | exact HB.out)) hb)
                                      clear HO_5
                                      clear HO_7
                                      clear HR339
                                      clear HR346
                                      clear HB
                                      have HO_5 := n0_
                                      have HO_7 := n1_
                                      have HO335 := n2_
                                      have HR339 := n3_
                                      have HR346 := n4_
                                      have HB := n5_
                                      clear n0_ n1_ n2_ n3_ n4_ n5_
                                      clear hb ho40
                                      refine hK.out _ _ trivial (fun hHeld => ?_)
                                      clear hK K
                                      refine norm_ (a' := ?_) ?_ ?_
                                      rotate_left
                                      · show Act.put _ (some 56) _ = _
                                        simp only [Act.put, List.setIfInBounds_toArray, List.set_cons_zero, List.set_cons_succ, i64_w, i32_w]
                                        rfl
                                      refine one_ (i := 4) (N := some 60) #[true, true, true, true, true, true, true, true, true, false, false] rfl rfl (one_of HT_.out (by kernel_rfl)) (by decide) (fun K hK => ?_)
                                      refine Kd.R_append_rows_step (Kd.int .i64) (w0 := w) w.heap.size (by rfl) (.tmp 56) (.tmp 59) 33 3 (.int .i64 0) 8 rfl Try.underlying33 info3 rfl (by decide) (by omega) v334 y333 y336 _ _ _ (fun k_ => some k_ ≠ (.slice (some ad332) x5_2.length co35 : Value).ownBlock) (fun _ => False) rfl rfl ?aO ?aR (fun _ _ h => h) (fun _ h => h.elim) ?aF ?aB ?aS ?aL ?_
                                      (case aR => repeat (first | exact (by repeat (first | (with_reducible exact HR339.out) | (with_reducible refine Kd.C_alloc ?_ _) | (with_reducible refine Kd.C_drewN ?_ _) | (with_reducible refine Kd.C_drew ?_) | exact HR339.out)) | (with_reducible refine Kd.C_alloc ?_ _) | (with_reducible refine Kd.C_drewN ?_ _) | (with_reducible refine Kd.C_drew ?_)))
                                      (case aB => exact (by repeat (first | (with_reducible first | exact HB.out | apply below_alloc | apply pw_below_drewN | apply below_drew1) | exact HB.out)))
                                      (case aF => exact (fun k_ hk => Kd.fresh' (Kd.R_lt (by (with_reducible repeat (first | apply Kd.R_alloc | apply Kd.R_drewN | apply Kd.R_drew)); exact HO_5.out)) k_ hk))
                                      (case aO => exact (by (with_reducible repeat (first | apply Kd.R_alloc | apply Kd.R_drewN | apply Kd.R_drew)); exact Kd.R_mono HO335.out (fun _ hk => hk.2)))
                                      (case aS => exact (below_size (by repeat (first | (with_reducible first | exact HB.out | apply below_alloc | apply pw_below_drewN | apply below_drew1) | exact HB.out))))
                                      (case aL => have := LMc18.out; omega)
                                      intro v341 w41 ho hb hg hat
                                      rw [← Ny340.out] at ho
                                      have n0_ := Aside0.mk (Kd.R_after (ok := (fun _ => True)) (by (with_reducible repeat (first | apply Kd.R_alloc | apply Kd.R_drewN | apply Kd.R_drew)); exact HO_5.out) hg hat)
                                      have n1_ := Aside0.mk (Kd.R_over' (by (with_reducible repeat (first | apply Kd.R_alloc | apply Kd.R_drewN | apply Kd.R_drew)); exact HO_7.out) (Kd.R_typed (by (with_reducible repeat (first | apply Kd.R_alloc | apply Kd.R_drewN | apply Kd.R_drew)); exact HO335.out)) (by decide) hg)
                                      have n2_ := Aside0.mk (hb)
                                      have n3_ := Aside0.mk ((show Kd.C (Kd.int .i64) w41 (some ad332) y336.length y336 from by rw [Ny336.out]; exact Kd.C_take (m := ((ji13) : Int).toNat) ((Kd.R_reads' (Kd.R_after (ok := (fun _ => True)) (by (with_reducible repeat (first | apply Kd.R_alloc | apply Kd.R_drewN | apply Kd.R_drew)); exact HO_5.out) hg hat)).2.2) KL37.out))
                                      have n4_ := Aside0.mk ((show Kd.C (Kd.int .i64) w41 A38 y343.length y343 from by rw [Ny343.out, KA38.out]; exact Kd.C_drop (m := ((ji19) : Int).toNat) (c := co35) ((Kd.R_reads' (Kd.R_after (ok := (fun _ => True)) (by (with_reducible repeat (first | apply Kd.R_alloc | apply Kd.R_drewN | apply Kd.R_drew)); exact HO_5.out) hg hat)).2.2) KL38.out ((Kd.R_reads' (Kd.R_after (ok := (fun _ => True)) (by (with_reducible repeat (first | apply Kd.R_alloc | apply Kd.R_drewN | apply Kd.R_drew)); exact HO_5.out) hg hat)).2.1)))
                                      have n5_ := Aside0.mk (ho)
                                      clear HO_5
                                      clear HO_7
                                      clear HB
                                      clear HR339
                                      clear HR346
                                      clear HO335
                                      have HO_5 := n0_
                                      have HO_7 := n1_
                                      have HB := n2_
                                      have HR339 := n3_
                                      have HR346 := n4_
                                      have HO342 := n5_
                                      clear n0_ n1_ n2_ n3_ n4_ n5_
                                      clear ho hb hg hat
                                      refine hK.out _ _ trivial (fun hHeld => ?_)
                                      clear hK K
                                      refine norm_ (a' := ?_) ?_ ?_
                                      rotate_left
                                      · show Act.put _ (some 60) _ = _
                                        simp only [Act.put, List.setIfInBounds_toArray, List.set_cons_zero, List.set_cons_succ, i64_w, i32_w]
                                        rfl
                                      refine one_ (i := 9) (N := some 65) #[true, true, true, true, true, true, true, true, true, true, false] rfl rfl (one_of HT_.out (by kernel_rfl)) (by decide) (fun K hK => ?_)
                                      refine Kd.R_append_rows_step (Kd.int .i64) (w0 := w) w.heap.size (by rfl) (.tmp 60) (.tmp 64) 33 3 (.int .i64 0) 8 rfl Try.underlying33 info3 rfl (by decide) (by omega) v341 y340 y343 _ _ _ (fun k_ => some k_ ≠ (.slice (some ad332) x5_2.length co35 : Value).ownBlock) (fun _ => False) rfl rfl ?aO ?aR (fun _ _ h => h) (fun _ h => h.elim) ?aF ?aB ?aS ?aL ?_
                                      (case aR => repeat (first | exact (by repeat (first | (with_reducible exact HR346.out) | (with_reducible refine Kd.C_alloc ?_ _) | (with_reducible refine Kd.C_drewN ?_ _) | (with_reducible refine Kd.C_drew ?_) | exact HR346.out)) | (with_reducible refine Kd.C_alloc ?_ _) | (with_reducible refine Kd.C_drewN ?_ _) | (with_reducible refine Kd.C_drew ?_)))
                                      (case aB => exact (by repeat (first | (with_reducible first | exact HB.out | apply below_alloc | apply pw_below_drewN | apply below_drew1) | exact HB.out)))
                                      (case aF => exact (fun k_ hk => Kd.fresh' (Kd.R_lt (by (with_reducible repeat (first | apply Kd.R_alloc | apply Kd.R_drewN | apply Kd.R_drew)); exact HO_5.out)) k_ hk))
                                      (case aO => exact (by (with_reducible repeat (first | apply Kd.R_alloc | apply Kd.R_drewN | apply Kd.R_drew)); exact HO342.out))
                                      (case aS => exact (below_size (by repeat (first | (with_reducible first | exact HB.out | apply below_alloc | apply pw_below_drewN | apply below_drew1) | exact HB.out))))
                                      (case aL => have := LMc22.out; omega)
                                      intro v348 w42 ho hb hg hat
                                      rw [← Ny347.out] at ho
                                      have n0_ := Aside0.mk (Kd.R_after (ok := (fun _ => True)) (by (with_reducible repeat (first | apply Kd.R_alloc | apply Kd.R_drewN | apply Kd.R_drew)); exact HO_5.out) hg hat)
                                      have n1_ := Aside0.mk (Kd.R_over' (by (with_reducible repeat (first | apply Kd.R_alloc | apply Kd.R_drewN | apply Kd.R_drew)); exact HO_7.out) (Kd.R_typed (by (with_reducible repeat (first | apply Kd.R_alloc | apply Kd.R_drewN | apply Kd.R_drew)); exact HO342.out)) (by decide) hg)
                                      have n2_ := Aside0.mk (hb)
                                      have n3_ := Aside0.mk ((show Kd.C (Kd.int .i64) w42 (some ad332) y336.length y336 from by rw [Ny336.out]; exact Kd.C_take (m := ((ji13) : Int).toNat) ((Kd.R_reads' (Kd.R_after (ok := (fun _ => True)) (by (with_reducible repeat (first | apply Kd.R_alloc | apply Kd.R_drewN | apply Kd.R_drew)); exact HO_5.out) hg hat)).2.2) KL37.out))
                                      have n4_ := Aside0.mk ((show Kd.C (Kd.int .i64) w42 A38 y343.length y343 from by rw [Ny343.out, KA38.out]; exact Kd.C_drop (m := ((ji19) : Int).toNat) (c := co35) ((Kd.R_reads' (Kd.R_after (ok := (fun _ => True)) (by (with_reducible repeat (first | apply Kd.R_alloc | apply Kd.R_drewN | apply Kd.R_drew)); exact HO_5.out) hg hat)).2.2) KL38.out ((Kd.R_reads' (Kd.R_after (ok := (fun _ => True)) (by (with_reducible repeat (first | apply Kd.R_alloc | apply Kd.R_drewN | apply Kd.R_drew)); exact HO_5.out) hg hat)).2.1)))
                                      have n5_ := Aside0.mk (ho)
                                      clear HO_5
                                      clear HO_7
                                      clear HB
                                      clear HR339
                                      clear HR346
                                      clear HO342
                                      have HO_5 := n0_
                                      have HO_7 := n1_
                                      have HB := n2_
                                      have HR339 := n3_
                                      have HR346 := n4_
                                      have HO349 := n5_
                                      clear n0_ n1_ n2_ n3_ n4_ n5_
                                      clear ho hb hg hat
                                      refine hK.out _ _ trivial (fun hHeld => ?_)
                                      clear hK K
                                      refine norm_ (a' := ?_) ?_ ?_
                                      rotate_left
                                      · show Act.put _ (some 65) _ = _
                                        simp only [Act.put, List.setIfInBounds_toArray, List.set_cons_zero, List.set_cons_succ, i64_w, i32_w]
                                        rfl
                                      refine pure_ (i := 10) (N := some 5) (v := ?_) (a' := ?_) #[true, true, true, true, true, true, true, true, true, true, true] rfl rfl (any_of HT_.out (by kernel_rfl)) (fun _ _ _ h => h) (Or.inl ⟨by rfl, ?_⟩) ?_ ?_
                                      rotate_left
                                      · intro w'
                                        go_simp
                                        with_reducible rfl
                                      rotate_left
                                      · simp only [Act.put, List.setIfInBounds_toArray, List.set_cons_zero, List.set_cons_succ, i64_w, i32_w]
                                        rfl
                                      refine done_ (done_of HT_.out (by kernel_rfl)) ?_
                                      obtain ⟨Ao43, co43, eo43⟩ := Kd.R_slice HO_7.out
                                      subst eo43
                                      try go_wp2_with (first | ((with_reducible refine gate_callee (f := 12) rfl ?_); refine goesL_ (some 75) rfl rfl Try.func12 (by kernel_rfl) rfl #[.slice Ao43 x7_2.length co43, .agg #[.int .i64 (wrap64 ((rd x5_2 (ji13)) * (wrap64 (4 + (wrap64 (Int.tmod (IntKind.u64.wrap (a1)) 1000)))))), .int .i64 4, .int .i64 1, .int .i64 (wrap64 ((rd x5_2 (ji13)) + 1)), .int .i64 0, .bool false, .bool false]] rfl (by (try simp only [List.map_toArray, List.map_cons, List.map_nil]); first | done | (simp only [hji13]; rfl) | rfl | (simp only [List.length_drop, List.length_take]; rfl)) ?_; (with_reducible refine (space_Put.calls _ _ x7_2 (wrap64 ((rd x5_2 (ji13)) * (wrap64 (4 + (wrap64 (Int.tmod (IntKind.u64.wrap (a1)) 1000)))))) 4 1 (wrap64 ((rd x5_2 (ji13)) + 1)) 0 false false t350 t353 _ ?side1 ?side2 A23.out).mono ?_); (case side1 => repeat (first | exact (Kd.R_reads' HO_7.out).2.2 | (with_reducible refine Kd.C_alloc ?_ _) | (with_reducible refine Kd.C_drewN ?_ _) | (with_reducible refine Kd.C_drew ?_))); (case side2 => exact (Kd.R_reads' HO_7.out).2.1); rintro e w44 ⟨v351, rfl, ho0, hb⟩; refine ⟨_, rfl, ?_⟩; have n0_ := Aside0.mk (Kd.R_below (by (with_reducible repeat (first | apply Kd.R_alloc | apply Kd.R_drewN | apply Kd.R_drew)); exact HO_5.out) hb); have n1_ := Aside0.mk (Kd.R_elder' (by (with_reducible repeat (first | apply Kd.R_alloc | apply Kd.R_drewN | apply Kd.R_drew)); exact HO_7.out) (Kd.R_base ho0) hb); have n2_ := Aside0.mk (Kd.R_below (by (with_reducible repeat (first | apply Kd.R_alloc | apply Kd.R_drewN | apply Kd.R_drew)); exact HO349.out) hb); have n3_ := Aside0.mk (Kd.R_lower (Kd.R_new' ho0 (Kd.R_lt (by (with_reducible repeat (first | apply Kd.R_alloc | apply Kd.R_drewN | apply Kd.R_drew)); exact HO_7.out))) (below_size (by repeat (first | (with_reducible first | exact HB.out | apply below_alloc | apply pw_below_drewN | apply below_drew1) | exact HB.out)))); have n4_ := Aside0.mk (Kd.C_below (by repeat (first | (with_reducible exact HR339.out) | (with_reducible refine Kd.C_alloc ?_ _) | (with_reducible refine Kd.C_drewN ?_ _) | (with_reducible refine Kd.C_drew ?_) | exact HR339.out)) hb); have n5_ := Aside0.mk (Kd.C_below (by repeat (first | (with_reducible exact HR346.out) | (with_reducible refine Kd.C_alloc ?_ _) | (with_reducible refine Kd.C_drewN ?_ _) | (with_reducible refine Kd.C_drew ?_) | exact HR346.out)) hb); have n6_ := Aside0.mk (below_step (by repeat (first | (with_reducible first | exact HB.out | apply below_alloc | apply pw_below_drewN | apply below_drew1) | exact HB.out)) hb); clear HO_5; clear HO_7; clear HO349; clear HR339; clear HR346; clear HB; have HO_5 := n0_; have HO_7 := n1_; have HO349 := n2_; have HO352 := n3_; have HR339 := n4_; have HR346 := n5_; have HB := n6_; clear n0_ n1_ n2_ n3_ n4_ n5_ n6_; (try clear hb); (try clear hb2); (try clear hk); (try clear hi); (try clear ho0)))
                                      go_ret
                                      exact ⟨by first | rfl | (simp [errW_none, errW_some] <;> rfl) | (simp only [← hji13, ← hji19]; first | rfl | (simp [errW_none, errW_some] <;> rfl)) | (simp [*, errW_none, errW_some] <;> rfl), by repeat (first | (with_reducible first | exact HB.out | apply below_alloc | apply pw_below_drewN | apply below_drew1) | exact HB.out)⟩
                                  · rw [if_neg c22] at H
                                    exact absurd H (by simp)
                                · rw [if_neg c21] at H
                                  exact absurd H (by simp)
                              · rw [if_neg c20] at H
                                exact absurd H (by simp)
                            · rw [if_neg c18] at H
                              exact absurd H (by simp)
                          · rw [if_neg c17] at H
                            exact absurd H (by simp)
                        · rw [if_neg c15] at H
                          exact absurd H (by simp)
                      · rw [if_neg c14] at H
                        exact absurd H (by simp)
                  · rw [if_neg c11] at H
                    exact absurd H (by simp)
                · rw [if_neg c10] at H
                  have c10b0 : decide (x8_2 < (l0.length : Int)) = false := decide_eq_false c10
                  clear c10
                  by_cases c45 : 0 < (x5_2.length : Int)
                  · rw [if_pos c45] at H
                    have c45b0 : decide (0 < (x5_2.length : Int)) = true := decide_eq_true c45
                    have c45b1 : decide (0 < x5_2.length) = true := decide_eq_true (by omega)
                    clear c45
                    obtain ⟨y355, hy355⟩ : ∃ y_ : List Int, y_ = (([] : List Int)) := ⟨_, rfl⟩
                    replace H : (if 0 ≤ (x5_2.length : Int) then ((some (x5_2.take 0 : List Int)).bind fun y358 => (if y355.length + y358.length < 17592186044416 then ((some (y355 ++ y358 : List Int)).bind fun y362 => (if 0 ≤ (wrap64 1) then (if (wrap64 1) ≤ (x5_2.length : Int) then ((some (x5_2.drop ((wrap64 1) : Int).toNat : List Int)).bind fun y365 => (if y362.length + y365.length < 17592186044416 then ((space_Put.f x7_2 (wrap64 ((rd x5_2 0) * (wrap64 (4 + (wrap64 (Int.tmod (IntKind.u64.wrap (a1)) 1000)))))) 4 1 (wrap64 ((rd x5_2 0) + 1)) 0 false false).bind fun bt372 => (if bt372.2 = 0 then (gatehouselaw05_SpaceFull.l1 k2 l0 (wrap64 (Int.tmod (IntKind.u64.wrap (a1)) 1000)) (y362 ++ y365) bt372.1 (wrap64 (x8_2 + 1))) else (some false))) else (none))) else (none)) else (none))) else (none))) else (none)) = some r := by first | (rw [hy355]; with_reducible exact H) | (have H2_ := (Option.bind_some _ _).symm.trans H; rw [hy355]; with_reducible exact H2_) | (have H2_ := (Option.bind_some _ _).symm.trans H; with_reducible exact H2_) | with_reducible exact H | (rw [hy355]; exact H) | exact H
                    have Ny355 := Aside0.mk hy355
                    clear hy355
                    by_cases c46 : 0 ≤ (x5_2.length : Int)
                    · rw [if_pos c46] at H
                      have c46b0 := eq_true c46
                      have c46b1 : decide (0 ≤ (x5_2.length : Int)) = true := decide_eq_true c46
                      clear c46
                      obtain ⟨y358, hy358⟩ : ∃ y_ : List Int, y_ = (x5_2.take 0) := ⟨_, rfl⟩
                      replace H : (if y355.length + y358.length < 17592186044416 then ((some (y355 ++ y358 : List Int)).bind fun y362 => (if 0 ≤ (wrap64 1) then (if (wrap64 1) ≤ (x5_2.length : Int) then ((some (x5_2.drop ((wrap64 1) : Int).toNat : List Int)).bind fun y365 => (if y362.length + y365.length < 17592186044416 then ((space_Put.f x7_2 (wrap64 ((rd x5_2 0) * (wrap64 (4 + (wrap64 (Int.tmod (IntKind.u64.wrap (a1)) 1000)))))) 4 1 (wrap64 ((rd x5_2 0) + 1)) 0 false false).bind fun bt372 => (if bt372.2 = 0 then (gatehouselaw05_SpaceFull.l1 k2 l0 (wrap64 (Int.tmod (IntKind.u64.wrap (a1)) 1000)) (y362 ++ y365) bt372.1 (wrap64 (x8_2 + 1))) else (some false))) else (none))) else (none)) else (none))) else (none)) = some r := by first | (rw [hy358]; with_reducible exact H) | (have H2_ := (Option.bind_some _ _).symm.trans H; rw [hy358]; with_reducible exact H2_) | (have H2_ := (Option.bind_some _ _).symm.trans H; with_reducible exact H2_) | with_reducible exact H | (rw [hy358]; exact H) | exact H
                      have Ny358 := Aside0.mk hy358
                      clear hy358
                      by_cases c47 : y355.length + y358.length < 17592186044416
                      · rw [if_pos c47] at H
                        have LMc47 := Aside0.mk c47
                        clear c47
                        obtain ⟨y362, hy362⟩ : ∃ y_ : List Int, y_ = (y355 ++ y358) := ⟨_, rfl⟩
                        replace H : (if 0 ≤ (wrap64 1) then (if (wrap64 1) ≤ (x5_2.length : Int) then ((some (x5_2.drop ((wrap64 1) : Int).toNat : List Int)).bind fun y365 => (if y362.length + y365.length < 17592186044416 then ((space_Put.f x7_2 (wrap64 ((rd x5_2 0) * (wrap64 (4 + (wrap64 (Int.tmod (IntKind.u64.wrap (a1)) 1000)))))) 4 1 (wrap64 ((rd x5_2 0) + 1)) 0 false false).bind fun bt372 => (if bt372.2 = 0 then (gatehouselaw05_SpaceFull.l1 k2 l0 (wrap64 (Int.tmod (IntKind.u64.wrap (a1)) 1000)) (y362 ++ y365) bt372.1 (wrap64 (x8_2 + 1))) else (some false))) else (none))) else (none)) else (none)) = some r := by first | (rw [hy362]; with_reducible exact H) | (have H2_ := (Option.bind_some _ _).symm.trans H; rw [hy362]; with_reducible exact H2_) | (have H2_ := (Option.bind_some _ _).symm.trans H; with_reducible exact H2_) | with_reducible exact H | (rw [hy362]; exact H) | exact H
                        have Ny362 := Aside0.mk hy362
                        clear hy362
                        obtain ⟨ji48, hji48⟩ : ∃ j_ : Int, (wrap64 1) = j_ := ⟨_, rfl⟩
                        replace H : (if 0 ≤ (ji48) then (if (ji48) ≤ (x5_2.length : Int) then ((some (x5_2.drop ((ji48) : Int).toNat : List Int)).bind fun y365 => (if y362.length + y365.length < 17592186044416 then ((space_Put.f x7_2 (wrap64 ((rd x5_2 0) * (wrap64 (4 + (wrap64 (Int.tmod (IntKind.u64.wrap (a1)) 1000)))))) 4 1 (wrap64 ((rd x5_2 0) + 1)) 0 false false).bind fun bt372 => (if bt372.2 = 0 then (gatehouselaw05_SpaceFull.l1 k2 l0 (wrap64 (Int.tmod (IntKind.u64.wrap (a1)) 1000)) (y362 ++ y365) bt372.1 (wrap64 (x8_2 + 1))) else (some false))) else (none))) else (none)) else (none)) = some r := by first | (rw [hji48] at H; exact H) | (simp only [hji48] at H ⊢; exact H)
                        by_cases c49 : 0 ≤ (ji48)
                        · rw [if_pos c49] at H
                          have c49b0 := eq_true c49
                          have c49b1 : decide (0 ≤ (ji48)) = true := decide_eq_true c49
                          clear c49
                          by_cases c50 : (ji48) ≤ (x5_2.length : Int)
                          · rw [if_pos c50] at H
                            have c50b0 := eq_true c50
                            have c50b1 : decide ((ji48) ≤ (x5_2.length : Int)) = true := decide_eq_true c50
                            clear c50
                            obtain ⟨y365, hy365⟩ : ∃ y_ : List Int, y_ = (x5_2.drop ((ji48) : Int).toNat) := ⟨_, rfl⟩
                            replace H : (if y362.length + y365.length < 17592186044416 then ((space_Put.f x7_2 (wrap64 ((rd x5_2 0) * (wrap64 (4 + (wrap64 (Int.tmod (IntKind.u64.wrap (a1)) 1000)))))) 4 1 (wrap64 ((rd x5_2 0) + 1)) 0 false false).bind fun bt372 => (if bt372.2 = 0 then (gatehouselaw05_SpaceFull.l1 k2 l0 (wrap64 (Int.tmod (IntKind.u64.wrap (a1)) 1000)) (y362 ++ y365) bt372.1 (wrap64 (x8_2 + 1))) else (some false))) else (none)) = some r := by first | (rw [hy365]; with_reducible exact H) | (have H2_ := (Option.bind_some _ _).symm.trans H; rw [hy365]; with_reducible exact H2_) | (have H2_ := (Option.bind_some _ _).symm.trans H; with_reducible exact H2_) | with_reducible exact H | (rw [hy365]; exact H) | exact H
                            have Ny365 := Aside0.mk hy365
                            clear hy365
                            by_cases c51 : y362.length + y365.length < 17592186044416
                            · rw [if_pos c51] at H
                              have LMc51 := Aside0.mk c51
                              clear c51
                              obtain ⟨y369, hy369⟩ : ∃ y_ : List Int, y_ = (y362 ++ y365) := ⟨_, rfl⟩
                              replace H : ((space_Put.f x7_2 (wrap64 ((rd x5_2 0) * (wrap64 (4 + (wrap64 (Int.tmod (IntKind.u64.wrap (a1)) 1000)))))) 4 1 (wrap64 ((rd x5_2 0) + 1)) 0 false false).bind fun bt372 => (if bt372.2 = 0 then (gatehouselaw05_SpaceFull.l1 k2 l0 (wrap64 (Int.tmod (IntKind.u64.wrap (a1)) 1000)) y369 bt372.1 (wrap64 (x8_2 + 1))) else (some false))) = some r := by first | (rw [hy369]; with_reducible exact H) | (have H2_ := (Option.bind_some _ _).symm.trans H; rw [hy369]; with_reducible exact H2_) | (have H2_ := (Option.bind_some _ _).symm.trans H; with_reducible exact H2_) | with_reducible exact H | (rw [hy369]; exact H) | exact H
                              have Ny369 := Aside0.mk hy369
                              clear hy369
                              replace H := Option.bind_eq_some_iff.mp H
                              obtain ⟨⟨t372, t375⟩, A520, H⟩ := H
                              replace H : (if t375 = 0 then (gatehouselaw05_SpaceFull.l1 k2 l0 (wrap64 (Int.tmod (IntKind.u64.wrap (a1)) 1000)) y369 t372 (wrap64 (x8_2 + 1))) else (some false)) = some r := H
                              have A52 := Aside0.mk A520
                              clear A520
                              by_cases c53 : t375 = 0
                              · rw [if_pos c53] at H
                                have c53b0 : (t375 == 0) = true := beq_iff_eq.mpr c53
                                have c53b1 : (t375 != 0) = false := bne_eq_false_iff_eq.mpr c53
                                clear c53
                                have H' := Aside0.mk H
                                clear H
                                obtain ⟨Ao54, co54, eo54⟩ := Kd.R_slice HO_5.out
                                subst eo54
                                have p354 : 0 ≤ (0 : Int) := (by omega)
                                have q354 : 0 < (x5_2.length : Int) := of_decide_eq_true (by first | (with_reducible assumption) | assumption)
                                obtain ⟨ad354, e354, hx354_0⟩ := Kd.at_int (Kd.R_reads' HO_5.out).2.2 0 p354 q354
                                cases e354
                                have qi354 : (0 < x5_2.length) = True := eq_true (by omega)
                                (try rw [show ((0 : Int)).toNat = 0 from rfl] at hx354_0)
                                (try rw [Addr.add_zero'] at hx354_0)
                                replace p354 := eq_true p354
                                replace q354 := eq_true q354
                                try go_wp2
                                have n0_ := Aside0.mk (Kd.R_drew HO_5.out)
                                have n1_ := Aside0.mk (Kd.R_drew HO_7.out)
                                have n2_ := Aside0.mk (below_drew1 HB.out)
                                clear HO_5
                                clear HO_7
                                clear HB
                                have HO_5 := n0_
                                have HO_7 := n1_
                                have HB := n2_
                                clear n0_ n1_ n2_
                                have q56 : (0 : Int) ≤ ((x5_2.length : Int) : Int) := of_decide_eq_true (by first | (with_reducible assumption) | assumption)
                                obtain ⟨i056, hi056, _, hsz56, _⟩ := info_parts info3
                                have hroom56 : x5_2.length ≤ co54 := (Kd.R_reads' HO_5.out).2.1
                                have hC56 : Kd.C (Kd.int .i64) _ (some ad354) x5_2.length x5_2 := (Kd.R_reads' HO_5.out).2.2
                                have hcut56 := cut_to (P := Try.prog) 33 3 .i64 Try.underlying33 hi056 (some ad354) x5_2.length co54 0 (by omega) q56 hroom56
                                have hr56 := Kd.C_take (m := 0) hC56 (by omega)
                                have hy56 : y358.length = (0 : Int).toNat := (by rw [Ny358.out, List.length_take]; omega)
                                rw [← Ny358.out] at hr56
                                rw [← hy56] at hcut56
                                have HR361 := Aside0.mk hr56
                                have HC361 := Aside0.mk (show y358.length ≤ co54 from by omega)
                                clear hr56 hC56 hroom56 hi056 hsz56
                                have KY56 := Aside0.mk hy56
                                clear hy56
                                have KL56 := Aside0.mk (show 0 ≤ x5_2.length from by omega)
                                replace q56 := eq_true q56
                                have q57 : ((ji48) : Int) ≤ ((x5_2.length : Int) : Int) := of_decide_eq_true (by first | (with_reducible assumption) | assumption)
                                obtain ⟨i057, hi057, _, hsz57, _⟩ := info_parts info3
                                have hroom57 : x5_2.length ≤ co54 := (Kd.R_reads' HO_5.out).2.1
                                have hC57 : Kd.C (Kd.int .i64) _ (some ad354) x5_2.length x5_2 := (Kd.R_reads' HO_5.out).2.2
                                have q057 : (0 : Int) ≤ ((ji48) : Int) := of_decide_eq_true (by first | (with_reducible assumption) | assumption)
                                have hcut57 := cut_from (P := Try.prog) 33 3 .i64 Try.underlying33 hi057 1 hsz57 (some ad354) x5_2.length co54 (ji48) q057 q57
                                have hr57 := Kd.C_drop (m := ((ji48) : Int).toNat) (c := co54) hC57 (by omega) hroom57
                                obtain ⟨A57, hA57⟩ : ∃ A1, A1 = (if co54 = ((ji48) : Int).toNat then (some ad354) else ((some ad354) : Option Addr).map (·.add (((ji48) : Int).toNat * 1))) := ⟨_, rfl⟩
                                obtain ⟨c57, hc57⟩ : ∃ c1, c1 = co54 - ((ji48) : Int).toNat := ⟨_, rfl⟩
                                have hy57 : y365.length = x5_2.length - ((ji48) : Int).toNat := (by rw [Ny365.out, List.length_drop] <;> omega)
                                rw [show (x5_2).drop ((ji48) : Int).toNat = y365 from Ny365.out.symm] at hr57
                                replace hr57 : Kd.C (Kd.int .i64) _ A57 y365.length y365 := (by rw [hA57]; exact hr57)
                                rw [← hy57, ← hA57, ← hc57] at hcut57
                                have HR368 := Aside0.mk hr57
                                have HC368 := Aside0.mk (show y365.length ≤ c57 from by rw [hy57, hc57]; exact Nat.sub_le_sub_right hroom57 _)
                                clear hr57 hC57 hroom57 hi057 hsz57 hc57
                                have KY57 := Aside0.mk hy57
                                have KA57 := Aside0.mk hA57
                                clear hy57 hA57
                                have KL57 := Aside0.mk (show ((ji48) : Int).toNat ≤ x5_2.length from by omega)
                                replace q57 := eq_true q57
                                refine start_ (n := 11) (S := fun w' => True) (ds := []) #[false, false, false, false, false, false, false, false, false, false, false] (by kernel_rfl) rfl rfl trivial (fun hHeld => ?_); refine with_tabW gatehouselaw05_SpaceFull.tab17 gatehouselaw05_SpaceFull.bits17 (fun HT_ HW_ => ?_)
                                generalize wr.drew = w55 at HO_5 HO_7 HB HR361 HR368 hHeld ⊢
                                refine pure_ (i := 1) (N := some 57) (v := ?_) (a' := ?_) #[false, true, false, false, false, false, false, false, false, false, false] rfl rfl (any_of HT_.out (by kernel_rfl)) (fun _ _ _ h => h) (Or.inl ⟨by rfl, ?_⟩) ?_ ?_
                                rotate_left
                                · intro w'
                                  go_simp
                                  with_reducible rfl
                                rotate_left
                                · simp only [Act.put, List.setIfInBounds_toArray, List.set_cons_zero, List.set_cons_succ, i64_w, i32_w]
                                  rfl
                                refine pure_ (i := 2) (N := some 58) (v := ?_) (a' := ?_) #[false, true, true, false, false, false, false, false, false, false, false] rfl rfl (any_of HT_.out (by kernel_rfl)) (fun _ _ _ h => h) (Or.inl ⟨by rfl, ?_⟩) ?_ ?_
                                rotate_left
                                · intro w'
                                  go_simp
                                  with_reducible rfl
                                rotate_left
                                · simp only [Act.put, List.setIfInBounds_toArray, List.set_cons_zero, List.set_cons_succ, i64_w, i32_w]
                                  rfl
                                refine pure_ (i := 3) (N := some 59) (v := ?_) (a' := ?_) #[false, true, true, true, false, false, false, false, false, false, false] rfl rfl (any_of HT_.out (by kernel_rfl)) (fun _ _ _ h => h) (Or.inl ⟨by rfl, ?_⟩) ?_ ?_
                                rotate_left
                                · intro w'
                                  go_simp
                                  with_reducible rfl
                                rotate_left
                                · simp only [Act.put, List.setIfInBounds_toArray, List.set_cons_zero, List.set_cons_succ, i64_w, i32_w]
                                  rfl
                                refine pure_ (i := 5) (N := some 61) (v := ?_) (a' := ?_) #[false, true, true, true, false, true, false, false, false, false, false] rfl rfl (any_of HT_.out (by kernel_rfl)) (fun _ _ _ h => h) (Or.inl ⟨by rfl, ?_⟩) ?_ ?_
                                rotate_left
                                · intro w'
                                  go_simp
                                  with_reducible rfl
                                rotate_left
                                · simp only [Act.put, List.setIfInBounds_toArray, List.set_cons_zero, List.set_cons_succ, i64_w, i32_w]
                                  rfl
                                refine pure_ (i := 6) (N := some 62) (v := ?_) (a' := ?_) #[false, true, true, true, false, true, true, false, false, false, false] rfl rfl (any_of HT_.out (by kernel_rfl)) (fun _ _ _ h => h) (Or.inl ⟨by rfl, ?_⟩) ?_ ?_
                                rotate_left
                                · intro w'
                                  go_simp
                                  with_reducible rfl
                                rotate_left
                                · simp only [Act.put, List.setIfInBounds_toArray, List.set_cons_zero, List.set_cons_succ, i64_w, i32_w]
                                  rfl
                                refine pure_ (i := 7) (N := some 63) (v := ?_) (a' := ?_) #[false, true, true, true, false, true, true, true, false, false, false] rfl rfl (any_of HT_.out (by kernel_rfl)) (fun _ _ _ h => h) (Or.inl ⟨by rfl, ?_⟩) ?_ ?_
                                rotate_left
                                · intro w'
                                  go_simp
                                  with_reducible rfl
                                rotate_left
                                · simp only [Act.put, List.setIfInBounds_toArray, List.set_cons_zero, List.set_cons_succ, i64_w, i32_w]
                                  rfl
                                refine pure_ (i := 8) (N := some 64) (v := ?_) (a' := ?_) #[false, true, true, true, false, true, true, true, true, false, false] rfl rfl (any_of HT_.out (by kernel_rfl)) (fun _ _ _ h => h) (Or.inl ⟨by rfl, ?_⟩) ?_ ?_
                                rotate_left
                                · intro w'
                                  go_simp
                                  with_reducible rfl
                                rotate_left
                                · simp only [Act.put, List.setIfInBounds_toArray, List.set_cons_zero, List.set_cons_succ, i64_w, i32_w]
                                  rfl
                                refine one_ (i := 0) (N := some 56) #[true, true, true, true, false, true, true, true, true, false, false] rfl rfl (one_of HT_.out (by kernel_rfl)) (by decide) (fun K hK => ?_)
                                refine Kd.R_lit_step (Kd.int .i64) _ 3 ?hg (N := 56) ?hd (xs := ([] : List Int)) (inner := []) (ok := fun _ => True) (okp := fun _ => True) ?hr ?hp (fun _ hk => hk) trivial (Below.refl _ _) (Nat.le_refl _) (by simp) ?_; (case hd => rfl); (case hg => rfl); (case hr => first | (go_simp; done) | (go_simp; rfl)); (case hp => exact (Reps.none _ _))
                                intro v356 w58 ho59 hb hg_ hnew_
                                clear hg_ hnew_
                                (first | rw [← Ny355.out] at ho59 | (simp only [Int.reduceToNat] at ho59; rw [← Ny355.out] at ho59))
                                have n0_ := Aside0.mk (Kd.R_elder' (by (with_reducible repeat (first | apply Kd.R_alloc | apply Kd.R_drewN | apply Kd.R_drew)); exact HO_5.out) (Kd.R_base ho59) hb)
                                have n1_ := Aside0.mk (Kd.R_below (by (with_reducible repeat (first | apply Kd.R_alloc | apply Kd.R_drewN | apply Kd.R_drew)); exact HO_7.out) hb)
                                have n2_ := Aside0.mk (Kd.R_lower (Kd.R_new' ho59 (Kd.R_lt (by (with_reducible repeat (first | apply Kd.R_alloc | apply Kd.R_drewN | apply Kd.R_drew)); exact HO_5.out))) (below_size (by repeat (first | (with_reducible first | exact HB.out | apply below_alloc | apply pw_below_drewN | apply below_drew1) | exact HB.out))))
                                have n3_ := Aside0.mk (Kd.C_below (by repeat (first | (with_reducible exact HR361.out) | (with_reducible refine Kd.C_alloc ?_ _) | (with_reducible refine Kd.C_drewN ?_ _) | (with_reducible refine Kd.C_drew ?_) | exact HR361.out)) hb)
                                have n4_ := Aside0.mk (Kd.C_below (by repeat (first | (with_reducible exact HR368.out) | (with_reducible refine Kd.C_alloc ?_ _) | (with_reducible refine Kd.C_drewN ?_ _) | (with_reducible refine Kd.C_drew ?_) | exact HR368.out)) hb)
                                have n5_ := Aside0.mk (below_step (by repeat (first | (with_reducible first | exact HB.out | apply below_alloc | apply pw_below_drewN | apply below_drew1) | exact HB.out)) hb)
                                clear HO_5
                                clear HO_7
                                clear HR361
                                clear HR368
                                clear HB
                                have HO_5 := n0_
                                have HO_7 := n1_
                                have HO357 := n2_
                                have HR361 := n3_
                                have HR368 := n4_
                                have HB := n5_
                                clear n0_ n1_ n2_ n3_ n4_ n5_
                                clear hb ho59
                                refine hK.out _ _ trivial (fun hHeld => ?_)
                                clear hK K
                                refine norm_ (a' := ?_) ?_ ?_
                                rotate_left
                                · show Act.put _ (some 56) _ = _
                                  simp only [Act.put, List.setIfInBounds_toArray, List.set_cons_zero, List.set_cons_succ, i64_w, i32_w]
                                  rfl
                                refine one_ (i := 4) (N := some 60) #[true, true, true, true, true, true, true, true, true, false, false] rfl rfl (one_of HT_.out (by kernel_rfl)) (by decide) (fun K hK => ?_)
                                refine Kd.R_append_rows_step (Kd.int .i64) (w0 := w) w.heap.size (by rfl) (.tmp 56) (.tmp 59) 33 3 (.int .i64 0) 8 rfl Try.underlying33 info3 rfl (by decide) (by omega) v356 y355 y358 _ _ _ (fun k_ => some k_ ≠ (.slice (some ad354) x5_2.length co54 : Value).ownBlock) (fun _ => False) rfl rfl ?aO ?aR (fun _ _ h => h) (fun _ h => h.elim) ?aF ?aB ?aS ?aL ?_
                                (case aR => repeat (first | exact (by repeat (first | (with_reducible exact HR361.out) | (with_reducible refine Kd.C_alloc ?_ _) | (with_reducible refine Kd.C_drewN ?_ _) | (with_reducible refine Kd.C_drew ?_) | exact HR361.out)) | (with_reducible refine Kd.C_alloc ?_ _) | (with_reducible refine Kd.C_drewN ?_ _) | (with_reducible refine Kd.C_drew ?_)))
                                (case aB => exact (by repeat (first | (with_reducible first | exact HB.out | apply below_alloc | apply pw_below_drewN | apply below_drew1) | exact HB.out)))
                                (case aF => exact (fun k_ hk => Kd.fresh' (Kd.R_lt (by (with_reducible repeat (first | apply Kd.R_alloc | apply Kd.R_drewN | apply Kd.R_drew)); exact HO_5.out)) k_ hk))
                                (case aO => exact (by (with_reducible repeat (first | apply Kd.R_alloc | apply Kd.R_drewN | apply Kd.R_drew)); exact Kd.R_mono HO357.out (fun _ hk => hk.2)))
                                (case aS => exact (below_size (by repeat (first | (with_reducible first | exact HB.out | apply below_alloc | apply pw_below_drewN | apply below_drew1) | exact HB.out))))
                                (case aL => have := LMc47.out; omega)
                                intro v363 w60 ho hb hg hat
                                rw [← Ny362.out] at ho
                                have n0_ := Aside0.mk (Kd.R_after (ok := (fun _ => True)) (by (with_reducible repeat (first | apply Kd.R_alloc | apply Kd.R_drewN | apply Kd.R_drew)); exact HO_5.out) hg hat)
                                have n1_ := Aside0.mk (Kd.R_over' (by (with_reducible repeat (first | apply Kd.R_alloc | apply Kd.R_drewN | apply Kd.R_drew)); exact HO_7.out) (Kd.R_typed (by (with_reducible repeat (first | apply Kd.R_alloc | apply Kd.R_drewN | apply Kd.R_drew)); exact HO357.out)) (by decide) hg)
                                have n2_ := Aside0.mk (hb)
                                have n3_ := Aside0.mk ((show Kd.C (Kd.int .i64) w60 (some ad354) y358.length y358 from by rw [Ny358.out]; exact Kd.C_take (m := 0) ((Kd.R_reads' (Kd.R_after (ok := (fun _ => True)) (by (with_reducible repeat (first | apply Kd.R_alloc | apply Kd.R_drewN | apply Kd.R_drew)); exact HO_5.out) hg hat)).2.2) KL56.out))
                                have n4_ := Aside0.mk ((show Kd.C (Kd.int .i64) w60 A57 y365.length y365 from by rw [Ny365.out, KA57.out]; exact Kd.C_drop (m := ((ji48) : Int).toNat) (c := co54) ((Kd.R_reads' (Kd.R_after (ok := (fun _ => True)) (by (with_reducible repeat (first | apply Kd.R_alloc | apply Kd.R_drewN | apply Kd.R_drew)); exact HO_5.out) hg hat)).2.2) KL57.out ((Kd.R_reads' (Kd.R_after (ok := (fun _ => True)) (by (with_reducible repeat (first | apply Kd.R_alloc | apply Kd.R_drewN | apply Kd.R_drew)); exact HO_5.out) hg hat)).2.1)))
                                have n5_ := Aside0.mk (ho)
                                clear HO_5
                                clear HO_7
                                clear HB
                                clear HR361
                                clear HR368
                                clear HO357
                                have HO_5 := n0_
                                have HO_7 := n1_
                                have HB := n2_
                                have HR361 := n3_
                                have HR368 := n4_
                                have HO364 := n5_
                                clear n0_ n1_ n2_ n3_ n4_ n5_
                                clear ho hb hg hat
                                refine hK.out _ _ trivial (fun hHeld => ?_)
                                clear hK K
                                refine norm_ (a' := ?_) ?_ ?_
                                rotate_left
                                · show Act.put _ (some 60) _ = _
                                  simp only [Act.put, List.setIfInBounds_toArray, List.set_cons_zero, List.set_cons_succ, i64_w, i32_w]
                                  rfl
                                refine one_ (i := 9) (N := some 65) #[true, true, true, true, true, true, true, true, true, true, false] rfl rfl (one_of HT_.out (by kernel_rfl)) (by decide) (fun K hK => ?_)
                                refine Kd.R_append_rows_step (Kd.int .i64) (w0 := w) w.heap.size (by rfl) (.tmp 60) (.tmp 64) 33 3 (.int .i64 0) 8 rfl Try.underlying33 info3 rfl (by decide) (by omega) v363 y362 y365 _ _ _ (fun k_ => some k_ ≠ (.slice (some ad354) x5_2.length co54 : Value).ownBlock) (fun _ => False) rfl rfl ?aO ?aR (fun _ _ h => h) (fun _ h => h.elim) ?aF ?aB ?aS ?aL ?_
                                (case aR => repeat (first | exact (by repeat (first | (with_reducible exact HR368.out) | (with_reducible refine Kd.C_alloc ?_ _) | (with_reducible refine Kd.C_drewN ?_ _) | (with_reducible refine Kd.C_drew ?_) | exact HR368.out)) | (with_reducible refine Kd.C_alloc ?_ _) | (with_reducible refine Kd.C_drewN ?_ _) | (with_reducible refine Kd.C_drew ?_)))
                                (case aB => exact (by repeat (first | (with_reducible first | exact HB.out | apply below_alloc | apply pw_below_drewN | apply below_drew1) | exact HB.out)))
                                (case aF => exact (fun k_ hk => Kd.fresh' (Kd.R_lt (by (with_reducible repeat (first | apply Kd.R_alloc | apply Kd.R_drewN | apply Kd.R_drew)); exact HO_5.out)) k_ hk))
                                (case aO => exact (by (with_reducible repeat (first | apply Kd.R_alloc | apply Kd.R_drewN | apply Kd.R_drew)); exact HO364.out))
                                (case aS => exact (below_size (by repeat (first | (with_reducible first | exact HB.out | apply below_alloc | apply pw_below_drewN | apply below_drew1) | exact HB.out))))
                                (case aL => have := LMc51.out; omega)
                                intro v370 w61 ho hb hg hat
                                rw [← Ny369.out] at ho
                                have n0_ := Aside0.mk (Kd.R_after (ok := (fun _ => True)) (by (with_reducible repeat (first | apply Kd.R_alloc | apply Kd.R_drewN | apply Kd.R_drew)); exact HO_5.out) hg hat)
                                have n1_ := Aside0.mk (Kd.R_over' (by (with_reducible repeat (first | apply Kd.R_alloc | apply Kd.R_drewN | apply Kd.R_drew)); exact HO_7.out) (Kd.R_typed (by (with_reducible repeat (first | apply Kd.R_alloc | apply Kd.R_drewN | apply Kd.R_drew)); exact HO364.out)) (by decide) hg)
                                have n2_ := Aside0.mk (hb)
                                have n3_ := Aside0.mk ((show Kd.C (Kd.int .i64) w61 (some ad354) y358.length y358 from by rw [Ny358.out]; exact Kd.C_take (m := 0) ((Kd.R_reads' (Kd.R_after (ok := (fun _ => True)) (by (with_reducible repeat (first | apply Kd.R_alloc | apply Kd.R_drewN | apply Kd.R_drew)); exact HO_5.out) hg hat)).2.2) KL56.out))
                                have n4_ := Aside0.mk ((show Kd.C (Kd.int .i64) w61 A57 y365.length y365 from by rw [Ny365.out, KA57.out]; exact Kd.C_drop (m := ((ji48) : Int).toNat) (c := co54) ((Kd.R_reads' (Kd.R_after (ok := (fun _ => True)) (by (with_reducible repeat (first | apply Kd.R_alloc | apply Kd.R_drewN | apply Kd.R_drew)); exact HO_5.out) hg hat)).2.2) KL57.out ((Kd.R_reads' (Kd.R_after (ok := (fun _ => True)) (by (with_reducible repeat (first | apply Kd.R_alloc | apply Kd.R_drewN | apply Kd.R_drew)); exact HO_5.out) hg hat)).2.1)))
                                have n5_ := Aside0.mk (ho)
                                clear HO_5
                                clear HO_7
                                clear HB
                                clear HR361
                                clear HR368
                                clear HO364
                                have HO_5 := n0_
                                have HO_7 := n1_
                                have HB := n2_
                                have HR361 := n3_
                                have HR368 := n4_
                                have HO371 := n5_
                                clear n0_ n1_ n2_ n3_ n4_ n5_
                                clear ho hb hg hat
                                refine hK.out _ _ trivial (fun hHeld => ?_)
                                clear hK K
                                refine norm_ (a' := ?_) ?_ ?_
                                rotate_left
                                · show Act.put _ (some 65) _ = _
                                  simp only [Act.put, List.setIfInBounds_toArray, List.set_cons_zero, List.set_cons_succ, i64_w, i32_w]
                                  rfl
                                refine pure_ (i := 10) (N := some 5) (v := ?_) (a' := ?_) #[true, true, true, true, true, true, true, true, true, true, true] rfl rfl (any_of HT_.out (by kernel_rfl)) (fun _ _ _ h => h) (Or.inl ⟨by rfl, ?_⟩) ?_ ?_
                                rotate_left
                                · intro w'
                                  go_simp
                                  with_reducible rfl
                                rotate_left
                                · simp only [Act.put, List.setIfInBounds_toArray, List.set_cons_zero, List.set_cons_succ, i64_w, i32_w]
                                  rfl
                                refine done_ (done_of HT_.out (by kernel_rfl)) ?_
                                obtain ⟨Ao62, co62, eo62⟩ := Kd.R_slice HO_7.out
                                subst eo62
                                try go_wp2_with (first | ((with_reducible refine gate_callee (f := 12) rfl ?_); refine goesL_ (some 75) rfl rfl Try.func12 (by kernel_rfl) rfl #[.slice Ao62 x7_2.length co62, .agg #[.int .i64 (wrap64 ((rd x5_2 0) * (wrap64 (4 + (wrap64 (Int.tmod (IntKind.u64.wrap (a1)) 1000)))))), .int .i64 4, .int .i64 1, .int .i64 (wrap64 ((rd x5_2 0) + 1)), .int .i64 0, .bool false, .bool false]] rfl (by (try simp only [List.map_toArray, List.map_cons, List.map_nil]); first | done | rfl | (simp only [List.length_drop, List.length_take]; rfl)) ?_; (with_reducible refine (space_Put.calls _ _ x7_2 (wrap64 ((rd x5_2 0) * (wrap64 (4 + (wrap64 (Int.tmod (IntKind.u64.wrap (a1)) 1000)))))) 4 1 (wrap64 ((rd x5_2 0) + 1)) 0 false false t372 t375 _ ?side1 ?side2 A52.out).mono ?_); (case side1 => repeat (first | exact (Kd.R_reads' HO_7.out).2.2 | (with_reducible refine Kd.C_alloc ?_ _) | (with_reducible refine Kd.C_drewN ?_ _) | (with_reducible refine Kd.C_drew ?_))); (case side2 => exact (Kd.R_reads' HO_7.out).2.1); rintro e w63 ⟨v373, rfl, ho0, hb⟩; refine ⟨_, rfl, ?_⟩; have n0_ := Aside0.mk (Kd.R_below (by (with_reducible repeat (first | apply Kd.R_alloc | apply Kd.R_drewN | apply Kd.R_drew)); exact HO_5.out) hb); have n1_ := Aside0.mk (Kd.R_elder' (by (with_reducible repeat (first | apply Kd.R_alloc | apply Kd.R_drewN | apply Kd.R_drew)); exact HO_7.out) (Kd.R_base ho0) hb); have n2_ := Aside0.mk (Kd.R_below (by (with_reducible repeat (first | apply Kd.R_alloc | apply Kd.R_drewN | apply Kd.R_drew)); exact HO371.out) hb); have n3_ := Aside0.mk (Kd.R_lower (Kd.R_new' ho0 (Kd.R_lt (by (with_reducible repeat (first | apply Kd.R_alloc | apply Kd.R_drewN | apply Kd.R_drew)); exact HO_7.out))) (below_size (by repeat (first | (with_reducible first | exact HB.out | apply below_alloc | apply pw_below_drewN | apply below_drew1) | exact HB.out)))); have n4_ := Aside0.mk (Kd.C_below (by repeat (first | (with_reducible exact HR361.out) | (with_reducible refine Kd.C_alloc ?_ _) | (with_reducible refine Kd.C_drewN ?_ _) | (with_reducible refine Kd.C_drew ?_) | exact HR361.out)) hb); have n5_ := Aside0.mk (Kd.C_below (by repeat (first | (with_reducible exact HR368.out) | (with_reducible refine Kd.C_alloc ?_ _) | (with_reducible refine Kd.C_drewN ?_ _) | (with_reducible refine Kd.C_drew ?_) | exact HR368.out)) hb); have n6_ := Aside0.mk (below_step (by repeat (first | (with_reducible first | exact HB.out | apply below_alloc | apply pw_below_drewN | apply below_drew1) | exact HB.out)) hb); clear HO_5; clear HO_7; clear HO371; clear HR361; clear HR368; clear HB; have HO_5 := n0_; have HO_7 := n1_; have HO371 := n2_; have HO374 := n3_; have HR361 := n4_; have HR368 := n5_; have HB := n6_; clear n0_ n1_ n2_ n3_ n4_ n5_ n6_; (try clear hb); (try clear hb2); (try clear hk); (try clear hi); (try clear ho0)))
                                go_roundg k2
                                case measure => have := HK1.out; have := HK2.out; omega
                                case rel => exact ⟨(y369), (t372), (wrap64 (x8_2 + 1)), (by first | rfl | (simp; done) | (simp [*]; done)), H', ⟨by have := HK1.out; have := HK2.out; omega⟩, ⟨by (with_reducible repeat (first | apply Kd.R_alloc | apply Kd.R_drewN | apply Kd.R_drew)); exact Kd.R_mono HO371.out (fun _ hk => trivial)⟩, ⟨by (with_reducible repeat (first | apply Kd.R_alloc | apply Kd.R_drewN | apply Kd.R_drew)); exact Kd.R_mono HO374.out (fun _ hk => trivial)⟩, ⟨by repeat (first | (with_reducible first | exact HB.out | apply below_alloc | apply pw_below_drewN | apply below_drew1) | exact HB.out)⟩⟩
                              · rw [if_neg c53] at H
                                have c53b0 : (t375 == 0) = false := beq_eq_false_iff_ne.mpr c53
                                have c53b1 : (t375 != 0) = true := bne_iff_ne.mpr c53
                                obtain rfl := Option.some.inj H
                                obtain ⟨Ao64, co64, eo64⟩ := Kd.R_slice HO_5.out
                                subst eo64
                                have p354 : 0 ≤ (0 : Int) := (by omega)
                                have q354 : 0 < (x5_2.length : Int) := of_decide_eq_true (by first | (with_reducible assumption) | assumption)
                                obtain ⟨ad354, e354, hx354_0⟩ := Kd.at_int (Kd.R_reads' HO_5.out).2.2 0 p354 q354
                                cases e354
                                have qi354 : (0 < x5_2.length) = True := eq_true (by omega)
                                (try rw [show ((0 : Int)).toNat = 0 from rfl] at hx354_0)
                                (try rw [Addr.add_zero'] at hx354_0)
                                replace p354 := eq_true p354
                                replace q354 := eq_true q354
                                try go_wp2
                                have n0_ := Aside0.mk (Kd.R_drew HO_5.out)
                                have n1_ := Aside0.mk (Kd.R_drew HO_7.out)
                                have n2_ := Aside0.mk (below_drew1 HB.out)
                                clear HO_5
                                clear HO_7
                                clear HB
                                have HO_5 := n0_
                                have HO_7 := n1_
                                have HB := n2_
                                clear n0_ n1_ n2_
                                have q66 : (0 : Int) ≤ ((x5_2.length : Int) : Int) := of_decide_eq_true (by first | (with_reducible assumption) | assumption)
                                obtain ⟨i066, hi066, _, hsz66, _⟩ := info_parts info3
                                have hroom66 : x5_2.length ≤ co64 := (Kd.R_reads' HO_5.out).2.1
                                have hC66 : Kd.C (Kd.int .i64) _ (some ad354) x5_2.length x5_2 := (Kd.R_reads' HO_5.out).2.2
                                have hcut66 := cut_to (P := Try.prog) 33 3 .i64 Try.underlying33 hi066 (some ad354) x5_2.length co64 0 (by omega) q66 hroom66
                                have hr66 := Kd.C_take (m := 0) hC66 (by omega)
                                have hy66 : y358.length = (0 : Int).toNat := (by rw [Ny358.out, List.length_take]; omega)
                                rw [← Ny358.out] at hr66
                                rw [← hy66] at hcut66
                                have HR361 := Aside0.mk hr66
                                have HC361 := Aside0.mk (show y358.length ≤ co64 from by omega)
                                clear hr66 hC66 hroom66 hi066 hsz66
                                have KY66 := Aside0.mk hy66
                                clear hy66
                                have KL66 := Aside0.mk (show 0 ≤ x5_2.length from by omega)
                                replace q66 := eq_true q66
                                have q67 : ((ji48) : Int) ≤ ((x5_2.length : Int) : Int) := of_decide_eq_true (by first | (with_reducible assumption) | assumption)
                                obtain ⟨i067, hi067, _, hsz67, _⟩ := info_parts info3
                                have hroom67 : x5_2.length ≤ co64 := (Kd.R_reads' HO_5.out).2.1
                                have hC67 : Kd.C (Kd.int .i64) _ (some ad354) x5_2.length x5_2 := (Kd.R_reads' HO_5.out).2.2
                                have q067 : (0 : Int) ≤ ((ji48) : Int) := of_decide_eq_true (by first | (with_reducible assumption) | assumption)
                                have hcut67 := cut_from (P := Try.prog) 33 3 .i64 Try.underlying33 hi067 1 hsz67 (some ad354) x5_2.length co64 (ji48) q067 q67
                                have hr67 := Kd.C_drop (m := ((ji48) : Int).toNat) (c := co64) hC67 (by omega) hroom67
                                obtain ⟨A67, hA67⟩ : ∃ A1, A1 = (if co64 = ((ji48) : Int).toNat then (some ad354) else ((some ad354) : Option Addr).map (·.add (((ji48) : Int).toNat * 1))) := ⟨_, rfl⟩
                                obtain ⟨c67, hc67⟩ : ∃ c1, c1 = co64 - ((ji48) : Int).toNat := ⟨_, rfl⟩
                                have hy67 : y365.length = x5_2.length - ((ji48) : Int).toNat := (by rw [Ny365.out, List.length_drop] <;> omega)
                                rw [show (x5_2).drop ((ji48) : Int).toNat = y365 from Ny365.out.symm] at hr67
                                replace hr67 : Kd.C (Kd.int .i64) _ A67 y365.length y365 := (by rw [hA67]; exact hr67)
                                rw [← hy67, ← hA67, ← hc67] at hcut67
                                have HR368 := Aside0.mk hr67
                                have HC368 := Aside0.mk (show y365.length ≤ c67 from by rw [hy67, hc67]; exact Nat.sub_le_sub_right hroom67 _)
                                clear hr67 hC67 hroom67 hi067 hsz67 hc67
                                have KY67 := Aside0.mk hy67
                                have KA67 := Aside0.mk hA67
                                clear hy67 hA67
                                have KL67 := Aside0.mk (show ((ji48) : Int).toNat ≤ x5_2.length from by omega)
                                replace q67 := eq_true q67
                                refine start_ (n := 11) (S := fun w' => True) (ds := []) #[false, false, false, false, false, false, false, false, false, false, false] (by kernel_rfl) rfl rfl trivial (fun hHeld => ?_); refine with_tabW gatehouselaw05_SpaceFull.tab17 gatehouselaw05_SpaceFull.bits17 (fun HT_ HW_ => ?_)
                                generalize wr.drew = w65 at HO_5 HO_7 HB HR361 HR368 hHeld ⊢
                                refine pure_ (i := 1) (N := some 57) (v := ?_) (a' := ?_) #[false, true, false, false, false, false, false, false, false, false, false] rfl rfl (any_of HT_.out (by kernel_rfl)) (fun _ _ _ h => h) (Or.inl ⟨by rfl, ?_⟩) ?_ ?_
                                rotate_left
                                · intro w'
                                  go_simp
                                  with_reducible rfl
                                rotate_left
                                · simp only [Act.put, List.setIfInBounds_toArray, List.set_cons_zero, List.set_cons_succ, i64_w, i32_w]
                                  rfl
                                refine pure_ (i := 2) (N := some 58) (v := ?_) (a' := ?_) #[false, true, true, false, false, false, false, false, false, false, false] rfl rfl (any_of HT_.out (by kernel_rfl)) (fun _ _ _ h => h) (Or.inl ⟨by rfl, ?_⟩) ?_ ?_
                                rotate_left
                                · intro w'
                                  go_simp
                                  with_reducible rfl
                                rotate_left
                                · simp only [Act.put, List.setIfInBounds_toArray, List.set_cons_zero, List.set_cons_succ, i64_w, i32_w]
                                  rfl
                                refine pure_ (i := 3) (N := some 59) (v := ?_) (a' := ?_) #[false, true, true, true, false, false, false, false, false, false, false] rfl rfl (any_of HT_.out (by kernel_rfl)) (fun _ _ _ h => h) (Or.inl ⟨by rfl, ?_⟩) ?_ ?_
                                rotate_left
                                · intro w'
                                  go_simp
                                  with_reducible rfl
                                rotate_left
                                · simp only [Act.put, List.setIfInBounds_toArray, List.set_cons_zero, List.set_cons_succ, i64_w, i32_w]
                                  rfl
                                refine pure_ (i := 5) (N := some 61) (v := ?_) (a' := ?_) #[false, true, true, true, false, true, false, false, false, false, false] rfl rfl (any_of HT_.out (by kernel_rfl)) (fun _ _ _ h => h) (Or.inl ⟨by rfl, ?_⟩) ?_ ?_
                                rotate_left
                                · intro w'
                                  go_simp
                                  with_reducible rfl
                                rotate_left
                                · simp only [Act.put, List.setIfInBounds_toArray, List.set_cons_zero, List.set_cons_succ, i64_w, i32_w]
                                  rfl
                                refine pure_ (i := 6) (N := some 62) (v := ?_) (a' := ?_) #[false, true, true, true, false, true, true, false, false, false, false] rfl rfl (any_of HT_.out (by kernel_rfl)) (fun _ _ _ h => h) (Or.inl ⟨by rfl, ?_⟩) ?_ ?_
                                rotate_left
                                · intro w'
                                  go_simp
                                  with_reducible rfl
                                rotate_left
                                · simp only [Act.put, List.setIfInBounds_toArray, List.set_cons_zero, List.set_cons_succ, i64_w, i32_w]
                                  rfl
                                refine pure_ (i := 7) (N := some 63) (v := ?_) (a' := ?_) #[false, true, true, true, false, true, true, true, false, false, false] rfl rfl (any_of HT_.out (by kernel_rfl)) (fun _ _ _ h => h) (Or.inl ⟨by rfl, ?_⟩) ?_ ?_
                                rotate_left
                                · intro w'
                                  go_simp
                                  with_reducible rfl
                                rotate_left
                                · simp only [Act.put, List.setIfInBounds_toArray, List.set_cons_zero, List.set_cons_succ, i64_w, i32_w]
                                  rfl
                                refine pure_ (i := 8) (N := some 64) (v := ?_) (a' := ?_) #[false, true, true, true, false, true, true, true, true, false, false] rfl rfl (any_of HT_.out (by kernel_rfl)) (fun _ _ _ h => h) (Or.inl ⟨by rfl, ?_⟩) ?_ ?_
                                rotate_left
                                · intro w'
                                  go_simp
                                  with_reducible rfl
                                rotate_left
                                · simp only [Act.put, List.setIfInBounds_toArray, List.set_cons_zero, List.set_cons_succ, i64_w, i32_w]
                                  rfl
                                refine one_ (i := 0) (N := some 56) #[true, true, true, true, false, true, true, true, true, false, false] rfl rfl (one_of HT_.out (by kernel_rfl)) (by decide) (fun K hK => ?_)
                                refine Kd.R_lit_step (Kd.int .i64) _ 3 ?hg (N := 56) ?hd (xs := ([] : List Int)) (inner := []) (ok := fun _ => True) (okp := fun _ => True) ?hr ?hp (fun _ hk => hk) trivial (Below.refl _ _) (Nat.le_refl _) (by simp) ?_; (case hd => rfl); (case hg => rfl); (case hr => first | (go_simp; done) | (go_simp; rfl)); (case hp => exact (Reps.none _ _))
                                intro v356 w68 ho69 hb hg_ hnew_
                                clear hg_ hnew_
                                (first | rw [← Ny355.out] at ho69 | (simp only [Int.reduceToNat] at ho69; rw [← Ny355.out] at ho69))
                                have n0_ := Aside0.mk (Kd.R_elder' (by (with_reducible repeat (first | apply Kd.R_alloc | apply Kd.R_drewN | apply Kd.R_drew)); exact HO_5.out) (Kd.R_base ho69) hb)
                                have n1_ := Aside0.mk (Kd.R_below (by (with_reducible repeat (first | apply Kd.R_alloc | apply Kd.R_drewN | apply Kd.R_drew)); exact HO_7.out) hb)
                                have n2_ := Aside0.mk (Kd.R_lower (Kd.R_new' ho69 (Kd.R_lt (by (with_reducible repeat (first | apply Kd.R_alloc | apply Kd.R_drewN | apply Kd.R_drew)); exact HO_5.out))) (below_size (by repeat (first | (with_reducible first | exact HB.out | apply below_alloc | apply pw_below_drewN | apply below_drew1) | exact HB.out))))
                                have n3_ := Aside0.mk (Kd.C_below (by repeat (first | (with_reducible exact HR361.out) | (with_reducible refine Kd.C_alloc ?_ _) | (with_reducible refine Kd.C_drewN ?_ _) | (with_reducible refine Kd.C_drew ?_) | exact HR361.out)) hb)
                                have n4_ := Aside0.mk (Kd.C_below (by repeat (first | (with_reducible exact HR368.out) | (with_reducible refine Kd.C_alloc ?_ _) | (with_reducible refine Kd.C_drewN ?_ _) | (with_reducible refine Kd.C_drew ?_) | exact HR368.out)) hb)
                                have n5_ := Aside0.mk (below_step (by repeat (first | (with_reducible first | exact HB.out | apply below_alloc | apply pw_below_drewN | apply below_drew1) | exact HB.out)) hb)
                                clear HO_5
                                clear HO_7
                                clear HR361
                                clear HR368
                                clear HB
                                have HO_5 := n0_
                                have HO_7 := n1_
                                have HO357 := n2_
                                have HR361 := n3_
                                have HR368 := n4_
                                have HB := n5_
                                clear n0_ n1_ n2_ n3_ n4_ n5_
                                clear hb ho69
                                refine hK.out _ _ trivial (fun hHeld => ?_)
                                clear hK K
                                refine norm_ (a' := ?_) ?_ ?_
                                rotate_left
                                · show Act.put _ (some 56) _ = _
                                  simp only [Act.put, List.setIfInBounds_toArray, List.set_cons_zero, List.set_cons_succ, i64_w, i32_w]
                                  rfl
                                refine one_ (i := 4) (N := some 60) #[true, true, true, true, true, true, true, true, true, false, false] rfl rfl (one_of HT_.out (by kernel_rfl)) (by decide) (fun K hK => ?_)
                                refine Kd.R_append_rows_step (Kd.int .i64) (w0 := w) w.heap.size (by rfl) (.tmp 56) (.tmp 59) 33 3 (.int .i64 0) 8 rfl Try.underlying33 info3 rfl (by decide) (by omega) v356 y355 y358 _ _ _ (fun k_ => some k_ ≠ (.slice (some ad354) x5_2.length co64 : Value).ownBlock) (fun _ => False) rfl rfl ?aO ?aR (fun _ _ h => h) (fun _ h => h.elim) ?aF ?aB ?aS ?aL ?_
                                (case aR => repeat (first | exact (by repeat (first | (with_reducible exact HR361.out) | (with_reducible refine Kd.C_alloc ?_ _) | (with_reducible refine Kd.C_drewN ?_ _) | (with_reducible refine Kd.C_drew ?_) | exact HR361.out)) | (with_reducible refine Kd.C_alloc ?_ _) | (with_reducible refine Kd.C_drewN ?_ _) | (with_reducible refine Kd.C_drew ?_)))
                                (case aB => exact (by repeat (first | (with_reducible first | exact HB.out | apply below_alloc | apply pw_below_drewN | apply below_drew1) | exact HB.out)))
                                (case aF => exact (fun k_ hk => Kd.fresh' (Kd.R_lt (by (with_reducible repeat (first | apply Kd.R_alloc | apply Kd.R_drewN | apply Kd.R_drew)); exact HO_5.out)) k_ hk))
                                (case aO => exact (by (with_reducible repeat (first | apply Kd.R_alloc | apply Kd.R_drewN | apply Kd.R_drew)); exact Kd.R_mono HO357.out (fun _ hk => hk.2)))
                                (case aS => exact (below_size (by repeat (first | (with_reducible first | exact HB.out | apply below_alloc | apply pw_below_drewN | apply below_drew1) | exact HB.out))))
                                (case aL => have := LMc47.out; omega)
                                intro v363 w70 ho hb hg hat
                                rw [← Ny362.out] at ho
                                have n0_ := Aside0.mk (Kd.R_after (ok := (fun _ => True)) (by (with_reducible repeat (first | apply Kd.R_alloc | apply Kd.R_drewN | apply Kd.R_drew)); exact HO_5.out) hg hat)
                                have n1_ := Aside0.mk (Kd.R_over' (by (with_reducible repeat (first | apply Kd.R_alloc | apply Kd.R_drewN | apply Kd.R_drew)); exact HO_7.out) (Kd.R_typed (by (with_reducible repeat (first | apply Kd.R_alloc | apply Kd.R_drewN | apply Kd.R_drew)); exact HO357.out)) (by decide) hg)
                                have n2_ := Aside0.mk (hb)
                                have n3_ := Aside0.mk ((show Kd.C (Kd.int .i64) w70 (some ad354) y358.length y358 from by rw [Ny358.out]; exact Kd.C_take (m := 0) ((Kd.R_reads' (Kd.R_after (ok := (fun _ => True)) (by (with_reducible repeat (first | apply Kd.R_alloc | apply Kd.R_drewN | apply Kd.R_drew)); exact HO_5.out) hg hat)).2.2) KL66.out))
                                have n4_ := Aside0.mk ((show Kd.C (Kd.int .i64) w70 A67 y365.length y365 from by rw [Ny365.out, KA67.out]; exact Kd.C_drop (m := ((ji48) : Int).toNat) (c := co64) ((Kd.R_reads' (Kd.R_after (ok := (fun _ => True)) (by (with_reducible repeat (first | apply Kd.R_alloc | apply Kd.R_drewN | apply Kd.R_drew)); exact HO_5.out) hg hat)).2.2) KL67.out ((Kd.R_reads' (Kd.R_after (ok := (fun _ => True)) (by (with_reducible repeat (first | apply Kd.R_alloc | apply Kd.R_drewN | apply Kd.R_drew)); exact HO_5.out) hg hat)).2.1)))
                                have n5_ := Aside0.mk (ho)
                                clear HO_5
                                clear HO_7
                                clear HB
                                clear HR361
                                clear HR368
                                clear HO357
                                have HO_5 := n0_
                                have HO_7 := n1_
                                have HB := n2_
                                have HR361 := n3_
                                have HR368 := n4_
                                have HO364 := n5_
                                clear n0_ n1_ n2_ n3_ n4_ n5_
                                clear ho hb hg hat
                                refine hK.out _ _ trivial (fun hHeld => ?_)
                                clear hK K
                                refine norm_ (a' := ?_) ?_ ?_
                                rotate_left
                                · show Act.put _ (some 60) _ = _
                                  simp only [Act.put, List.setIfInBounds_toArray, List.set_cons_zero, List.set_cons_succ, i64_w, i32_w]
                                  rfl
                                refine one_ (i := 9) (N := some 65) #[true, true, true, true, true, true, true, true, true, true, false] rfl rfl (one_of HT_.out (by kernel_rfl)) (by decide) (fun K hK => ?_)
                                refine Kd.R_append_rows_step (Kd.int .i64) (w0 := w) w.heap.size (by rfl) (.tmp 60) (.tmp 64) 33 3 (.int .i64 0) 8 rfl Try.underlying33 info3 rfl (by decide) (by omega) v363 y362 y365 _ _ _ (fun k_ => some k_ ≠ (.slice (some ad354) x5_2.length co64 : Value).ownBlock) (fun _ => False) rfl rfl ?aO ?aR (fun _ _ h => h) (fun _ h => h.elim) ?aF ?aB ?aS ?aL ?_
                                (case aR => repeat (first | exact (by repeat (first | (with_reducible exact HR368.out) | (with_reducible refine Kd.C_alloc ?_ _) | (with_reducible refine Kd.C_drewN ?_ _) | (with_reducible refine Kd.C_drew ?_) | exact HR368.out)) | (with_reducible refine Kd.C_alloc ?_ _) | (with_reducible refine Kd.C_drewN ?_ _) | (with_reducible refine Kd.C_drew ?_)))
                                (case aB => exact (by repeat (first | (with_reducible first | exact HB.out | apply below_alloc | apply pw_below_drewN | apply below_drew1) | exact HB.out)))
                                (case aF => exact (fun k_ hk => Kd.fresh' (Kd.R_lt (by (with_reducible repeat (first | apply Kd.R_alloc | apply Kd.R_drewN | apply Kd.R_drew)); exact HO_5.out)) k_ hk))
                                (case aO => exact (by (with_reducible repeat (first | apply Kd.R_alloc | apply Kd.R_drewN | apply Kd.R_drew)); exact HO364.out))
                                (case aS => exact (below_size (by repeat (first | (with_reducible first | exact HB.out | apply below_alloc | apply pw_below_drewN | apply below_drew1) | exact HB.out))))
                                (case aL => have := LMc51.out; omega)
                                intro v370 w71 ho hb hg hat
                                rw [← Ny369.out] at ho
                                have n0_ := Aside0.mk (Kd.R_after (ok := (fun _ => True)) (by (with_reducible repeat (first | apply Kd.R_alloc | apply Kd.R_drewN | apply Kd.R_drew)); exact HO_5.out) hg hat)
                                have n1_ := Aside0.mk (Kd.R_over' (by (with_reducible repeat (first | apply Kd.R_alloc | apply Kd.R_drewN | apply Kd.R_drew)); exact HO_7.out) (Kd.R_typed (by (with_reducible repeat (first | apply Kd.R_alloc | apply Kd.R_drewN | apply Kd.R_drew)); exact HO364.out)) (by decide) hg)
                                have n2_ := Aside0.mk (hb)
                                have n3_ := Aside0.mk ((show Kd.C (Kd.int .i64) w71 (some ad354) y358.length y358 from by rw [Ny358.out]; exact Kd.C_take (m := 0) ((Kd.R_reads' (Kd.R_after (ok := (fun _ => True)) (by (with_reducible repeat (first | apply Kd.R_alloc | apply Kd.R_drewN | apply Kd.R_drew)); exact HO_5.out) hg hat)).2.2) KL66.out))
                                have n4_ := Aside0.mk ((show Kd.C (Kd.int .i64) w71 A67 y365.length y365 from by rw [Ny365.out, KA67.out]; exact Kd.C_drop (m := ((ji48) : Int).toNat) (c := co64) ((Kd.R_reads' (Kd.R_after (ok := (fun _ => True)) (by (with_reducible repeat (first | apply Kd.R_alloc | apply Kd.R_drewN | apply Kd.R_drew)); exact HO_5.out) hg hat)).2.2) KL67.out ((Kd.R_reads' (Kd.R_after (ok := (fun _ => True)) (by (with_reducible repeat (first | apply Kd.R_alloc | apply Kd.R_drewN | apply Kd.R_drew)); exact HO_5.out) hg hat)).2.1)))
                                have n5_ := Aside0.mk (ho)
                                clear HO_5
                                clear HO_7
                                clear HB
                                clear HR361
                                clear HR368
                                clear HO364
                                have HO_5 := n0_
                                have HO_7 := n1_
                                have HB := n2_
                                have HR361 := n3_
                                have HR368 := n4_
                                have HO371 := n5_
                                clear n0_ n1_ n2_ n3_ n4_ n5_
                                clear ho hb hg hat
                                refine hK.out _ _ trivial (fun hHeld => ?_)
                                clear hK K
                                refine norm_ (a' := ?_) ?_ ?_
                                rotate_left
                                · show Act.put _ (some 65) _ = _
                                  simp only [Act.put, List.setIfInBounds_toArray, List.set_cons_zero, List.set_cons_succ, i64_w, i32_w]
                                  rfl
                                refine pure_ (i := 10) (N := some 5) (v := ?_) (a' := ?_) #[true, true, true, true, true, true, true, true, true, true, true] rfl rfl (any_of HT_.out (by kernel_rfl)) (fun _ _ _ h => h) (Or.inl ⟨by rfl, ?_⟩) ?_ ?_
                                rotate_left
                                · intro w'
                                  go_simp
                                  with_reducible rfl
                                rotate_left
                                · simp only [Act.put, List.setIfInBounds_toArray, List.set_cons_zero, List.set_cons_succ, i64_w, i32_w]
                                  rfl
                                refine done_ (done_of HT_.out (by kernel_rfl)) ?_
                                obtain ⟨Ao72, co72, eo72⟩ := Kd.R_slice HO_7.out
                                subst eo72
                                try go_wp2_with (first | ((with_reducible refine gate_callee (f := 12) rfl ?_); refine goesL_ (some 75) rfl rfl Try.func12 (by kernel_rfl) rfl #[.slice Ao72 x7_2.length co72, .agg #[.int .i64 (wrap64 ((rd x5_2 0) * (wrap64 (4 + (wrap64 (Int.tmod (IntKind.u64.wrap (a1)) 1000)))))), .int .i64 4, .int .i64 1, .int .i64 (wrap64 ((rd x5_2 0) + 1)), .int .i64 0, .bool false, .bool false]] rfl (by (try simp only [List.map_toArray, List.map_cons, List.map_nil]); first | done | rfl | (simp only [List.length_drop, List.length_take]; rfl)) ?_; (with_reducible refine (space_Put.calls _ _ x7_2 (wrap64 ((rd x5_2 0) * (wrap64 (4 + (wrap64 (Int.tmod (IntKind.u64.wrap (a1)) 1000)))))) 4 1 (wrap64 ((rd x5_2 0) + 1)) 0 false false t372 t375 _ ?side1 ?side2 A52.out).mono ?_); (case side1 => repeat (first | exact (Kd.R_reads' HO_7.out).2.2 | (with_reducible refine Kd.C_alloc ?_ _) | (with_reducible refine Kd.C_drewN ?_ _) | (with_reducible refine Kd.C_drew ?_))); (case side2 => exact (Kd.R_reads' HO_7.out).2.1); rintro e w73 ⟨v373, rfl, ho0, hb⟩; refine ⟨_, rfl, ?_⟩; have n0_ := Aside0.mk (Kd.R_below (by (with_reducible repeat (first | apply Kd.R_alloc | apply Kd.R_drewN | apply Kd.R_drew)); exact HO_5.out) hb); have n1_ := Aside0.mk (Kd.R_elder' (by (with_reducible repeat (first | apply Kd.R_alloc | apply Kd.R_drewN | apply Kd.R_drew)); exact HO_7.out) (Kd.R_base ho0) hb); have n2_ := Aside0.mk (Kd.R_below (by (with_reducible repeat (first | apply Kd.R_alloc | apply Kd.R_drewN | apply Kd.R_drew)); exact HO371.out) hb); have n3_ := Aside0.mk (Kd.R_lower (Kd.R_new' ho0 (Kd.R_lt (by (with_reducible repeat (first | apply Kd.R_alloc | apply Kd.R_drewN | apply Kd.R_drew)); exact HO_7.out))) (below_size (by repeat (first | (with_reducible first | exact HB.out | apply below_alloc | apply pw_below_drewN | apply below_drew1) | exact HB.out)))); have n4_ := Aside0.mk (Kd.C_below (by repeat (first | (with_reducible exact HR361.out) | (with_reducible refine Kd.C_alloc ?_ _) | (with_reducible refine Kd.C_drewN ?_ _) | (with_reducible refine Kd.C_drew ?_) | exact HR361.out)) hb); have n5_ := Aside0.mk (Kd.C_below (by repeat (first | (with_reducible exact HR368.out) | (with_reducible refine Kd.C_alloc ?_ _) | (with_reducible refine Kd.C_drewN ?_ _) | (with_reducible refine Kd.C_drew ?_) | exact HR368.out)) hb); have n6_ := Aside0.mk (below_step (by repeat (first | (with_reducible first | exact HB.out | apply below_alloc | apply pw_below_drewN | apply below_drew1) | exact HB.out)) hb); clear HO_5; clear HO_7; clear HO371; clear HR361; clear HR368; clear HB; have HO_5 := n0_; have HO_7 := n1_; have HO371 := n2_; have HO374 := n3_; have HR361 := n4_; have HR368 := n5_; have HB := n6_; clear n0_ n1_ n2_ n3_ n4_ n5_ n6_; (try clear hb); (try clear hb2); (try clear hk); (try clear hi); (try clear ho0)))
                                go_ret
                                exact ⟨by first | rfl | (simp [errW_none, errW_some] <;> rfl) | (simp only [← hji48]; first | rfl | (simp [errW_none, errW_some] <;> rfl)) | (simp [*, errW_none, errW_some] <;> rfl), by repeat (first | (with_reducible first | exact HB.out | apply below_alloc | apply pw_below_drewN | apply below_drew1) | exact HB.out)⟩
                            · rw [if_neg c51] at H
                              exact absurd H (by simp)
                          · rw [if_neg c50] at H
                            exact absurd H (by simp)
                        · rw [if_neg c49] at H
                          exact absurd H (by simp)
                      · rw [if_neg c47] at H
                        exact absurd H (by simp)
                    · rw [if_neg c46] at H
                      exact absurd H (by simp)
                  · rw [if_neg c45] at H
                    exact absurd H (by simp)
              · rw [if_neg c9] at H
                have c9b0 : decide (0 < (x5_2.length : Int)) = false := decide_eq_false c9
                have c9b1 : decide (0 < x5_2.length) = false := decide_eq_false (by omega)
                clear c9
                have H' := Aside0.mk H
                clear H
                obtain ⟨Ao74, co74, eo74⟩ := Kd.R_slice HO_5.out
                subst eo74
                obtain ⟨Ao75, co75, eo75⟩ := Kd.R_slice HO_7.out
                subst eo75
                go_wp2
                go_loopg [83] k2 (fun kq v83 w' => ∃ (x83_3 : Int), v83 = .int .i64 x83_3 ∧ Aside0 (gatehouselaw05_SpaceFull.l2 kq (wrap64 (Int.tmod (IntKind.u64.wrap (a1)) 1000)) x7_2 x7_2 (x7_2.length : Int) x83_3 = some r) ∧ Aside0 (kq ≤ k2) ∧ Aside0 (Kd.R k31 31 w' w.heap.size (fun _ => True) (.slice Ao75 x7_2.length co75) x7_2) ∧ Aside0 (Kd.R k31 31 w' w.heap.size (fun _ => True) (.slice Ao75 x7_2.length co75) x7_2) ∧ Aside0 (Below w.heap.size w w'))
                case atStart => exact ⟨(0), (by first | rfl | (simp; done) | (simp [*]; done)), H', ⟨Nat.le_refl _⟩, ⟨by (with_reducible repeat (first | apply Kd.R_alloc | apply Kd.R_drewN | apply Kd.R_drew)); exact HO_7.out⟩, ⟨by (with_reducible repeat (first | apply Kd.R_alloc | apply Kd.R_drewN | apply Kd.R_drew)); exact HO_7.out⟩, ⟨by repeat (first | (with_reducible first | exact HB.out | apply below_alloc | apply pw_below_drewN | apply below_drew1) | exact HB.out)⟩⟩
                case round =>
                  clear H'
                  try clear c1
                  try clear c2
                  try clear p2
                  try clear p3
                  try clear q3
                  try clear hx3
                  try clear qi3
                  try clear c4
                  try clear c5
                  try clear q5
                  try clear c6
                  try clear p6
                  try clear q6
                  try clear c9
                  try clear c9b0
                  try clear c9b1
                  try clear c10
                  try clear c10b0
                  try clear c11
                  try clear c12
                  try clear c14
                  try clear c15
                  try clear c17
                  try clear c18
                  try clear c20
                  try clear c21
                  try clear c22
                  try clear p35
                  try clear q35
                  try clear hx35
                  try clear qi35
                  try clear c45
                  try clear c45b0
                  try clear c45b1
                  try clear c46
                  try clear c46b0
                  try clear c46b1
                  try clear c47
                  try clear c49
                  try clear c49b0
                  try clear c49b1
                  try clear c50
                  try clear c50b0
                  try clear c50b1
                  try clear c51
                  try clear c53
                  try clear c53b0
                  try clear c53b1
                  try clear q56
                  try clear c57
                  try clear q57
                  try clear p64
                  try clear q66
                  try clear c67
                  try clear q67
                  try clear hx354_0
                  try clear p354
                  try clear q057
                  try clear q067
                  try clear q354
                  try clear q56
                  try clear q57
                  try clear q66
                  try clear q67
                  obtain ⟨x83_3, rfl, HA, HK3, HO_7, HO_81, HB⟩ := hrel
                  cases gk with
                  | zero => exact absurd HA.out (by simp [gatehouselaw05_SpaceFull.l2])
                  | succ k3 =>
                    have H := HA.out
                    clear HA
                    simp only [gatehouselaw05_SpaceFull.l2] at H
                    by_cases c76 : x83_3 < (x7_2.length : Int)
                    · rw [if_pos c76] at H
                      have c76b0 : decide (x83_3 < (x7_2.length : Int)) = true := decide_eq_true c76
                      clear c76
                      by_cases c77 : 0 ≤ x83_3
                      · rw [if_pos c77] at H
                        have c77b0 : decide (0 ≤ x83_3) = true := decide_eq_true c77
                        clear c77
                        by_cases c78 : x83_3 < (x7_2.length : Int)
                        · rw [if_pos c78] at H
                          have c78b0 : decide (x83_3 < (x7_2.length : Int)) = true := decide_eq_true c78
                          clear c78
                          by_cases c79 : ((rd_T31 x7_2 x83_3).f3) = (wrap64 (x83_3 + 1))
                          · rw [if_pos c79] at H
                            have c79b0 : (((rd_T31 x7_2 x83_3).f3) == (wrap64 (x83_3 + 1))) = true := beq_iff_eq.mpr c79
                            have c79b1 : (((rd_T31 x7_2 x83_3).f3) != (wrap64 (x83_3 + 1))) = false := bne_eq_false_iff_eq.mpr c79
                            clear c79
                            by_cases c80 : ((rd_T31 x7_2 x83_3).f0) = (wrap64 (x83_3 * (wrap64 (4 + (wrap64 (Int.tmod (IntKind.u64.wrap (a1)) 1000))))))
                            · rw [if_pos c80] at H
                              have c80b0 : (((rd_T31 x7_2 x83_3).f0) == (wrap64 (x83_3 * (wrap64 (4 + (wrap64 (Int.tmod (IntKind.u64.wrap (a1)) 1000))))))) = true := beq_iff_eq.mpr c80
                              have c80b1 : (((rd_T31 x7_2 x83_3).f0) != (wrap64 (x83_3 * (wrap64 (4 + (wrap64 (Int.tmod (IntKind.u64.wrap (a1)) 1000))))))) = false := bne_eq_false_iff_eq.mpr c80
                              clear c80
                              have H' := Aside0.mk H
                              clear H
                              have p376 : 0 ≤ (x83_3 : Int) := of_decide_eq_true (by first | (with_reducible assumption) | assumption)
                              have q376 : x83_3 < (x7_2.length : Int) := of_decide_eq_true (by first | (with_reducible assumption) | assumption)
                              obtain ⟨ad376, e376, hx376_0, hx376_1, hx376_2, hx376_3, hx376_4, hx376_5, hx376_6⟩ := at_T31 (Kd.R_reads' HO_81.out).2.2 x83_3 p376 q376
                              cases e376
                              replace p376 := eq_true p376
                              replace q376 := eq_true q376
                              go_wp2_with (first | ((with_reducible refine gate_dst (N := 14) rfl ?_); refine box_event ?hg (N := 14) ?hd (cs := #[.int .i64 0, .int .i64 0, .int .i64 0, .int .i64 0, .int .i64 0, .bool false, .bool false]) (t := 31) ?hr ?_; (case hd => rfl); (case hg => rfl); (case hr => first | (go_simp; done) | (go_simp; rfl)); intro gb377 hg w81 hbox hb; have n0_ := Aside0.mk (Kd.R_below (Kd.R_elderB (by (with_reducible repeat (first | apply Kd.R_alloc | apply Kd.R_drewN | apply Kd.R_drew)); exact HO_7.out) gb377 (Nat.le_of_eq hg.symm)) hb); have n1_ := Aside0.mk (Kd.R_below (Kd.R_elderB (by (with_reducible repeat (first | apply Kd.R_alloc | apply Kd.R_drewN | apply Kd.R_drew)); exact HO_81.out) gb377 (Nat.le_of_eq hg.symm)) hb); have n2_ := Aside0.mk (below_step (by repeat (first | (with_reducible first | exact HB.out | apply below_alloc | apply pw_below_drewN | apply below_drew1) | exact HB.out)) hb); have n3_ := Aside0.mk (hbox); have n4_ := Aside0.mk ((by rw [hg]; exact (below_size (by repeat (first | (with_reducible first | exact HB.out | apply below_alloc | apply pw_below_drewN | apply below_drew1) | exact HB.out))) : w.heap.size ≤ gb377)); have n5_ := Aside0.mk ((by rw [hg]; exact (below_size (by repeat (first | (with_reducible first | exact HB.out | apply below_alloc | apply pw_below_drewN | apply below_drew1) | exact HB.out))) : w.heap.size ≤ gb377)); clear HO_7; clear HO_81; clear HB; have HO_7 := n0_; have HO_81 := n1_; have HB := n2_; have BK377 := n3_; have GW377 := n4_; have GE377 := n5_; clear n0_ n1_ n2_ n3_ n4_ n5_; clear hb hbox hg; have hcz82_0 : w81.cell? ⟨gb377, 0, none⟩ = some (.int .i64 0) := (blk_cell BK377.out 0).trans rfl; have hcz82_1 : w81.cell? ⟨gb377, 1, none⟩ = some (.int .i64 0) := (blk_cell BK377.out 1).trans rfl; have hcz82_2 : w81.cell? ⟨gb377, 2, none⟩ = some (.int .i64 0) := (blk_cell BK377.out 2).trans rfl; have hcz82_3 : w81.cell? ⟨gb377, 3, none⟩ = some (.int .i64 0) := (blk_cell BK377.out 3).trans rfl; have hcz82_4 : w81.cell? ⟨gb377, 4, none⟩ = some (.int .i64 0) := (blk_cell BK377.out 4).trans rfl; have hcz82_5 : w81.cell? ⟨gb377, 5, none⟩ = some (.bool false) := (blk_cell BK377.out 5).trans rfl; have hcz82_6 : w81.cell? ⟨gb377, 6, none⟩ = some (.bool false) := (blk_cell BK377.out 6).trans rfl; have hfz82_0 := blk_frozen BK377.out 0; have hfz82_1 := blk_frozen BK377.out 1; have hfz82_2 := blk_frozen BK377.out 2; have hfz82_3 := blk_frozen BK377.out 3; have hfz82_4 := blk_frozen BK377.out 4; have hfz82_5 := blk_frozen BK377.out 5; have hfz82_6 := blk_frozen BK377.out 6))
                              go_roundg k3
                              case measure => have := HK1.out; have := HK2.out; have := HK3.out; omega
                              case rel => exact ⟨(wrap64 (x83_3 + 1)), (by first | rfl | (simp; done) | (simp [*]; done)), H', ⟨by have := HK1.out; have := HK2.out; have := HK3.out; omega⟩, ⟨by (with_reducible repeat (first | apply Kd.R_alloc | apply Kd.R_drewN | apply Kd.R_drew)); exact Kd.R_mono (Kd.R_far (p := ⟨gb377, 6, none⟩) (Kd.R_far (p := ⟨gb377, 5, none⟩) (Kd.R_far (p := ⟨gb377, 4, none⟩) (Kd.R_far (p := ⟨gb377, 3, none⟩) (Kd.R_far (p := ⟨gb377, 2, none⟩) (Kd.R_far (p := ⟨gb377, 1, none⟩) (Kd.R_far (p := ⟨gb377, 0, none⟩) (Kd.R_mono HO_7.out (fun k_ hk => (⟨hk, hk.2⟩ : _ ∧ k_ ≠ gb377))) (fun _ hk => hk.2) (.int .i64 ((rd_T31 x7_2 x83_3).f0))) (fun _ hk => hk.2) (.int .i64 ((rd_T31 x7_2 x83_3).f1))) (fun _ hk => hk.2) (.int .i64 ((rd_T31 x7_2 x83_3).f2))) (fun _ hk => hk.2) (.int .i64 ((rd_T31 x7_2 x83_3).f3))) (fun _ hk => hk.2) (.int .i64 ((rd_T31 x7_2 x83_3).f4))) (fun _ hk => hk.2) (.bool ((rd_T31 x7_2 x83_3).f5))) (fun _ hk => hk.2) (.bool ((rd_T31 x7_2 x83_3).f6))) (fun _ hk => trivial)⟩, ⟨by (with_reducible repeat (first | apply Kd.R_alloc | apply Kd.R_drewN | apply Kd.R_drew)); exact Kd.R_mono (Kd.R_far (p := ⟨gb377, 6, none⟩) (Kd.R_far (p := ⟨gb377, 5, none⟩) (Kd.R_far (p := ⟨gb377, 4, none⟩) (Kd.R_far (p := ⟨gb377, 3, none⟩) (Kd.R_far (p := ⟨gb377, 2, none⟩) (Kd.R_far (p := ⟨gb377, 1, none⟩) (Kd.R_far (p := ⟨gb377, 0, none⟩) (Kd.R_mono HO_81.out (fun k_ hk => (⟨hk, hk.2⟩ : _ ∧ k_ ≠ gb377))) (fun _ hk => hk.2) (.int .i64 ((rd_T31 x7_2 x83_3).f0))) (fun _ hk => hk.2) (.int .i64 ((rd_T31 x7_2 x83_3).f1))) (fun _ hk => hk.2) (.int .i64 ((rd_T31 x7_2 x83_3).f2))) (fun _ hk => hk.2) (.int .i64 ((rd_T31 x7_2 x83_3).f3))) (fun _ hk => hk.2) (.int .i64 ((rd_T31 x7_2 x83_3).f4))) (fun _ hk => hk.2) (.bool ((rd_T31 x7_2 x83_3).f5))) (fun _ hk => hk.2) (.bool ((rd_T31 x7_2 x83_3).f6))) (fun _ hk => trivial)⟩, ⟨by repeat (first | (with_reducible first | exact HB.out | apply below_alloc | apply pw_below_drewN | apply below_drew1 | refine below_set ?_ GE377.out) | exact HB.out)⟩⟩
                            · rw [if_neg c80] at H
                              have c80b0 : (((rd_T31 x7_2 x83_3).f0) == (wrap64 (x83_3 * (wrap64 (4 + (wrap64 (Int.tmod (IntKind.u64.wrap (a1)) 1000))))))) = false := beq_eq_false_iff_ne.mpr c80
                              have c80b1 : (((rd_T31 x7_2 x83_3).f0) != (wrap64 (x83_3 * (wrap64 (4 + (wrap64 (Int.tmod (IntKind.u64.wrap (a1)) 1000))))))) = true := bne_iff_ne.mpr c80
                              obtain rfl := Option.some.inj H
                              have p376 : 0 ≤ (x83_3 : Int) := of_decide_eq_true (by first | (with_reducible assumption) | assumption)
                              have q376 : x83_3 < (x7_2.length : Int) := of_decide_eq_true (by first | (with_reducible assumption) | assumption)
                              obtain ⟨ad376, e376, hx376_0, hx376_1, hx376_2, hx376_3, hx376_4, hx376_5, hx376_6⟩ := at_T31 (Kd.R_reads' HO_81.out).2.2 x83_3 p376 q376
                              cases e376
                              replace p376 := eq_true p376
                              replace q376 := eq_true q376
                              go_wp2_with (first | ((with_reducible refine gate_dst (N := 14) rfl ?_); refine box_event ?hg (N := 14) ?hd (cs := #[.int .i64 0, .int .i64 0, .int .i64 0, .int .i64 0, .int .i64 0, .bool false, .bool false]) (t := 31) ?hr ?_; (case hd => rfl); (case hg => rfl); (case hr => first | (go_simp; done) | (go_simp; rfl)); intro gb377 hg w83 hbox hb; have n0_ := Aside0.mk (Kd.R_below (Kd.R_elderB (by (with_reducible repeat (first | apply Kd.R_alloc | apply Kd.R_drewN | apply Kd.R_drew)); exact HO_7.out) gb377 (Nat.le_of_eq hg.symm)) hb); have n1_ := Aside0.mk (Kd.R_below (Kd.R_elderB (by (with_reducible repeat (first | apply Kd.R_alloc | apply Kd.R_drewN | apply Kd.R_drew)); exact HO_81.out) gb377 (Nat.le_of_eq hg.symm)) hb); have n2_ := Aside0.mk (below_step (by repeat (first | (with_reducible first | exact HB.out | apply below_alloc | apply pw_below_drewN | apply below_drew1) | exact HB.out)) hb); have n3_ := Aside0.mk (hbox); have n4_ := Aside0.mk ((by rw [hg]; exact (below_size (by repeat (first | (with_reducible first | exact HB.out | apply below_alloc | apply pw_below_drewN | apply below_drew1) | exact HB.out))) : w.heap.size ≤ gb377)); have n5_ := Aside0.mk ((by rw [hg]; exact (below_size (by repeat (first | (with_reducible first | exact HB.out | apply below_alloc | apply pw_below_drewN | apply below_drew1) | exact HB.out))) : w.heap.size ≤ gb377)); clear HO_7; clear HO_81; clear HB; have HO_7 := n0_; have HO_81 := n1_; have HB := n2_; have BK377 := n3_; have GW377 := n4_; have GE377 := n5_; clear n0_ n1_ n2_ n3_ n4_ n5_; clear hb hbox hg; have hcz84_0 : w83.cell? ⟨gb377, 0, none⟩ = some (.int .i64 0) := (blk_cell BK377.out 0).trans rfl; have hcz84_1 : w83.cell? ⟨gb377, 1, none⟩ = some (.int .i64 0) := (blk_cell BK377.out 1).trans rfl; have hcz84_2 : w83.cell? ⟨gb377, 2, none⟩ = some (.int .i64 0) := (blk_cell BK377.out 2).trans rfl; have hcz84_3 : w83.cell? ⟨gb377, 3, none⟩ = some (.int .i64 0) := (blk_cell BK377.out 3).trans rfl; have hcz84_4 : w83.cell? ⟨gb377, 4, none⟩ = some (.int .i64 0) := (blk_cell BK377.out 4).trans rfl; have hcz84_5 : w83.cell? ⟨gb377, 5, none⟩ = some (.bool false) := (blk_cell BK377.out 5).trans rfl; have hcz84_6 : w83.cell? ⟨gb377, 6, none⟩ = some (.bool false) := (blk_cell BK377.out 6).trans rfl; have hfz84_0 := blk_frozen BK377.out 0; have hfz84_1 := blk_frozen BK377.out 1; have hfz84_2 := blk_frozen BK377.out 2; have hfz84_3 := blk_frozen BK377.out 3; have hfz84_4 := blk_frozen BK377.out 4; have hfz84_5 := blk_frozen BK377.out 5; have hfz84_6 := blk_frozen BK377.out 6))
                              go_ret
                              exact ⟨by first | rfl | (simp [errW_none, errW_some] <;> rfl) | (simp [*, errW_none, errW_some] <;> rfl), by repeat (first | (with_reducible first | exact HB.out | apply below_alloc | apply pw_below_drewN | apply below_drew1 | refine below_set ?_ GE377.out) | exact HB.out)⟩
                          · rw [if_neg c79] at H
                            have c79b0 : (((rd_T31 x7_2 x83_3).f3) == (wrap64 (x83_3 + 1))) = false := beq_eq_false_iff_ne.mpr c79
                            have c79b1 : (((rd_T31 x7_2 x83_3).f3) != (wrap64 (x83_3 + 1))) = true := bne_iff_ne.mpr c79
                            obtain rfl := Option.some.inj H
                            have p376 : 0 ≤ (x83_3 : Int) := of_decide_eq_true (by first | (with_reducible assumption) | assumption)
                            have q376 : x83_3 < (x7_2.length : Int) := of_decide_eq_true (by first | (with_reducible assumption) | assumption)
                            obtain ⟨ad376, e376, hx376_0, hx376_1, hx376_2, hx376_3, hx376_4, hx376_5, hx376_6⟩ := at_T31 (Kd.R_reads' HO_81.out).2.2 x83_3 p376 q376
                            cases e376
                            replace p376 := eq_true p376
                            replace q376 := eq_true q376
                            go_wp2_with (first | ((with_reducible refine gate_dst (N := 14) rfl ?_); refine box_event ?hg (N := 14) ?hd (cs := #[.int .i64 0, .int .i64 0, .int .i64 0, .int .i64 0, .int .i64 0, .bool false, .bool false]) (t := 31) ?hr ?_; (case hd => rfl); (case hg => rfl); (case hr => first | (go_simp; done) | (go_simp; rfl)); intro gb377 hg w85 hbox hb; have n0_ := Aside0.mk (Kd.R_below (Kd.R_elderB (by (with_reducible repeat (first | apply Kd.R_alloc | apply Kd.R_drewN | apply Kd.R_drew)); exact HO_7.out) gb377 (Nat.le_of_eq hg.symm)) hb); have n1_ := Aside0.mk (Kd.R_below (Kd.R_elderB (by (with_reducible repeat (first | apply Kd.R_alloc | apply Kd.R_drewN | apply Kd.R_drew)); exact HO_81.out) gb377 (Nat.le_of_eq hg.symm)) hb); have n2_ := Aside0.mk (below_step (by repeat (first | (with_reducible first | exact HB.out | apply below_alloc | apply pw_below_drewN | apply below_drew1) | exact HB.out)) hb); have n3_ := Aside0.mk (hbox); have n4_ := Aside0.mk ((by rw [hg]; exact (below_size (by repeat (first | (with_reducible first | exact HB.out | apply below_alloc | apply pw_below_drewN | apply below_drew1) | exact HB.out))) : w.heap.size ≤ gb377)); have n5_ := Aside0.mk ((by rw [hg]; exact (below_size (by repeat (first | (with_reducible first | exact HB.out | apply below_alloc | apply pw_below_drewN | apply below_drew1) | exact HB.out))) : w.heap.size ≤ gb377)); clear HO_7; clear HO_81; clear HB; have HO_7 := n0_; have HO_81 := n1_; have HB := n2_; have BK377 := n3_; have GW377 := n4_; have GE377 := n5_; clear n0_ n1_ n2_ n3_ n4_ n5_; clear hb hbox hg; have hcz86_0 : w85.cell? ⟨gb377, 0, none⟩ = some (.int .i64 0) := (blk_cell BK377.out 0).trans rfl; have hcz86_1 : w85.cell? ⟨gb377, 1, none⟩ = some (.int .i64 0) := (blk_cell BK377.out 1).trans rfl; have hcz86_2 : w85.cell? ⟨gb377, 2, none⟩ = some (.int .i64 0) := (blk_cell BK377.out 2).trans rfl; have hcz86_3 : w85.cell? ⟨gb377, 3, none⟩ = some (.int .i64 0) := (blk_cell BK377.out 3).trans rfl; have hcz86_4 : w85.cell? ⟨gb377, 4, none⟩ = some (.int .i64 0) := (blk_cell BK377.out 4).trans rfl; have hcz86_5 : w85.cell? ⟨gb377, 5, none⟩ = some (.bool false) := (blk_cell BK377.out 5).trans rfl; have hcz86_6 : w85.cell? ⟨gb377, 6, none⟩ = some (.bool false) := (blk_cell BK377.out 6).trans rfl; have hfz86_0 := blk_frozen BK377.out 0; have hfz86_1 := blk_frozen BK377.out 1; have hfz86_2 := blk_frozen BK377.out 2; have hfz86_3 := blk_frozen BK377.out 3; have hfz86_4 := blk_frozen BK377.out 4; have hfz86_5 := blk_frozen BK377.out 5; have hfz86_6 := blk_frozen BK377.out 6))
                            go_ret
                            exact ⟨by first | rfl | (simp [errW_none, errW_some] <;> rfl) | (simp [*, errW_none, errW_some] <;> rfl), by repeat (first | (with_reducible first | exact HB.out | apply below_alloc | apply pw_below_drewN | apply below_drew1 | refine below_set ?_ GE377.out) | exact HB.out)⟩
                        · rw [if_neg c78] at H
                          exact absurd H (by simp)
                      · rw [if_neg c77] at H
                        exact absurd H (by simp)
                    · rw [if_neg c76] at H
                      have c76b0 : decide (x83_3 < (x7_2.length : Int)) = false := decide_eq_false c76
                      clear c76
                      replace H := Option.bind_eq_some_iff.mp H
                      obtain ⟨⟨t378, t381⟩, A870, H⟩ := H
                      replace H : ((space_Put.f x7_2 3 1 1 99 0 false false).bind fun bt382 => (if (x7_2.length : Int) = 16 then (if t381 = 7 then (some (bt382.2 == 2)) else (some false)) else (some false))) = some r := H
                      have A87 := Aside0.mk A870
                      clear A870
                      replace H := Option.bind_eq_some_iff.mp H
                      obtain ⟨⟨t382, t385⟩, A880, H⟩ := H
                      replace H : (if (x7_2.length : Int) = 16 then (if t381 = 7 then (some (t385 == 2)) else (some false)) else (some false)) = some r := H
                      have A88 := Aside0.mk A880
                      clear A880
                      by_cases c89 : (x7_2.length : Int) = 16
                      · rw [if_pos c89] at H
                        have c89b0 : ((x7_2.length : Int) == 16) = true := beq_iff_eq.mpr c89
                        have c89b1 : ((x7_2.length : Int) != 16) = false := bne_eq_false_iff_eq.mpr c89
                        clear c89
                        by_cases c90 : t381 = 7
                        · rw [if_pos c90] at H
                          have c90b0 : (t381 == 7) = true := beq_iff_eq.mpr c90
                          have c90b1 : (t381 != 7) = false := bne_eq_false_iff_eq.mpr c90
                          clear c90
                          obtain rfl := Option.some.inj H
                          go_wp2_with (first | ((with_reducible refine gate_callee (f := 12) rfl ?_); refine goesL_ (some 106) rfl rfl Try.func12 (by kernel_rfl) rfl #[.slice Ao75 x7_2.length co75, .agg #[.int .i64 1048576, .int .i64 1, .int .i64 1, .int .i64 99, .int .i64 0, .bool false, .bool false]] rfl (by (try simp only [List.map_toArray, List.map_cons, List.map_nil]); first | done | rfl | (simp only [List.length_drop, List.length_take]; rfl)) ?_; (with_reducible refine (space_Put.calls _ _ x7_2 1048576 1 1 99 0 false false t378 t381 _ ?side1 ?side2 A87.out).mono ?_); (case side1 => repeat (first | exact (Kd.R_reads' HO_7.out).2.2 | (with_reducible refine Kd.C_alloc ?_ _) | (with_reducible refine Kd.C_drewN ?_ _) | (with_reducible refine Kd.C_drew ?_))); (case side2 => exact (Kd.R_reads' HO_7.out).2.1); rintro e w91 ⟨v379, rfl, ho0, hb⟩; refine ⟨_, rfl, ?_⟩; have n0_ := Aside0.mk (Kd.R_elder' (by (with_reducible repeat (first | apply Kd.R_alloc | apply Kd.R_drewN | apply Kd.R_drew)); exact HO_7.out) (Kd.R_base ho0) hb); have n1_ := Aside0.mk (Kd.R_elder' (by (with_reducible repeat (first | apply Kd.R_alloc | apply Kd.R_drewN | apply Kd.R_drew)); exact HO_81.out) (Kd.R_base ho0) hb); have n2_ := Aside0.mk (Kd.R_lower (Kd.R_new' (Kd.R_new' ho0 (Kd.R_lt (by (with_reducible repeat (first | apply Kd.R_alloc | apply Kd.R_drewN | apply Kd.R_drew)); exact HO_7.out))) (Kd.R_lt (by (with_reducible repeat (first | apply Kd.R_alloc | apply Kd.R_drewN | apply Kd.R_drew)); exact HO_81.out))) (below_size (by repeat (first | (with_reducible first | exact HB.out | apply below_alloc | apply pw_below_drewN | apply below_drew1) | exact HB.out)))); have n3_ := Aside0.mk (below_step (by repeat (first | (with_reducible first | exact HB.out | apply below_alloc | apply pw_below_drewN | apply below_drew1) | exact HB.out)) hb); clear HO_7; clear HO_81; clear HB; have HO_7 := n0_; have HO_81 := n1_; have HO380 := n2_; have HB := n3_; clear n0_ n1_ n2_ n3_; (try clear hb); (try clear hb2); (try clear hk); (try clear hi); (try clear ho0)) | ((with_reducible refine gate_callee (f := 12) rfl ?_); refine goesL_ (some 112) rfl rfl Try.func12 (by kernel_rfl) rfl #[.slice Ao75 x7_2.length co75, .agg #[.int .i64 3, .int .i64 1, .int .i64 1, .int .i64 99, .int .i64 0, .bool false, .bool false]] rfl (by (try simp only [List.map_toArray, List.map_cons, List.map_nil]); first | done | rfl | (simp only [List.length_drop, List.length_take]; rfl)) ?_; (with_reducible refine (space_Put.calls _ _ x7_2 3 1 1 99 0 false false t382 t385 _ ?side1 ?side2 A88.out).mono ?_); (case side1 => repeat (first | exact (Kd.R_reads' HO_7.out).2.2 | (with_reducible refine Kd.C_alloc ?_ _) | (with_reducible refine Kd.C_drewN ?_ _) | (with_reducible refine Kd.C_drew ?_))); (case side2 => exact (Kd.R_reads' HO_7.out).2.1); rintro e w92 ⟨v383, rfl, ho0, hb⟩; refine ⟨_, rfl, ?_⟩; have n0_ := Aside0.mk (Kd.R_elder' (by (with_reducible repeat (first | apply Kd.R_alloc | apply Kd.R_drewN | apply Kd.R_drew)); exact HO_7.out) (Kd.R_base ho0) hb); have n1_ := Aside0.mk (Kd.R_elder' (by (with_reducible repeat (first | apply Kd.R_alloc | apply Kd.R_drewN | apply Kd.R_drew)); exact HO_81.out) (Kd.R_base ho0) hb); have n2_ := Aside0.mk (Kd.R_elder' (by (with_reducible repeat (first | apply Kd.R_alloc | apply Kd.R_drewN | apply Kd.R_drew)); exact HO380.out) (Kd.R_base ho0) hb); have n3_ := Aside0.mk (Kd.R_lower (Kd.R_new' (Kd.R_new' (Kd.R_new' ho0 (Kd.R_lt (by (with_reducible repeat (first | apply Kd.R_alloc | apply Kd.R_drewN | apply Kd.R_drew)); exact HO_7.out))) (Kd.R_lt (by (with_reducible repeat (first | apply Kd.R_alloc | apply Kd.R_drewN | apply Kd.R_drew)); exact HO_81.out))) (Kd.R_lt (by (with_reducible repeat (first | apply Kd.R_alloc | apply Kd.R_drewN | apply Kd.R_drew)); exact HO380.out))) (below_size (by repeat (first | (with_reducible first | exact HB.out | apply below_alloc | apply pw_below_drewN | apply below_drew1) | exact HB.out)))); have n4_ := Aside0.mk (below_step (by repeat (first | (with_reducible first | exact HB.out | apply below_alloc | apply pw_below_drewN | apply below_drew1) | exact HB.out)) hb); clear HO_7; clear HO_81; clear HO380; clear HB; have HO_7 := n0_; have HO_81 := n1_; have HO380 := n2_; have HO384 := n3_; have HB := n4_; clear n0_ n1_ n2_ n3_ n4_; (try clear hb); (try clear hb2); (try clear hk); (try clear hi); (try clear ho0)))
                          go_ret
                          exact ⟨by first | rfl | (simp [errW_none, errW_some] <;> rfl) | (simp [*, errW_none, errW_some] <;> rfl), by repeat (first | (with_reducible first | exact HB.out | apply below_alloc | apply pw_below_drewN | apply below_drew1) | exact HB.out)⟩
                        · rw [if_neg c90] at H
                          have c90b0 : (t381 == 7) = false := beq_eq_false_iff_ne.mpr c90
                          have c90b1 : (t381 != 7) = true := bne_iff_ne.mpr c90
                          obtain rfl := Option.some.inj H
                          go_wp2_with (first | ((with_reducible refine gate_callee (f := 12) rfl ?_); refine goesL_ (some 106) rfl rfl Try.func12 (by kernel_rfl) rfl #[.slice Ao75 x7_2.length co75, .agg #[.int .i64 1048576, .int .i64 1, .int .i64 1, .int .i64 99, .int .i64 0, .bool false, .bool false]] rfl (by (try simp only [List.map_toArray, List.map_cons, List.map_nil]); first | done | rfl | (simp only [List.length_drop, List.length_take]; rfl)) ?_; (with_reducible refine (space_Put.calls _ _ x7_2 1048576 1 1 99 0 false false t378 t381 _ ?side1 ?side2 A87.out).mono ?_); (case side1 => repeat (first | exact (Kd.R_reads' HO_7.out).2.2 | (with_reducible refine Kd.C_alloc ?_ _) | (with_reducible refine Kd.C_drewN ?_ _) | (with_reducible refine Kd.C_drew ?_))); (case side2 => exact (Kd.R_reads' HO_7.out).2.1); rintro e w93 ⟨v379, rfl, ho0, hb⟩; refine ⟨_, rfl, ?_⟩; have n0_ := Aside0.mk (Kd.R_elder' (by (with_reducible repeat (first | apply Kd.R_alloc | apply Kd.R_drewN | apply Kd.R_drew)); exact HO_7.out) (Kd.R_base ho0) hb); have n1_ := Aside0.mk (Kd.R_elder' (by (with_reducible repeat (first | apply Kd.R_alloc | apply Kd.R_drewN | apply Kd.R_drew)); exact HO_81.out) (Kd.R_base ho0) hb); have n2_ := Aside0.mk (Kd.R_lower (Kd.R_new' (Kd.R_new' ho0 (Kd.R_lt (by (with_reducible repeat (first | apply Kd.R_alloc | apply Kd.R_drewN | apply Kd.R_drew)); exact HO_7.out))) (Kd.R_lt (by (with_reducible repeat (first | apply Kd.R_alloc | apply Kd.R_drewN | apply Kd.R_drew)); exact HO_81.out))) (below_size (by repeat (first | (with_reducible first | exact HB.out | apply below_alloc | apply pw_below_drewN | apply below_drew1) | exact HB.out)))); have n3_ := Aside0.mk (below_step (by repeat (first | (with_reducible first | exact HB.out | apply below_alloc | apply pw_below_drewN | apply below_drew1) | exact HB.out)) hb); clear HO_7; clear HO_81; clear HB; have HO_7 := n0_; have HO_81 := n1_; have HO380 := n2_; have HB := n3_; clear n0_ n1_ n2_ n3_; (try clear hb); (try clear hb2); (try clear hk); (try clear hi); (try clear ho0)) | ((with_reducible refine gate_callee (f := 12) rfl ?_); refine goesL_ (some 112) rfl rfl Try.func12 (by kernel_rfl) rfl #[.slice Ao75 x7_2.length co75, .agg #[.int .i64 3, .int .i64 1, .int .i64 1, .int .i64 99, .int .i64 0, .bool false, .bool false]] rfl (by (try simp only [List.map_toArray, List.map_cons, List.map_nil]); first | done | rfl | (simp only [List.length_drop, List.length_take]; rfl)) ?_; (with_reducible refine (space_Put.calls _ _ x7_2 3 1 1 99 0 false false t382 t385 _ ?side1 ?side2 A88.out).mono ?_); (case side1 => repeat (first | exact (Kd.R_reads' HO_7.out).2.2 | (with_reducible refine Kd.C_alloc ?_ _) | (with_reducible refine Kd.C_drewN ?_ _) | (with_reducible refine Kd.C_drew ?_))); (case side2 => exact (Kd.R_reads' HO_7.out).2.1); rintro e w94 ⟨v383, rfl, ho0, hb⟩; refine ⟨_, rfl, ?_⟩; have n0_ := Aside0.mk (Kd.R_elder' (by (with_reducible repeat (first | apply Kd.R_alloc | apply Kd.R_drewN | apply Kd.R_drew)); exact HO_7.out) (Kd.R_base ho0) hb); have n1_ := Aside0.mk (Kd.R_elder' (by (with_reducible repeat (first | apply Kd.R_alloc | apply Kd.R_drewN | apply Kd.R_drew)); exact HO_81.out) (Kd.R_base ho0) hb); have n2_ := Aside0.mk (Kd.R_elder' (by (with_reducible repeat (first | apply Kd.R_alloc | apply Kd.R_drewN | apply Kd.R_drew)); exact HO380.out) (Kd.R_base ho0) hb); have n3_ := Aside0.mk (Kd.R_lower (Kd.R_new' (Kd.R_new' (Kd.R_new' ho0 (Kd.R_lt (by (with_reducible repeat (first | apply Kd.R_alloc | apply Kd.R_drewN | apply Kd.R_drew)); exact HO_7.out))) (Kd.R_lt (by (with_reducible repeat (first | apply Kd.R_alloc | apply Kd.R_drewN | apply Kd.R_drew)); exact HO_81.out))) (Kd.R_lt (by (with_reducible repeat (first | apply Kd.R_alloc | apply Kd.R_drewN | apply Kd.R_drew)); exact HO380.out))) (below_size (by repeat (first | (with_reducible first | exact HB.out | apply below_alloc | apply pw_below_drewN | apply below_drew1) | exact HB.out)))); have n4_ := Aside0.mk (below_step (by repeat (first | (with_reducible first | exact HB.out | apply below_alloc | apply pw_below_drewN | apply below_drew1) | exact HB.out)) hb); clear HO_7; clear HO_81; clear HO380; clear HB; have HO_7 := n0_; have HO_81 := n1_; have HO380 := n2_; have HO384 := n3_; have HB := n4_; clear n0_ n1_ n2_ n3_ n4_; (try clear hb); (try clear hb2); (try clear hk); (try clear hi); (try clear ho0)))
                          go_ret
                          exact ⟨by first | rfl | (simp [errW_none, errW_some] <;> rfl) | (simp [*, errW_none, errW_some] <;> rfl), by repeat (first | (with_reducible first | exact HB.out | apply below_alloc | apply pw_below_drewN | apply below_drew1) | exact HB.out)⟩
                      · rw [if_neg c89] at H
                        have c89b0 : ((x7_2.length : Int) == 16) = false := beq_eq_false_iff_ne.mpr c89
                        have c89b1 : ((x7_2.length : Int) != 16) = true := bne_iff_ne.mpr c89
                        obtain rfl := Option.some.inj H
                        go_wp2_with (first | ((with_reducible refine gate_callee (f := 12) rfl ?_); refine goesL_ (some 106) rfl rfl Try.func12 (by kernel_rfl) rfl #[.slice Ao75 x7_2.length co75, .agg #[.int .i64 1048576, .int .i64 1, .int .i64 1, .int .i64 99, .int .i64 0, .bool false, .bool false]] rfl (by (try simp only [List.map_toArray, List.map_cons, List.map_nil]); first | done | rfl | (simp only [List.length_drop, List.length_take]; rfl)) ?_; (with_reducible refine (space_Put.calls _ _ x7_2 1048576 1 1 99 0 false false t378 t381 _ ?side1 ?side2 A87.out).mono ?_); (case side1 => repeat (first | exact (Kd.R_reads' HO_7.out).2.2 | (with_reducible refine Kd.C_alloc ?_ _) | (with_reducible refine Kd.C_drewN ?_ _) | (with_reducible refine Kd.C_drew ?_))); (case side2 => exact (Kd.R_reads' HO_7.out).2.1); rintro e w95 ⟨v379, rfl, ho0, hb⟩; refine ⟨_, rfl, ?_⟩; have n0_ := Aside0.mk (Kd.R_elder' (by (with_reducible repeat (first | apply Kd.R_alloc | apply Kd.R_drewN | apply Kd.R_drew)); exact HO_7.out) (Kd.R_base ho0) hb); have n1_ := Aside0.mk (Kd.R_elder' (by (with_reducible repeat (first | apply Kd.R_alloc | apply Kd.R_drewN | apply Kd.R_drew)); exact HO_81.out) (Kd.R_base ho0) hb); have n2_ := Aside0.mk (Kd.R_lower (Kd.R_new' (Kd.R_new' ho0 (Kd.R_lt (by (with_reducible repeat (first | apply Kd.R_alloc | apply Kd.R_drewN | apply Kd.R_drew)); exact HO_7.out))) (Kd.R_lt (by (with_reducible repeat (first | apply Kd.R_alloc | apply Kd.R_drewN | apply Kd.R_drew)); exact HO_81.out))) (below_size (by repeat (first | (with_reducible first | exact HB.out | apply below_alloc | apply pw_below_drewN | apply below_drew1) | exact HB.out)))); have n3_ := Aside0.mk (below_step (by repeat (first | (with_reducible first | exact HB.out | apply below_alloc | apply pw_below_drewN | apply below_drew1) | exact HB.out)) hb); clear HO_7; clear HO_81; clear HB; have HO_7 := n0_; have HO_81 := n1_; have HO380 := n2_; have HB := n3_; clear n0_ n1_ n2_ n3_; (try clear hb); (try clear hb2); (try clear hk); (try clear hi); (try clear ho0)) | ((with_reducible refine gate_callee (f := 12) rfl ?_); refine goesL_ (some 112) rfl rfl Try.func12 (by kernel_rfl) rfl #[.slice Ao75 x7_2.length co75, .agg #[.int .i64 3, .int .i64 1, .int .i64 1, .int .i64 99, .int .i64 0, .bool false, .bool false]] rfl (by (try simp only [List.map_toArray, List.map_cons, List.map_nil]); first | done | rfl | (simp only [List.length_drop, List.length_take]; rfl)) ?_; (with_reducible refine (space_Put.calls _ _ x7_2 3 1 1 99 0 false false t382 t385 _ ?side1 ?side2 A88.out).mono ?_); (case side1 => repeat (first | exact (Kd.R_reads' HO_7.out).2.2 | (with_reducible refine Kd.C_alloc ?_ _) | (with_reducible refine Kd.C_drewN ?_ _) | (with_reducible refine Kd.C_drew ?_))); (case side2 => exact (Kd.R_reads' HO_7.out).2.1); rintro e w96 ⟨v383, rfl, ho0, hb⟩; refine ⟨_, rfl, ?_⟩; have n0_ := Aside0.mk (Kd.R_elder' (by (with_reducible repeat (first | apply Kd.R_alloc | apply Kd.R_drewN | apply Kd.R_drew)); exact HO_7.out) (Kd.R_base ho0) hb); have n1_ := Aside0.mk (Kd.R_elder' (by (with_reducible repeat (first | apply Kd.R_alloc | apply Kd.R_drewN | apply Kd.R_drew)); exact HO_81.out) (Kd.R_base ho0) hb); have n2_ := Aside0.mk (Kd.R_elder' (by (with_reducible repeat (first | apply Kd.R_alloc | apply Kd.R_drewN | apply Kd.R_drew)); exact HO380.out) (Kd.R_base ho0) hb); have n3_ := Aside0.mk (Kd.R_lower (Kd.R_new' (Kd.R_new' (Kd.R_new' ho0 (Kd.R_lt (by (with_reducible repeat (first | apply Kd.R_alloc | apply Kd.R_drewN | apply Kd.R_drew)); exact HO_7.out))) (Kd.R_lt (by (with_reducible repeat (first | apply Kd.R_alloc | apply Kd.R_drewN | apply Kd.R_drew)); exact HO_81.out))) (Kd.R_lt (by (with_reducible repeat (first | apply Kd.R_alloc | apply Kd.R_drewN | apply Kd.R_drew)); exact HO380.out))) (below_size (by repeat (first | (with_reducible first | exact HB.out | apply below_alloc | apply pw_below_drewN | apply below_drew1) | exact HB.out)))); have n4_ := Aside0.mk (below_step (by repeat (first | (with_reducible first | exact HB.out | apply below_alloc | apply pw_below_drewN | apply below_drew1) | exact HB.out)) hb); clear HO_7; clear HO_81; clear HO380; clear HB; have HO_7 := n0_; have HO_81 := n1_; have HO380 := n2_; have HO384 := n3_; have HB := n4_; clear n0_ n1_ n2_ n3_ n4_; (try clear hb); (try clear hb2); (try clear hk); (try clear hi); (try clear ho0)))
                        go_ret
                        exact ⟨by first | rfl | (simp [errW_none, errW_some] <;> rfl) | (simp [*, errW_none, errW_some] <;> rfl), by repeat (first | (with_reducible first | exact HB.out | apply below_alloc | apply pw_below_drewN | apply below_drew1) | exact HB.out)⟩
  · replace c4 := Bool.eq_false_iff.mpr c4
    subst c4
    have H1 : (some false) = some r := by rw [if_neg (show ¬ (false = true) by decide)] at H; exact H
    clear H
    have H := H1
    clear H1
    obtain rfl := Option.some.inj H
    go_enter Try.func4, Try.ntmps4
    go_wp2_with (first | ((with_reducible refine gate_callee (f := 9) rfl ?_); refine goesL_ (some 19) rfl rfl Try.func9 (by kernel_rfl) rfl #[] rfl (by (try simp only [List.map_toArray, List.map_cons, List.map_nil]); first | done | rfl | (simp only [List.length_drop, List.length_take]; rfl)) ?_; (with_reducible refine (gatehouselaw05_lives.calls k  false _ A3.out).mono ?_); rintro e w97 ⟨rfl, hb⟩; refine ⟨_, rfl, ?_⟩; have n0_ := Aside0.mk (below_step (by repeat (first | (with_reducible first | exact HB.out | apply below_alloc | apply pw_below_drewN | apply below_drew1) | exact HB.out)) hb); clear HB; have HB := n0_; clear n0_; (try clear hb); (try clear hb2); (try clear hk); (try clear hi)))
    go_ret
    exact ⟨by first | rfl | (simp [errW_none, errW_some] <;> rfl) | (simp [*, errW_none, errW_some] <;> rfl), by repeat (first | (with_reducible first | exact HB.out | apply below_alloc | apply pw_below_drewN | apply below_drew1) | exact HB.out)⟩

/-- THE ONE PURE STATEMENT of gatehouselaw05_SpaceFull: yours. -/
def gatehouselaw05_SpaceFull.Pure : Prop := ∀ (l0 : List Int) (a1 : Int), l0.length ≤ maxLen → l0.length * 8 ≤ 140737488351232 → (∀ x ∈ l0, (Lit.int .i64 x).wf = true) → (Lit.int .i64 a1).wf = true → ∃ k, gatehouselaw05_SpaceFull.f k l0 a1 = some true
theorem gatehouselaw05_SpaceFull.walk (P : gatehouselaw05_SpaceFull.Pure) (a0 : Option Addr) (len0 cap0 : Nat) (z0 : List Int) (a1 : Int) (w : World) (w0 : (a0 = none ∧ len0 = 0 ∧ cap0 = 0 ∧ z0 = []) ∨ ∃ x, a0 = some x ∧ len0 ≤ cap0 ∧ cap0 ≤ maxLen ∧ z0.length = cap0 ∧ (∀ i, i < z0.length → w.cell? (x.add i) = some (.int .i64 (z0.getD i 0))) ∧ ∀ n ∈ z0, (Lit.int .i64 n).wf = true) (y0 : len0 * 8 ≤ 140737488351232) (w1 : (Lit.int .i64 a1).wf = true) :
    Calls Try.prog 4 #[.slice a0 len0 cap0, .int .i64 a1] w fun e w' => e = .returned (.bool true) ∧ Below w.heap.size w w' := by
  obtain ⟨l0, rfl, hr0, hm0, hw0, hc0⟩ := ReadsInt.ofRowC w0
  obtain ⟨k, h⟩ := P l0 a1 hm0 y0 hw0 w1
  refine (gatehouselaw05_SpaceFull.calls k _ _ l0 a1 true w (Kd.C_of_reads (d := (0 : Int)) (h1 := fun _ => rfl) hr0) hc0 h).mono ?_
  rintro e w' ⟨rfl, hd⟩
  exact ⟨rfl, hd⟩

end Go.Proofs.YtcgmlcblcioaeaaZ
namespace Go.Proofs.YtcgmlcblcioaeaaP
open Go Go.RowKit Go.Proofs.YtcgmlcblcioaeaaZ Go.Proofs.YtcgmlcblcioaeaaW.PrintWords Go.Proofs.YtcgmlcblcioaeaaW.PrintLast Go.Proofs.YtcgmlcblcioaeaaW.PrintMore
open Go.Proofs.Ytcgmlcblcioaeaa (Mp Pc rightL rightFrom atI spanL spanFrom idOk putL cutL insL clash good_out right_good right_from right_order rightL_from atI_le)

theorem wrap_in {x : Int} (h0 : -9223372036854775808 ≤ x) (h1 : x ≤ 9223372036854775807) : wrap64 x = x := by unfold wrap64; omega
theorem rd31 (l : List S31) (i : Nat) (h : i < l.length) : rd_T31 l (i : Int) = l[i] := by
  rw [rd_T31, Int.toNat_natCast, List.getD_eq_getElem?_getD, List.getElem?_eq_getElem h]; rfl
theorem rd41 (l : List S41) (i : Nat) (h : i < l.length) : rd_T41 l (i : Int) = l[i] := by
  rw [rd_T41, Int.toNat_natCast, List.getD_eq_getElem?_getD, List.getElem?_eq_getElem h]; rfl
theorem id_eq (n : Int) : space_id.f n = some (idOk n) := by
  unfold space_id.f idOk
  by_cases h : n ≥ 1
  · rw [if_pos h]
    congr 1
    exact decide_eq_decide.2 (by omega)
  · rw [if_neg h, decide_eq_false (by omega)]
theorem right_eq (x : S31) : space_right.f x.f0 x.f1 x.f2 x.f3 x.f4 x.f5 x.f6 = some x.m.good := by
  have no : ∀ h : ¬ (1 ≤ x.f1 ∧ x.f1 ≤ 64 ∧ 0 ≤ x.f0 ∧ x.f0 ≤ 67108864 - x.f1 ∧ 0 ≤ x.f4 ∧ x.f4 ≤ 64 - x.f1 ∧ idOk x.f2 = true ∧ idOk x.f3 = true), x.m.good = false := fun h => decide_eq_false h
  unfold space_right.f
  by_cases h1 : x.f1 ≥ 1
  · by_cases h2 : x.f1 ≤ 64
    · by_cases h3 : x.f0 ≥ 0
      · rw [if_pos h1, if_pos h2, if_pos h3, wrap_in (x := 67108864 - x.f1) (by omega) (by omega), wrap_in (x := 64 - x.f1) (by omega) (by omega)]
        by_cases h4 : x.f0 ≤ 67108864 - x.f1
        · by_cases h5 : x.f4 ≥ 0
          · by_cases h6 : x.f4 ≤ 64 - x.f1
            · rw [if_pos h4, if_pos h5, if_pos h6, id_eq, id_eq]
              simp only [Option.bind_some]
              cases hi : idOk x.f2
              · rw [if_neg (by simp), no (by rintro ⟨_, _, _, _, _, _, h, _⟩; rw [hi] at h; cases h)]
              · rw [if_pos rfl]
                congr 1
                cases hj : idOk x.f3
                · rw [no (by rintro ⟨_, _, _, _, _, _, _, h⟩; rw [hj] at h; cases h)]
                · exact (decide_eq_true ⟨h1, h2, h3, h4, h5, h6, hi, hj⟩).symm
            · rw [if_pos h4, if_pos h5, if_neg h6, no (by rintro ⟨_, _, _, _, _, h, _, _⟩; omega)]
          · rw [if_pos h4, if_neg h5, no (by rintro ⟨_, _, _, _, h, _, _, _⟩; omega)]
        · rw [if_neg h4, no (by rintro ⟨_, _, _, h, _, _, _, _⟩; omega)]
      · rw [if_pos h1, if_pos h2, if_neg h3, no (by rintro ⟨_, _, h, _, _, _, _, _⟩; omega)]
    · rw [if_pos h1, if_neg h2, no (by rintro ⟨_, h, _, _, _, _, _, _⟩; omega)]
  · rw [if_neg h1, no (by rintro ⟨h, _, _, _, _, _, _, _⟩; omega)]

theorem drop31 (l : List S31) (i : Nat) (h : i < l.length) : (l.map S31.m).drop i = (l[i]).m :: (l.map S31.m).drop (i + 1) := by
  rw [List.drop_eq_getElem_cons (by simpa using h)]
  simp
theorem right_loop (l : List S31) (hmax : l.length ≤ 9223372036854775807) : ∀ (d k i : Nat) (free : Int), i + d = l.length → 0 ≤ free → free ≤ 67108864 → d < k →
    space_Right.l0 k l free l l.length i = some (rightFrom free ((l.map S31.m).drop i) && decide (l.length ≤ 16)) := by
  intro d
  induction d with
  | zero =>
    intro k i free hi h0 h1 hk
    obtain ⟨k, rfl⟩ : ∃ m, k = m + 1 := ⟨k - 1, by omega⟩
    simp only [space_Right.l0]
    rw [if_neg (by omega), List.drop_eq_nil_of_le (by simp; omega), rightFrom, Bool.true_and]
    congr 1
    exact decide_eq_decide.2 (by omega)
  | succ d ih =>
    intro k i free hi h0 h1 hk
    obtain ⟨k, rfl⟩ : ∃ m, k = m + 1 := ⟨k - 1, by omega⟩
    have hlt : i < l.length := by omega
    simp only [space_Right.l0]
    rw [if_pos (by omega), if_pos (by omega), if_pos (by omega), rd31 l i hlt, right_eq, drop31 l i hlt, rightFrom]
    simp only [Option.bind_some]
    cases hg : (l[i]).m.good
    · rw [if_neg (by simp)]; rfl
    · obtain ⟨g1, g2, g3, g4, _⟩ := good_out hg
      simp only [S31.m] at g1 g2 g3 g4
      rw [if_pos rfl]
      by_cases hf : (l[i]).f0 < free
      · rw [if_pos hf, decide_eq_false (by simp only [S31.m]; omega)]; rfl
      · rw [if_neg hf, decide_eq_true (by simp only [S31.m]; omega), wrap_in (by omega) (by omega), wrap_in (by omega) (by omega), show ((i : Int) + 1) = ((i + 1 : Nat) : Int) by omega, ih k (i + 1) _ (by omega) (by omega) (by omega) (by omega)]
        rfl
theorem right_f (l : List S31) (hmax : l.length ≤ 9223372036854775807) (k : Nat) (hk : l.length < k) : space_Right.f k l = some (rightL (l.map S31.m)) := by
  unfold space_Right.f
  have := right_loop l hmax l.length k 0 0 (by omega) (by omega) (by omega) hk
  rw [List.drop_zero] at this
  rw [show ((0 : Nat) : Int) = 0 from rfl] at this
  rw [this, rightL, List.length_map]

def ofPc (p : Pc) : S41 := ⟨p.inn, p.num, p.off, p.n⟩
def S41.p (x : S41) : Pc := ⟨x.f0, x.f1, x.f2, x.f3⟩
def spanR (l : List S31) (a n need : Int) : List S41 × Int := (((spanL (l.map S31.m) a n need).1.getD []).map ofPc, (spanL (l.map S31.m) a n need).2)
theorem may_eq (x : S31) (need : Int) : space_may.f x.f0 x.f1 x.f2 x.f3 x.f4 x.f5 x.f6 need = some (x.m.may need) := by
  unfold space_may.f Ytcgmlcblcioaeaa.Mp.may
  split
  · rfl
  · split <;> rfl
theorem mn_eq (a b : Int) : mn a b = if a ≤ b then a else b := by unfold mn; split <;> split <;> omega
theorem spanFrom_cons (x : S31) (ms : List Mp) (a n need : Int) : spanFrom need (x.m :: ms) a n =
    if a < x.f0 * 64 then none else if x.m.may need = false then none else
    if n ≤ x.f1 * 64 - (a - x.f0 * 64) then some [⟨x.f2, x.f3, x.f4 * 64 + (a - x.f0 * 64), n⟩]
    else (spanFrom need ms (a + (x.f1 * 64 - (a - x.f0 * 64))) (n - (x.f1 * 64 - (a - x.f0 * 64)))).map (⟨x.f2, x.f3, x.f4 * 64 + (a - x.f0 * 64), x.f1 * 64 - (a - x.f0 * 64)⟩ :: ·) := rfl
def spanT (acc : List S41) : Option (List Pc) → List S41 × Int
  | none => ([], 9)
  | some ps => (acc ++ ps.map ofPc, 0)
theorem span_loop (l : List S31) (hr : rightL (l.map S31.m) = true) (need : Int) : ∀ (d k i : Nat) (n fr : Int) (acc : List S41), i + d = l.length → 0 ≤ fr → fr ≤ 4294971392 → 0 ≤ n → n ≤ 4096 → acc.length ≤ i →
      (0 < n → ∀ h : i < l.length, fr < ((l[i]).f0 + (l[i]).f1) * 64) → d + 1 < k →
    space_Span.l0 k l n need acc fr i = some (if n ≤ 0 then (acc, 0) else spanT acc (spanFrom need ((l.map S31.m).drop i) fr n)) := by
  obtain ⟨hf, hn16⟩ := rightL_from hr
  rw [List.length_map] at hn16
  intro d
  induction d with
  | zero =>
    intro k i n fr acc hi h0 h1 h2 h3 ha hp hk
    obtain ⟨k, rfl⟩ : ∃ m, k = m + 1 := ⟨k - 1, by omega⟩
    simp only [space_Span.l0]
    by_cases hn : n > 0
    · rw [if_pos hn, if_pos (by omega), if_neg (by omega), List.drop_eq_nil_of_le (by simp; omega), spanFrom, spanT]
    · rw [if_neg hn, if_pos (by omega)]
  | succ d ih =>
    intro k i n fr acc hi h0 h1 h2 h3 ha hp hk
    obtain ⟨k, rfl⟩ : ∃ m, k = m + 1 := ⟨k - 1, by omega⟩
    have hlt : i < l.length := by omega
    have hlm : i < (l.map S31.m).length := by simpa using hlt
    simp only [space_Span.l0]
    by_cases hn : n > 0
    · have hps := hp hn hlt
      have hgd := right_good hf (l[i]).m (by rw [List.mem_map]; exact ⟨_, List.getElem_mem hlt, rfl⟩)
      have hnx : ∀ h : i + 1 < l.length, (l[i]).f0 + (l[i]).f1 ≤ (l[i + 1]).f0 ∧ 1 ≤ (l[i + 1]).f1 := fun h => by
        have h1 := right_order hf i (i + 1) hlm (by simpa using h) (by omega)
        have h2 := good_out (right_good hf (l[i + 1]).m (by rw [List.mem_map]; exact ⟨_, List.getElem_mem h, rfl⟩))
        simp only [List.getElem_map, S31.m] at h1 h2
        exact ⟨h1, h2.1⟩
      rw [if_pos hn, if_neg (by omega), if_pos (by omega), if_pos (by omega), rd31 l i hlt, may_eq, if_neg (show ¬ n ≤ 0 by omega), drop31 l i hlt, spanFrom_cons]
      obtain ⟨g1, g2, g3, g4, g5, g6, _, _⟩ := good_out hgd
      generalize l[i] = x at *
      simp only [S31.m] at g1 g2 g3 g4 g5 g6
      rw [wrap_in (x := x.f0 * 64) (by omega) (by omega)]
      by_cases hva : x.f0 * 64 > fr
      · rw [if_pos hva, if_pos (by omega), spanT]
      · rw [if_neg hva, if_neg (show ¬ fr < x.f0 * 64 by omega)]
        simp only [Option.bind_some]
        cases hm : x.m.may need
        · rw [if_neg (show ¬ false = true by simp), if_pos rfl, spanT]
        · rw [if_pos rfl, if_neg (show ¬ true = false by simp), if_pos (show acc.length < 4398046511104 by omega)]
          rw [wrap_in (x := fr - x.f0 * 64) (by omega) (by omega), wrap_in (x := x.f1 * 64) (by omega) (by omega), wrap_in (x := x.f1 * 64 - (fr - x.f0 * 64)) (by omega) (by omega), wrap_in (x := x.f4 * 64) (by omega) (by omega), wrap_in (x := x.f4 * 64 + (fr - x.f0 * 64)) (by omega) (by omega), wrap_in (x := (i : Int) + 1) (by omega) (by omega), show ((i : Int) + 1) = ((i + 1 : Nat) : Int) by omega, mn_eq]
          by_cases hle : n ≤ x.f1 * 64 - (fr - x.f0 * 64)
          · rw [if_pos hle, if_pos hle, wrap_in (x := n - n) (by omega) (by omega), wrap_in (x := fr + n) (by omega) (by omega), ih k (i + 1) (n - n) (fr + n) _ (by omega) (by omega) (by omega) (by omega) (by omega) (by simp; omega) (by omega) (by omega), if_pos (by omega), spanT]
            rfl
          · rw [if_neg hle, if_neg hle, wrap_in (x := n - (x.f1 * 64 - (fr - x.f0 * 64))) (by omega) (by omega), wrap_in (x := fr + (x.f1 * 64 - (fr - x.f0 * 64))) (by omega) (by omega),
              ih k (i + 1) _ _ _ (by omega) (by omega) (by omega) (by omega) (by omega) (by simp; omega) (fun _ h => by have := hnx h; omega) (by omega), if_neg (by omega)]
            cases spanFrom need ((l.map S31.m).drop (i + 1)) (fr + (x.f1 * 64 - (fr - x.f0 * 64))) (n - (x.f1 * 64 - (fr - x.f0 * 64))) with
            | none => rfl
            | some ps => simp [spanT, ofPc]
    · rw [if_neg hn, if_pos (by omega)]
theorem span_f (l : List S31) (hmax : l.length ≤ 9223372036854775807) (a n need : Int) (ha : 0 ≤ a) (k : Nat) (hk : l.length + 3 < k) : space_Span.f k l a n need = some (spanR l a n need) := by
  unfold space_Span.f
  rw [right_f l hmax k (by omega)]
  simp only [Option.bind_some]
  obtain ⟨k, rfl⟩ : ∃ m, k = m + 1 := ⟨k - 1, by omega⟩
  have bad : ¬ (rightL (l.map S31.m) = true ∧ 1 ≤ n ∧ n ≤ 4096 ∧ 0 ≤ need ∧ need ≤ 2) → spanR l a n need = ([], 1) := fun h => by unfold spanR spanL; rw [if_neg h]; rfl
  cases hr : rightL (l.map S31.m)
  · rw [if_neg (by simp), space_Span.j0, if_pos rfl, bad (by rw [hr]; simp)]
  · rw [if_pos rfl]
    by_cases h1 : n < 1
    · rw [if_pos h1, space_Span.j0, if_pos rfl, bad (by omega)]
    · by_cases h2 : n > 4096
      · rw [if_neg h1, if_pos h2, space_Span.j0, if_pos rfl, bad (by omega)]
      · by_cases h3 : need < 0
        · rw [if_neg h1, if_neg h2, if_pos h3, space_Span.j0, if_pos rfl, bad (by omega)]
        · rw [if_neg h1, if_neg h2, if_neg h3, space_Span.j0]
          by_cases h4 : need > 2
          · rw [decide_eq_true h4, if_pos rfl, bad (by omega)]
          · rw [decide_eq_false h4, if_neg (by simp)]
            have good : spanL (l.map S31.m) a n need = if a < 4294967296 then (match spanFrom need ((l.map S31.m).drop (atI (l.map S31.m) (a / 64))) a n with | none => (none, (9 : Int)) | some ps => (some ps, 0)) else (none, 9) := by
              unfold spanL; rw [if_pos ⟨hr, by omega, by omega, by omega, by omega⟩]; rfl
            by_cases h5 : a ≥ 4294967296
            · rw [if_pos h5]; unfold spanR; rw [good, if_neg (by omega)]; rfl
            · rw [if_neg h5, wrap_in (x := a) (by omega) (by omega), Int.tdiv_eq_ediv_of_nonneg ha, wrap_in (x := a / 64) (by omega) (by omega)]
              have hat : space_at.f l (a / 64) = some ((atI (l.map S31.m) (a / 64) : Nat) : Int) := by
                unfold space_at.f; rw [if_pos ⟨hr, by omega, by omega⟩]
              rw [hat]
              simp only [Option.bind_some]
              have hal := atI_le (l.map S31.m) (a / 64)
              have hpos : ∀ h : atI (l.map S31.m) (a / 64) < l.length, a < ((l[atI (l.map S31.m) (a / 64)]).f0 + (l[atI (l.map S31.m) (a / 64)]).f1) * 64 := fun h => by
                have := Ytcgmlcblcioaeaa.takeWhile_stop (List.getElem?_eq_getElem (l := l.map S31.m) (i := atI (l.map S31.m) (a / 64)) (by simpa using h))
                simp only [List.getElem_map, S31.m] at this
                omega
              rw [List.length_map] at hal
              rw [span_loop l hr need (l.length - atI (l.map S31.m) (a / 64)) k _ n a [] (by omega) ha (by omega) (by omega) (by omega) (by simp) (fun _ h => hpos h) (by omega), if_neg (by omega)]
              unfold spanR
              rw [good, if_pos (by omega)]
              cases spanFrom need ((l.map S31.m).drop (atI (l.map S31.m) (a / 64))) a n with
              | none => rfl
              | some ps => simp [spanT]
end Go.Proofs.YtcgmlcblcioaeaaP
-- Written by a program of this session (gprint.py, over the kit's printer).
namespace Go.Proofs.YtcgmlcblcioaeaaZ
open Go.RowKit Go.Proofs.YtcgmlcblcioaeaaW.PrintWords Go.Proofs.YtcgmlcblcioaeaaW.PrintLast Go.Proofs.YtcgmlcblcioaeaaW.PrintMore
attribute [local go_sem] max2_int min2_int max_two min_two max_three min_three max_four min_four   -- for this text's walks alone
set_option linter.unusedVariables false
set_option linter.unusedSimpArgs false

/-! ### space_Find: function 14 -/
def space_Find.f (k : Nat) (l0 : List (S31)) (a1 : Int) (a2 : Int) : Option ((List (S41)) × Int) := (space_Span.f k l0 a1 1 a2).bind fun bt155 => (some (bt155.1, bt155.2))
theorem space_Find.mono : ∀ a0 a1 a2 k, LeO (space_Find.f k a0 a1 a2) (space_Find.f (k + 1) a0 a1 a2) := by
  intro a0 a1 a2 k
  unfold space_Find.f
  repeat' first
      | (with_reducible exact space_Span.mono _ _ _ _ _)
      | (with_reducible exact LeO.refl _)
      | (with_reducible exact LeO.none _)
      | (with_reducible refine LeO.ite ?_ ?_)
      | (with_reducible refine LeO.bind ?_ (fun _ => ?_))
      | exact space_Span.mono _ _ _ _ _
      | exact LeO.none _
      | refine LeO.ite ?_ ?_
      | refine LeO.bind ?_ (fun _ => ?_)
set_option maxHeartbeats 8000000 in
set_option maxRecDepth 100000 in
theorem space_Find.calls (k : Nat) (A0 : Option Addr) (c0 : Nat) (l0 : List (S31)) (a1 : Int) (a2 : Int) (r1 : List (S41)) (r2 : Int) (w : World) (hr0 : Kd.C k31 w A0 l0.length l0) (hc0 : l0.length ≤ c0) (h : space_Find.f k l0 a1 a2 = some (r1, r2)) :
    Calls Try.prog 14 #[.slice A0 l0.length c0, .int .u64 a1, .int .i64 a2] w fun e w' => ∃ v0_ : Value, e = .returned (.tuple #[v0_, .int .i64 r2]) ∧ Kd.R k41 41 w' w.heap.size (fun _ => True) v0_ r1 ∧ Below w.heap.size w w' := by
  have HR0 := Aside0.mk hr0
  have HC0 := Aside0.mk hc0
  clear hr0 hc0
  have HB := Aside0.mk (Below.refl w.heap.size w)
  have H : ((space_Span.f k l0 a1 1 a2).bind fun bt155 => (some (bt155.1, bt155.2))) = some (r1, r2) := h
  clear h
  replace H := Option.bind_eq_some_iff.mp H
  obtain ⟨⟨t155, t156⟩, A40, H⟩ := H
  replace H : (some (t155, t156)) = some (r1, r2) := H
  have A4 := Aside0.mk A40
  clear A40
  simp only [Option.some.injEq, Prod.mk.injEq] at H
  obtain ⟨rfl, rfl⟩ := H
  go_enter Try.func14, Try.ntmps14
  go_wp2_with (first | ((with_reducible refine gate_callee (f := 10) rfl ?_); refine goesL_ (some 11) rfl rfl Try.func10 (by kernel_rfl) rfl #[.slice A0 l0.length c0, .int .u64 a1, .int .i64 1, .int .i64 a2] rfl (by (try simp only [List.map_toArray, List.map_cons, List.map_nil]); first | done | rfl | (simp only [List.length_drop, List.length_take]; rfl)) ?_; (with_reducible refine (space_Span.calls k _ _ l0 a1 1 a2 t155 t156 _ ?side1 ?side2 A4.out).mono ?_); (case side1 => repeat (first | exact HR0.out | (with_reducible refine Kd.C_alloc ?_ _) | (with_reducible refine Kd.C_drewN ?_ _) | (with_reducible refine Kd.C_drew ?_))); (case side2 => exact HC0.out); rintro e w5 ⟨v157, rfl, ho0, hb⟩; refine ⟨_, rfl, ?_⟩; have n0_ := Aside0.mk (Kd.R_lower ho0 (below_size (by repeat (first | (with_reducible first | exact HB.out | apply below_alloc | apply pw_below_drewN | apply below_drew1) | exact HB.out)))); have n1_ := Aside0.mk (below_step (by repeat (first | (with_reducible first | exact HB.out | apply below_alloc | apply pw_below_drewN | apply below_drew1) | exact HB.out)) hb); clear HB; have HO158 := n0_; have HB := n1_; clear n0_ n1_; (try clear hb); (try clear hb2); (try clear hk); (try clear hi); (try clear ho0)))
  go_ret2
  exact ⟨_, by first | rfl | (simp [errW_none, errW_some] <;> rfl) | (simp [*, errW_none, errW_some] <;> rfl), by (with_reducible repeat (first | apply Kd.R_alloc | apply Kd.R_drewN | apply Kd.R_drew)); exact HO158.out, by repeat (first | (with_reducible first | exact HB.out | apply below_alloc | apply pw_below_drewN | apply below_drew1) | exact HB.out)⟩

end Go.Proofs.YtcgmlcblcioaeaaZ
namespace Go.Proofs.YtcgmlcblcioaeaaP
open Go Go.RowKit Go.Proofs.YtcgmlcblcioaeaaZ Go.Proofs.YtcgmlcblcioaeaaW.PrintWords Go.Proofs.YtcgmlcblcioaeaaW.PrintLast Go.Proofs.YtcgmlcblcioaeaaW.PrintMore
open Go.Proofs.Ytcgmlcblcioaeaa (Mp Pc rightL rightFrom atI spanL spanFrom idOk putL cutL insL clash good_out right_good right_from right_order rightL_from atI_le takeWhile_at)

theorem u64_in {x : Int} (h0 : 0 ≤ x) (h1 : x ≤ 18446744073709551615) : IntKind.u64.wrap x = x := by
  unfold IntKind.wrap
  simp [IntKind.bits, IntKind.signed]
  omega
/-- Where a mapping is found. -/
theorem atI_eq {L : List Mp} (hr : rightL L = true) (j : Nat) (hj : j < L.length) (p : Int) (h0 : (L[j]).va ≤ p) (h1 : p < (L[j]).va + (L[j]).pages) : atI L p = j := by
  obtain ⟨hf, _⟩ := rightL_from hr
  refine takeWhile_at _ L j (by omega) (fun k h hk => ?_) (fun k h hk => ?_)
  · have := right_order hf k j h hj hk
    exact decide_eq_true (by omega)
  · rcases Nat.lt_or_ge j k with h2 | h2
    · have := right_order hf j k hj h h2
      have := good_out (right_good hf _ (List.getElem_mem h))
      exact decide_eq_false (by omega)
    · obtain rfl : k = j := by omega
      exact decide_eq_false (by omega)
theorem find_in {L : List Mp} (hr : rightL L = true) (j : Nat) (hj : j < L.length) (need b : Int) (hn : 0 ≤ need ∧ need ≤ 2) (h0 : (L[j]).va * 64 ≤ b) (h1 : b < ((L[j]).va + (L[j]).pages) * 64) (hm : (L[j]).may need = true) :
    spanL L b 1 need = (some [⟨(L[j]).inn, (L[j]).num, (L[j]).frm * 64 + (b - (L[j]).va * 64), 1⟩], 0) := by
  obtain ⟨hf, _⟩ := rightL_from hr
  have hg := good_out (right_good hf _ (List.getElem_mem hj))
  unfold spanL
  rw [if_pos ⟨hr, by omega, by omega, hn.1, hn.2⟩, if_pos (by omega), atI_eq hr j hj (b / 64) (by omega) (by omega), List.drop_eq_getElem_cons hj, spanFrom, if_neg (by omega), if_neg (by rw [hm]; simp), if_pos (by omega)]

theorem find_f (l : List S31) (hmax : l.length ≤ 9223372036854775807) (a need : Int) (ha : 0 ≤ a) (k : Nat) (hk : l.length + 3 < k) : space_Find.f k l a need = some (spanR l a 1 need) := by
  unfold space_Find.f
  rw [span_f l hmax a 1 need ha k hk]
  rfl
theorem list1 {α : Type} (l : List α) (h : l.length = 1) : ∃ a, l = [a] := by
  match l, h with
  | [a], _ => exact ⟨a, rfl⟩

end Go.Proofs.YtcgmlcblcioaeaaP
-- Written by a program of this session (gprint.py, over the kit's printer).
namespace Go.Proofs.YtcgmlcblcioaeaaZ
open Go.RowKit Go.Proofs.YtcgmlcblcioaeaaW.PrintWords Go.Proofs.YtcgmlcblcioaeaaW.PrintLast Go.Proofs.YtcgmlcblcioaeaaW.PrintMore
attribute [local go_sem] max2_int min2_int max_two min_two max_three min_three max_four min_four   -- for this text's walks alone
set_option linter.unusedVariables false
set_option linter.unusedSimpArgs false

theorem eqA31 (d : Nat) (w : World) (x0 y0 : Int) (x1 y1 : Int) (x2 y2 : Int) (x3 y3 : Int) (x4 y4 : Int) (x5 y5 : Bool) (x6 y6 : Bool) :
    (Op.equalIn (d + 2) 31 (.agg #[.int .i64 x0, .int .i64 x1, .int .i64 x2, .int .i64 x3, .int .i64 x4, .bool x5, .bool x6]) (.agg #[.int .i64 y0, .int .i64 y1, .int .i64 y2, .int .i64 y3, .int .i64 y4, .bool y5, .bool y6])).run Try.prog w = .ok (x0 == y0 && (x1 == y1 && (x2 == y2 && (x3 == y3 && (x4 == y4 && (x5 == y5 && (x6 == y6))))))) w := by
  refine eqA_of Try.underlying31 (by kernel_rfl) ?_
  refine eqf_cons (by rfl) (by go_simp; rfl) (by go_simp; rfl) (by go_simp) ?_
  refine eqf_cons (by rfl) (by go_simp; rfl) (by go_simp; rfl) (by go_simp) ?_
  refine eqf_cons (by rfl) (by go_simp; rfl) (by go_simp; rfl) (by go_simp) ?_
  refine eqf_cons (by rfl) (by go_simp; rfl) (by go_simp; rfl) (by go_simp) ?_
  refine eqf_cons (by rfl) (by go_simp; rfl) (by go_simp; rfl) (by go_simp) ?_
  refine eqf_cons (by rfl) (by go_simp; rfl) (by go_simp; rfl) (by go_simp) ?_
  exact eqf_last (by rfl) (by go_simp; rfl) (by go_simp; rfl) (by go_simp)
end Go.Proofs.YtcgmlcblcioaeaaZ
-- Written by a program of this session (gprint.py, over the kit's printer).
namespace Go.Proofs.YtcgmlcblcioaeaaZ
open Go.RowKit Go.Proofs.YtcgmlcblcioaeaaW.PrintWords Go.Proofs.YtcgmlcblcioaeaaW.PrintLast Go.Proofs.YtcgmlcblcioaeaaW.PrintMore
attribute [local go_sem] max2_int min2_int max_two min_two max_three min_three max_four min_four   -- for this text's walks alone
set_option linter.unusedVariables false
set_option linter.unusedSimpArgs false

attribute [local go_sem high] eqA31
/-! ### gatehouseref05_Same: function 20 -/
def gatehouseref05_Same.l0 : Nat → List (S31) → List (S31) → Int → Int → Option (Bool)
  | 0, _, _, _, _ => none
  | k + 1, x0, x1, x12, x13 => if x13 < x12 then (if 0 ≤ x13 then (if x13 < (x0.length : Int) then (if x13 < (x1.length : Int) then (if (!(((rd_T31 x0 x13).f0) == ((rd_T31 x1 x13).f0)) || (!(((rd_T31 x0 x13).f1) == ((rd_T31 x1 x13).f1)) || (!(((rd_T31 x0 x13).f2) == ((rd_T31 x1 x13).f2)) || (!(((rd_T31 x0 x13).f3) == ((rd_T31 x1 x13).f3)) || (!(((rd_T31 x0 x13).f4) == ((rd_T31 x1 x13).f4)) || (!(((rd_T31 x0 x13).f5) == ((rd_T31 x1 x13).f5)) || (!(((rd_T31 x0 x13).f6) == ((rd_T31 x1 x13).f6))))))))) = true then (some false) else (gatehouseref05_Same.l0 k x0 x1 x12 (wrap64 (x13 + 1)))) else (none)) else (none)) else (none)) else (some true)
def gatehouseref05_Same.f (k : Nat) (l0 : List (S31)) (l1 : List (S31)) : Option (Bool) := if (l0.length : Int) = (l1.length : Int) then (gatehouseref05_Same.l0 k l0 l1 (l0.length : Int) 0) else (some false)
theorem gatehouseref05_Same.mono_l : ∀ k, (∀ y0 y1 y2 y3, LeO (gatehouseref05_Same.l0 k y0 y1 y2 y3) (gatehouseref05_Same.l0 (k + 1) y0 y1 y2 y3))
  | 0 => fun _ _ _ _ r h => by simp [gatehouseref05_Same.l0] at h
  | k + 1 => by
    have ih0 := gatehouseref05_Same.mono_l k
    · intro y0 y1 y2 y3
      unfold gatehouseref05_Same.l0
      repeat' first
      | (with_reducible exact ih0 _ _ _ _)
      | (with_reducible exact LeO.refl _)
      | (with_reducible exact LeO.none _)
      | (with_reducible refine LeO.ite ?_ ?_)
      | (with_reducible refine LeO.bind ?_ (fun _ => ?_))
      | exact ih0 _ _ _ _
      | exact LeO.none _
      | refine LeO.ite ?_ ?_
      | refine LeO.bind ?_ (fun _ => ?_)
theorem gatehouseref05_Same.mono : ∀ a0 a1 k, LeO (gatehouseref05_Same.f k a0 a1) (gatehouseref05_Same.f (k + 1) a0 a1) := by
  intro a0 a1 k
  have ih0 := gatehouseref05_Same.mono_l k
  unfold gatehouseref05_Same.f
  repeat' first
      | (with_reducible exact ih0 _ _ _ _)
      | (with_reducible exact LeO.refl _)
      | (with_reducible exact LeO.none _)
      | (with_reducible refine LeO.ite ?_ ?_)
      | (with_reducible refine LeO.bind ?_ (fun _ => ?_))
      | exact ih0 _ _ _ _
      | exact LeO.none _
      | refine LeO.ite ?_ ?_
      | refine LeO.bind ?_ (fun _ => ?_)
set_option maxHeartbeats 8000000 in
set_option maxRecDepth 100000 in
theorem gatehouseref05_Same.calls (k : Nat) (A0 : Option Addr) (c0 : Nat) (l0 : List (S31)) (A1 : Option Addr) (c1 : Nat) (l1 : List (S31)) (r : Bool) (w : World) (hr0 : Kd.C k31 w A0 l0.length l0) (hc0 : l0.length ≤ c0) (hr1 : Kd.C k31 w A1 l1.length l1) (hc1 : l1.length ≤ c1) (h : gatehouseref05_Same.f k l0 l1 = some r) :
    Calls Try.prog 20 #[.slice A0 l0.length c0, .slice A1 l1.length c1] w fun e w' => e = .returned (.bool r) ∧ Drawn0 w w' := by
  have hu31 := Try.underlying31
  have HR0 := Aside0.mk hr0
  have HC0 := Aside0.mk hc0
  clear hr0 hc0
  have HR1 := Aside0.mk hr1
  have HC1 := Aside0.mk hc1
  clear hr1 hc1
  have H : (if (l0.length : Int) = (l1.length : Int) then (gatehouseref05_Same.l0 k l0 l1 (l0.length : Int) 0) else (some false)) = some r := h
  clear h
  by_cases c3 : (l0.length : Int) = (l1.length : Int)
  · rw [if_pos c3] at H
    have c3b0 : ((l0.length : Int) == (l1.length : Int)) = true := beq_iff_eq.mpr c3
    have c3b1 : ((l0.length : Int) != (l1.length : Int)) = false := bne_eq_false_iff_eq.mpr c3
    have c3b2 : (l0.length == l1.length) = true := by first | simpa using c3 | (simp at c3 ⊢; omega)
    clear c3
    have H' := Aside0.mk H
    clear H
    go_enter Try.func20, Try.ntmps20
    go_wp2
    repeat (go_quiet (fail); try go_wp2)
    go_loopg [13] k (fun kq v13 w' => ∃ (x13_1 : Int), v13 = .int .i64 x13_1 ∧ Aside0 (gatehouseref05_Same.l0 kq l0 l1 (l0.length : Int) x13_1 = some r) ∧ Aside0 (kq ≤ k) ∧ Drawn0 w w')
    case atStart => exact ⟨(0), (by first | rfl | (simp; done) | (simp [*]; done)), H', ⟨Nat.le_refl _⟩, by repeat (first | exact Drawn0.refl _ | apply Drawn0.step)⟩
    case round =>
      clear H'
      try clear c1
      try clear c2
      try clear p2
      try clear c3
      try clear c3b0
      try clear c3b1
      try clear c3b2
      obtain ⟨x13_1, rfl, HA, HK1, ⟨m1, rfl⟩⟩ := hrel
      cases gk with
      | zero => exact absurd HA.out (by simp [gatehouseref05_Same.l0])
      | succ k1 =>
        have H := HA.out
        clear HA
        simp only [gatehouseref05_Same.l0] at H
        by_cases c4 : x13_1 < (l0.length : Int)
        · rw [if_pos c4] at H
          have c4b0 : decide (x13_1 < (l0.length : Int)) = true := decide_eq_true c4
          clear c4
          by_cases c5 : 0 ≤ x13_1
          · rw [if_pos c5] at H
            have c5b0 : decide (0 ≤ x13_1) = true := decide_eq_true c5
            clear c5
            by_cases c6 : x13_1 < (l0.length : Int)
            · rw [if_pos c6] at H
              have c6b0 : decide (x13_1 < (l0.length : Int)) = true := decide_eq_true c6
              clear c6
              by_cases c7 : x13_1 < (l1.length : Int)
              · rw [if_pos c7] at H
                have c7b0 : decide (x13_1 < (l1.length : Int)) = true := decide_eq_true c7
                clear c7
                by_cases c8 : (!(((rd_T31 l0 x13_1).f0) == ((rd_T31 l1 x13_1).f0)) || (!(((rd_T31 l0 x13_1).f1) == ((rd_T31 l1 x13_1).f1)) || (!(((rd_T31 l0 x13_1).f2) == ((rd_T31 l1 x13_1).f2)) || (!(((rd_T31 l0 x13_1).f3) == ((rd_T31 l1 x13_1).f3)) || (!(((rd_T31 l0 x13_1).f4) == ((rd_T31 l1 x13_1).f4)) || (!(((rd_T31 l0 x13_1).f5) == ((rd_T31 l1 x13_1).f5)) || (!(((rd_T31 l0 x13_1).f6) == ((rd_T31 l1 x13_1).f6))))))))) = true
                · rw [if_pos c8] at H
                  have c8b0 : (!(((rd_T31 l0 x13_1).f0) == ((rd_T31 l1 x13_1).f0)) || (!(((rd_T31 l0 x13_1).f1) == ((rd_T31 l1 x13_1).f1)) || (!(((rd_T31 l0 x13_1).f2) == ((rd_T31 l1 x13_1).f2)) || (!(((rd_T31 l0 x13_1).f3) == ((rd_T31 l1 x13_1).f3)) || (!(((rd_T31 l0 x13_1).f4) == ((rd_T31 l1 x13_1).f4)) || (!(((rd_T31 l0 x13_1).f5) == ((rd_T31 l1 x13_1).f5)) || (!(((rd_T31 l0 x13_1).f6) == ((rd_T31 l1 x13_1).f6))))))))) = true := c8
                  clear c8
                  obtain rfl := Option.some.inj H
                  have p221 : 0 ≤ (x13_1 : Int) := of_decide_eq_true (by first | (with_reducible assumption) | assumption)
                  have q221 : x13_1 < (l0.length : Int) := of_decide_eq_true (by first | (with_reducible assumption) | assumption)
                  obtain ⟨ad221, e221, hx221_0, hx221_1, hx221_2, hx221_3, hx221_4, hx221_5, hx221_6⟩ := at_T31 HR0.out x13_1 p221 q221
                  cases e221
                  replace p221 := eq_true p221
                  replace q221 := eq_true q221
                  have p222 : 0 ≤ (x13_1 : Int) := of_decide_eq_true (by first | (with_reducible assumption) | assumption)
                  have q222 : x13_1 < (l1.length : Int) := of_decide_eq_true (by first | (with_reducible assumption) | assumption)
                  obtain ⟨ad222, e222, hx222_0, hx222_1, hx222_2, hx222_3, hx222_4, hx222_5, hx222_6⟩ := at_T31 HR1.out x13_1 p222 q222
                  cases e222
                  replace p222 := eq_true p222
                  replace q222 := eq_true q222
                  go_wp2
                  repeat (go_quiet (fail); try go_wp2)
                  go_ret
                  exact ⟨by first | rfl | (simp; done) | (simp [*]; done), by repeat (first | exact Drawn0.refl _ | apply Drawn0.step)⟩
                · rw [if_neg c8] at H
                  have c8b0 : (!(((rd_T31 l0 x13_1).f0) == ((rd_T31 l1 x13_1).f0)) || (!(((rd_T31 l0 x13_1).f1) == ((rd_T31 l1 x13_1).f1)) || (!(((rd_T31 l0 x13_1).f2) == ((rd_T31 l1 x13_1).f2)) || (!(((rd_T31 l0 x13_1).f3) == ((rd_T31 l1 x13_1).f3)) || (!(((rd_T31 l0 x13_1).f4) == ((rd_T31 l1 x13_1).f4)) || (!(((rd_T31 l0 x13_1).f5) == ((rd_T31 l1 x13_1).f5)) || (!(((rd_T31 l0 x13_1).f6) == ((rd_T31 l1 x13_1).f6))))))))) = false := by simpa using c8
                  clear c8
                  have H' := Aside0.mk H
                  clear H
                  have p221 : 0 ≤ (x13_1 : Int) := of_decide_eq_true (by first | (with_reducible assumption) | assumption)
                  have q221 : x13_1 < (l0.length : Int) := of_decide_eq_true (by first | (with_reducible assumption) | assumption)
                  obtain ⟨ad221, e221, hx221_0, hx221_1, hx221_2, hx221_3, hx221_4, hx221_5, hx221_6⟩ := at_T31 HR0.out x13_1 p221 q221
                  cases e221
                  replace p221 := eq_true p221
                  replace q221 := eq_true q221
                  have p222 : 0 ≤ (x13_1 : Int) := of_decide_eq_true (by first | (with_reducible assumption) | assumption)
                  have q222 : x13_1 < (l1.length : Int) := of_decide_eq_true (by first | (with_reducible assumption) | assumption)
                  obtain ⟨ad222, e222, hx222_0, hx222_1, hx222_2, hx222_3, hx222_4, hx222_5, hx222_6⟩ := at_T31 HR1.out x13_1 p222 q222
                  cases e222
                  replace p222 := eq_true p222
                  replace q222 := eq_true q222
                  go_wp2
                  repeat (go_quiet (fail); try go_wp2)
                  go_roundg k1
                  case measure => have := HK1.out; omega
                  case rel => exact ⟨(wrap64 (x13_1 + 1)), (by first | rfl | (simp; done) | (simp [*]; done)), H', ⟨by have := HK1.out; omega⟩, by repeat (first | exact Drawn0.refl _ | apply Drawn0.step)⟩
              · rw [if_neg c7] at H
                exact absurd H (by simp)
            · rw [if_neg c6] at H
              exact absurd H (by simp)
          · rw [if_neg c5] at H
            exact absurd H (by simp)
        · rw [if_neg c4] at H
          have c4b0 : decide (x13_1 < (l0.length : Int)) = false := decide_eq_false c4
          clear c4
          obtain rfl := Option.some.inj H
          go_wp2
          repeat (go_quiet (fail); try go_wp2)
          go_ret
          exact ⟨by first | rfl | (simp; done) | (simp [*]; done), by repeat (first | exact Drawn0.refl _ | apply Drawn0.step)⟩
  · rw [if_neg c3] at H
    have c3b0 : ((l0.length : Int) == (l1.length : Int)) = false := beq_eq_false_iff_ne.mpr c3
    have c3b1 : ((l0.length : Int) != (l1.length : Int)) = true := bne_iff_ne.mpr c3
    have c3b2 : (l0.length == l1.length) = false := by first | simpa using c3 | (simp at c3 ⊢; omega)
    obtain rfl := Option.some.inj H
    go_enter Try.func20, Try.ntmps20
    go_wp2
    repeat (go_quiet (fail); try go_wp2)
    go_ret
    exact ⟨by first | rfl | (simp; done) | (simp [*]; done), by repeat (first | exact Drawn0.refl _ | apply Drawn0.step)⟩

end Go.Proofs.YtcgmlcblcioaeaaZ
namespace Go.Proofs.YtcgmlcblcioaeaaP
open Go Go.RowKit Go.Proofs.YtcgmlcblcioaeaaZ Go.Proofs.YtcgmlcblcioaeaaW.PrintWords Go.Proofs.YtcgmlcblcioaeaaW.PrintLast Go.Proofs.YtcgmlcblcioaeaaW.PrintMore
open Go.Proofs.Ytcgmlcblcioaeaa (Mp Pc rightL rightFrom atI spanL spanFrom idOk putL cutL insL clash good_out right_good right_from right_order rightL_from atI_le takeWhile_at)

theorem ne41 (x y : S41) : ((!(x.f0 == y.f0) || (!(x.f1 == y.f1) || (!(x.f2 == y.f2) || (!(x.f3 == y.f3))))) = true) ↔ ¬ x = y := by
  obtain ⟨a0, a1, a2, a3⟩ := x
  obtain ⟨b0, b1, b2, b3⟩ := y
  simp only [S41.mk.injEq]
  by_cases e0 : a0 = b0 <;> by_cases e1 : a1 = b1 <;> by_cases e2 : a2 = b2 <;> by_cases e3 : a3 = b3 <;> simp [e0, e1, e2, e3]
theorem ne31 (x y : S31) : ((!(x.f0 == y.f0) || (!(x.f1 == y.f1) || (!(x.f2 == y.f2) || (!(x.f3 == y.f3) || (!(x.f4 == y.f4) || (!(x.f5 == y.f5) || (!(x.f6 == y.f6)))))))) = true) ↔ ¬ x = y := by
  obtain ⟨a0, a1, a2, a3, a4, a5, a6⟩ := x
  obtain ⟨b0, b1, b2, b3, b4, b5, b6⟩ := y
  simp only [S31.mk.injEq]
  by_cases e0 : a0 = b0 <;> by_cases e1 : a1 = b1 <;> by_cases e2 : a2 = b2 <;> by_cases e3 : a3 = b3 <;> by_cases e4 : a4 = b4 <;> by_cases e5 : a5 = b5 <;> by_cases e6 : a6 = b6 <;> simp [e0, e1, e2, e3, e4, e5, e6]

open Classical in
theorem samePieces_loop (l r : List S41) (hn : l.length = r.length) (hmax : l.length ≤ 9223372036854775806) : ∀ (d k i : Nat), i + d = l.length → d < k →
    gatehouseref05_SamePieces.l0 k l r l.length i = some (decide (l.drop i = r.drop i)) := by
  intro d
  induction d with
  | zero =>
    intro k i hi hk
    obtain ⟨k, rfl⟩ : ∃ m, k = m + 1 := ⟨k - 1, by omega⟩
    rw [gatehouseref05_SamePieces.l0, if_neg (by omega), List.drop_eq_nil_of_le (by omega), List.drop_eq_nil_of_le (by omega), decide_eq_true rfl]
  | succ d ih =>
    intro k i hi hk
    obtain ⟨k, rfl⟩ : ∃ m, k = m + 1 := ⟨k - 1, by omega⟩
    have h1 : i < l.length := by omega
    have h2 : i < r.length := by omega
    rw [gatehouseref05_SamePieces.l0, if_pos (by omega), if_pos (by omega), if_pos (by omega), if_pos (by omega), rd41 l i h1, rd41 r i h2, List.drop_eq_getElem_cons h1, List.drop_eq_getElem_cons h2]
    by_cases e : l[i] = r[i]
    · rw [if_neg (fun h => (ne41 _ _).1 h e), wrap_in (by omega) (by omega), show ((i : Int) + 1) = ((i + 1 : Nat) : Int) by omega, ih k (i + 1) (by omega) (by omega)]
      congr 1
      exact decide_eq_decide.2 (by rw [List.cons.injEq]; exact ⟨fun h => ⟨e, h⟩, fun h => h.2⟩)
    · rw [if_pos ((ne41 _ _).2 e), decide_eq_false (fun h => e (by injection h))]
open Classical in
theorem samePieces_f (l r : List S41) (hmax : l.length ≤ 9223372036854775806) (k : Nat) (hk : l.length < k) : gatehouseref05_SamePieces.f k l r = some (decide (l = r)) := by
  unfold gatehouseref05_SamePieces.f
  by_cases hn : l.length = r.length
  · rw [if_pos (by omega)]
    have := samePieces_loop l r hn hmax l.length k 0 (by omega) hk
    simpa using this
  · rw [if_neg (by omega), decide_eq_false (fun h => hn (by rw [h]))]
open Classical in
theorem same_loop (l r : List S31) (hn : l.length = r.length) (hmax : l.length ≤ 9223372036854775806) : ∀ (d k i : Nat), i + d = l.length → d < k →
    gatehouseref05_Same.l0 k l r l.length i = some (decide (l.drop i = r.drop i)) := by
  intro d
  induction d with
  | zero =>
    intro k i hi hk
    obtain ⟨k, rfl⟩ : ∃ m, k = m + 1 := ⟨k - 1, by omega⟩
    rw [gatehouseref05_Same.l0, if_neg (by omega), List.drop_eq_nil_of_le (by omega), List.drop_eq_nil_of_le (by omega), decide_eq_true rfl]
  | succ d ih =>
    intro k i hi hk
    obtain ⟨k, rfl⟩ : ∃ m, k = m + 1 := ⟨k - 1, by omega⟩
    have h1 : i < l.length := by omega
    have h2 : i < r.length := by omega
    rw [gatehouseref05_Same.l0, if_pos (by omega), if_pos (by omega), if_pos (by omega), if_pos (by omega), rd31 l i h1, rd31 r i h2, List.drop_eq_getElem_cons h1, List.drop_eq_getElem_cons h2]
    by_cases e : l[i] = r[i]
    · rw [if_neg (fun h => (ne31 _ _).1 h e), wrap_in (by omega) (by omega), show ((i : Int) + 1) = ((i + 1 : Nat) : Int) by omega, ih k (i + 1) (by omega) (by omega)]
      congr 1
      exact decide_eq_decide.2 (by rw [List.cons.injEq]; exact ⟨fun h => ⟨e, h⟩, fun h => h.2⟩)
    · rw [if_pos ((ne31 _ _).2 e), decide_eq_false (fun h => e (by injection h))]
open Classical in
theorem same_f (l r : List S31) (hmax : l.length ≤ 9223372036854775806) (k : Nat) (hk : l.length < k) : gatehouseref05_Same.f k l r = some (decide (l = r)) := by
  unfold gatehouseref05_Same.f
  by_cases hn : l.length = r.length
  · rw [if_pos (by omega)]
    have := same_loop l r hn hmax l.length k 0 (by omega) hk
    simpa using this
  · rw [if_neg (by omega), decide_eq_false (fun h => hn (by rw [h]))]

theorem put_ex1 : space_Put.f [] 2 1 1 7 3 true false = some ([⟨2, 1, 1, 7, 3, true, false⟩], 0) := by kernel_rfl
theorem put_ex2 : space_Put.f [⟨2, 1, 1, 7, 3, true, false⟩] 3 2 1 8 0 false false = some ([⟨2, 1, 1, 7, 3, true, false⟩, ⟨3, 2, 1, 8, 0, false, false⟩], 0) := by kernel_rfl
theorem span_ex1 : spanR [⟨2, 1, 1, 7, 3, true, false⟩, ⟨3, 2, 1, 8, 0, false, false⟩] 190 4 0 = ([⟨1, 7, 254, 2⟩, ⟨1, 8, 0, 2⟩], 0) := by kernel_rfl
theorem span_ex2 : spanR [⟨2, 1, 1, 7, 3, true, false⟩] 130 4 2 = ([], 9) := by kernel_rfl
theorem lives_f (k : Nat) (hk : 20 < k) : gatehouselaw05_lives.f k = some true := by
  unfold gatehouselaw05_lives.f
  rw [put_ex1]
  simp only [Option.bind_some]
  rw [put_ex2]
  simp only [Option.bind_some]
  rw [span_f _ (by simp) 190 4 0 (by omega) k (by simp; omega), span_ex1]
  simp only [Option.bind_some]
  rw [span_f _ (by simp) 130 4 2 (by omega) k (by simp; omega), span_ex2]
  simp only [Option.bind_some]
  rw [if_pos trivial, if_pos trivial, if_pos trivial, if_pos trivial, samePieces_f _ _ (by simp) k (by simp; omega)]
  simp

/-! The span's laws. -/
theorem spanR_no {l : List S31} {a n need : Int} (h : (spanR l a n need).2 ≠ 0) : (spanR l a n need).1 = [] := by
  unfold spanR spanL at *
  split at h
  · rename_i h1
    rw [if_pos h1]
    split at h
    · rename_i h2
      rw [if_pos h2]
      split at h
      · rename_i h3
        rfl
      · exact absurd rfl h
    · rename_i h2
      rw [if_neg h2]; rfl
  · rename_i h1
    rw [if_neg h1]; rfl
theorem spanR_yes {l : List S31} {a n need : Int} (h : (spanR l a n need).2 = 0) : rightL (l.map S31.m) = true ∧ 1 ≤ n ∧ n ≤ 4096 ∧ 0 ≤ need ∧ need ≤ 2 ∧ a < 4294967296 ∧
    ∃ qs, spanFrom need ((l.map S31.m).drop (atI (l.map S31.m) (a / 64))) a n = some qs ∧ (spanR l a n need).1 = qs.map ofPc := by
  unfold spanR spanL at *
  split at h
  · rename_i h1
    rw [if_pos h1]
    split at h
    · rename_i h2
      rw [if_pos h2]
      split at h
      · cases h
      · rename_i qs h3
        exact ⟨h1.1, h1.2.1, h1.2.2.1, h1.2.2.2.1, h1.2.2.2.2, h2, qs, h3, rfl⟩
    · cases h
  · cases h
theorem spanFrom_len (need : Int) : ∀ (L : List Mp) (a n : Int) (qs : List Pc), spanFrom need L a n = some qs → qs.length ≤ L.length ∧ 0 < qs.length := by
  intro L
  induction L with
  | nil => intro a n qs h; cases h
  | cons m ms ih =>
    intro a n qs h
    rw [spanFrom] at h
    split at h
    · cases h
    · split at h
      · cases h
      · split at h
        · cases h; simp
        · rw [Option.map_eq_some_iff] at h
          obtain ⟨ps, h2, rfl⟩ := h
          have := ih _ _ _ h2
          simp; omega
end Go.Proofs.YtcgmlcblcioaeaaP
namespace Go.Proofs.YtcgmlcblcioaeaaP
open Go Go.RowKit Go.Proofs.YtcgmlcblcioaeaaZ Go.Proofs.YtcgmlcblcioaeaaW.PrintWords Go.Proofs.YtcgmlcblcioaeaaW.PrintLast Go.Proofs.YtcgmlcblcioaeaaW.PrintMore
open Go.Proofs.Ytcgmlcblcioaeaa (Mp Pc rightL rightFrom atI spanL spanFrom idOk putL cutL insL clash good_out right_good right_from right_order rightL_from atI_le takeWhile_at)

/-! Putting in, mapping by mapping. -/
theorem atI_cons (a : Mp) (L : List Mp) (p : Int) : atI (a :: L) p = if a.va + a.pages ≤ p then atI L p + 1 else 0 := by
  unfold atI
  rw [List.takeWhile_cons]
  by_cases h : a.va + a.pages ≤ p
  · rw [if_pos h, if_pos (by simpa using h)]; rfl
  · rw [if_neg h, if_neg (by simpa using h)]; rfl
theorem insL_nil (m : Mp) : insL [] m = [m] := rfl
theorem insL_cons (a : Mp) (L : List Mp) (m : Mp) : insL (a :: L) m = if a.va + a.pages ≤ m.va then a :: insL L m else m :: a :: L := by
  unfold insL
  rw [atI_cons]
  split <;> rfl
theorem clash_cons (a : Mp) (L : List Mp) (m : Mp) : clash (a :: L) m = if a.va + a.pages ≤ m.va then clash L m else decide (a.va < m.va + m.pages) := by
  unfold clash
  rw [atI_cons]
  by_cases h : a.va + a.pages ≤ m.va
  · rw [if_pos h, if_pos h]; rfl
  · rw [if_neg h, if_neg h]; rfl
theorem insL_length (L : List Mp) (m : Mp) : (insL L m).length = L.length + 1 := by
  induction L with
  | nil => rfl
  | cons a L ih =>
    rw [insL_cons]
    split
    · simp [ih]
    · simp
theorem insL_right {m : Mp} (hm : m.good = true) : ∀ (L : List Mp) (f : Int), rightFrom f L = true → f ≤ m.va → clash L m = false → rightFrom f (insL L m) = true := by
  intro L
  induction L with
  | nil => intro f _ hf _; rw [insL_nil, rightFrom, hm, decide_eq_true hf]; rfl
  | cons a L ih =>
    intro f hr hf hc
    rw [clash_cons] at hc
    rw [insL_cons]
    simp only [rightFrom, Bool.and_eq_true, decide_eq_true_eq] at hr
    split at hc
    · rename_i h
      rw [if_pos h, rightFrom, hr.1.1, decide_eq_true hr.1.2, ih _ hr.2 h hc]; rfl
    · rename_i h
      have hc' : ¬ a.va < m.va + m.pages := by simpa using hc
      rw [if_neg h, rightFrom, hm, decide_eq_true hf, rightFrom, hr.1.1, decide_eq_true (by omega), hr.2]; rfl
theorem insL_any (L : List Mp) (m : Mp) : (insL L m).any (fun x => x.va == m.va) = true := by
  induction L with
  | nil => simp [insL_nil]
  | cons a L ih =>
    rw [insL_cons]
    split
    · simp only [List.any_cons, ih, Bool.or_true]
    · simp
theorem insL_filter {m : Mp} (hm : m.good = true) : ∀ (L : List Mp) (f : Int), rightFrom f L = true → clash L m = false → (insL L m).filter (fun x => x.va != m.va) = L := by
  intro L
  have g := good_out hm
  induction L with
  | nil => intro f _ _; simp [insL_nil]
  | cons a L ih =>
    intro f hr hc
    rw [clash_cons] at hc
    rw [insL_cons]
    have hr0 := hr
    simp only [rightFrom, Bool.and_eq_true, decide_eq_true_eq] at hr
    have ga := good_out hr.1.1
    split at hc
    · rename_i h
      rw [if_pos h, List.filter_cons, if_pos (by simp; omega), ih _ hr.2 hc]
    · rename_i h
      have hc' : ¬ a.va < m.va + m.pages := by simpa using hc
      rw [if_neg h, List.filter_cons, if_neg (by simp), List.filter_eq_self]
      intro x hx
      have : a.va ≤ x.va := by
        rcases List.mem_cons.1 hx with rfl | hx
        · omega
        · have := right_from hr.2 x hx; omega
      simp only [bne_iff_ne, ne_eq]
      omega
def inside (p : Int) (x : Mp) : Bool := decide (x.va ≤ p ∧ p < x.va + x.pages)
theorem insL_find_no {m : Mp} {p : Int} (h : inside p m = false) (L : List Mp) : (insL L m).find? (inside p) = L.find? (inside p) := by
  induction L with
  | nil => rw [insL_nil, List.find?_cons, h]
  | cons a L ih =>
    rw [insL_cons]
    split
    · rw [List.find?_cons, List.find?_cons, ih]
    · rw [List.find?_cons, h]
theorem insL_find_yes {m : Mp} {p : Int} (h : inside p m = true) (L : List Mp) : (insL L m).find? (inside p) = some m := by
  have h' := of_decide_eq_true h
  induction L with
  | nil => rw [insL_nil, List.find?_cons, h]
  | cons a L ih =>
    rw [insL_cons]
    split
    · rename_i h2
      rw [List.find?_cons, show inside p a = false from decide_eq_false (by omega), ih]
    · rw [List.find?_cons, h]
/-- What is told of one byte. -/
theorem byte_from (need b : Int) : ∀ (L : List Mp) (f : Int), rightFrom f L = true →
    spanFrom need (L.drop (atI L (b / 64))) b 1 = match L.find? (inside (b / 64)) with
      | some x => if x.may need = true then some [⟨x.inn, x.num, x.frm * 64 + (b - x.va * 64), 1⟩] else none
      | none => none := by
  intro L
  induction L with
  | nil => intro f _; rfl
  | cons a L ih =>
    intro f hr
    simp only [rightFrom, Bool.and_eq_true, decide_eq_true_eq] at hr
    rw [atI_cons, List.find?_cons]
    by_cases h : a.va + a.pages ≤ b / 64
    · rw [if_pos h, List.drop_succ_cons, show inside (b / 64) a = false from decide_eq_false (by omega)]
      exact ih _ hr.2
    · rw [if_neg h, List.drop_zero, spanFrom]
      by_cases h2 : a.va ≤ b / 64
      · rw [show inside (b / 64) a = true from decide_eq_true (by omega), if_neg (by omega)]
        simp only
        cases hm : a.may need
        · rw [if_pos rfl, if_neg (by simp)]
        · rw [if_neg (by simp), if_pos rfl, if_pos (by omega)]
      · rw [show inside (b / 64) a = false from decide_eq_false (by omega), if_pos (by omega)]
        have : L.find? (inside (b / 64)) = none := by
          rw [List.find?_eq_none]
          intro x hx
          have := right_from hr.2 x hx
          have e : inside (b / 64) x = false := decide_eq_false (by omega)
          rw [e]; simp
        rw [this]
def byteL (L : List Mp) (b need : Int) : Option (List Pc) × Int :=
  if b < 4294967296 then
    match L.find? (inside (b / 64)) with
    | some x => if x.may need = true then (some [⟨x.inn, x.num, x.frm * 64 + (b - x.va * 64), 1⟩], 0) else (none, 9)
    | none => (none, 9)
  else (none, 9)
theorem span_byte {L : List Mp} (hr : rightL L = true) (b need : Int) (hn : 0 ≤ need ∧ need ≤ 2) : spanL L b 1 need = byteL L b need := by
  unfold spanL byteL
  rw [if_pos ⟨hr, by omega, by omega, hn.1, hn.2⟩, byte_from need b L 0 (rightL_from hr).1]
  split
  · cases L.find? (inside (b / 64)) with
    | none => rfl
    | some x =>
      simp only
      cases x.may need
      · rfl
      · rfl
  · rfl
theorem put_ok {L : List Mp} {m : Mp} (h : (putL L m).2 = 0) : rightL L = true ∧ m.good = true ∧ clash L m = false ∧ L.length < 16 ∧ putL L m = (insL L m, 0) := by
  unfold putL at h ⊢
  split at h
  · rename_i h1
    rw [if_pos h1]
    split at h
    · simp at h
    · rename_i h2
      rw [if_neg h2]
      split at h
      · simp at h
      · rename_i h3
        rw [if_neg h3]
        exact ⟨h1.1, h1.2, by simpa using h2, by omega, rfl⟩
  · simp at h
theorem put_no {L : List Mp} {m : Mp} (h : (putL L m).2 ≠ 0) : (putL L m).1 = [] := by
  unfold putL at *
  split at h
  · rename_i h1
    rw [if_pos h1]
    split at h
    · rename_i h2; rw [if_pos h2]
    · rename_i h2
      rw [if_neg h2]
      split at h
      · rename_i h3; rw [if_pos h3]
      · exact absurd rfl h
  · rename_i h1; rw [if_neg h1]
end Go.Proofs.YtcgmlcblcioaeaaP
namespace Go.Proofs.YtcgmlcblcioaeaaP
open Go Go.RowKit Go.Proofs.YtcgmlcblcioaeaaZ Go.Proofs.YtcgmlcblcioaeaaW.PrintWords Go.Proofs.YtcgmlcblcioaeaaW.PrintLast Go.Proofs.YtcgmlcblcioaeaaW.PrintMore
open Go.Proofs.Ytcgmlcblcioaeaa (Mp Pc rightL rightFrom atI spanL spanFrom idOk putL cutL insL clash good_out right_good right_from right_order rightL_from atI_le takeWhile_at)

/-! Sixteen mappings, in whatever order. -/
def mk (g : Int) (n : Nat) : S31 := ⟨(n : Int) * (4 + g), 4, 1, (n : Int) + 1, 0, false, false⟩
theorem mul_ord {g : Int} (hg : 0 ≤ g) {s n : Nat} (h : s < n) : (s : Int) * (4 + g) + (4 + g) ≤ (n : Int) * (4 + g) := by
  have := Int.mul_le_mul_of_nonneg_right (a := (s : Int) + 1) (b := n) (c := 4 + g) (by omega) (by omega)
  rw [Int.add_mul, Int.one_mul] at this
  exact this
theorem mul_top {g : Int} (hg : 0 ≤ g ∧ g ≤ 999) {n : Nat} (hn : n < 16) : 0 ≤ (n : Int) * (4 + g) ∧ (n : Int) * (4 + g) ≤ 15045 := by
  have h1 := Int.mul_le_mul_of_nonneg_right (a := (n : Int)) (b := 15) (c := 4 + g) (by omega) (by omega)
  have h2 := Int.mul_nonneg (a := (n : Int)) (b := 4 + g) (by omega) (by omega)
  omega
theorem mk_good {g : Int} (hg : 0 ≤ g ∧ g ≤ 999) {n : Nat} (hn : n < 16) : (mk g n).m.good = true := by
  have h := mul_top hg hn
  refine decide_eq_true ⟨?_, ?_, ?_, ?_, ?_, ?_, ?_, ?_⟩
  · show (1 : Int) ≤ 4; omega
  · show (4 : Int) ≤ 64; omega
  · show 0 ≤ (n : Int) * (4 + g); omega
  · show (n : Int) * (4 + g) ≤ 67108864 - 4; omega
  · show (0 : Int) ≤ 0; omega
  · show (0 : Int) ≤ 64 - 4; omega
  · show idOk 1 = true; decide
  · show idOk ((n : Int) + 1) = true
    unfold idOk
    exact decide_eq_true (by omega)
theorem clash_front (m : Mp) (R : List Mp) (h : ∀ x ∈ R, m.va + m.pages ≤ x.va ∧ 1 ≤ x.pages ∧ 1 ≤ m.pages) : clash R m = false ∧ insL R m = m :: R := by
  cases R with
  | nil => exact ⟨rfl, rfl⟩
  | cons a R =>
    have := h a (by simp)
    rw [clash_cons, insL_cons, if_neg (by omega), if_neg (by omega)]
    exact ⟨decide_eq_false (by omega), rfl⟩
theorem clash_back (m : Mp) (R : List Mp) (h : ∀ x ∈ R, x.va + x.pages ≤ m.va) : clash R m = false := by
  induction R with
  | nil => rfl
  | cons a R ih =>
    rw [clash_cons, if_pos (h a (by simp))]
    exact ih fun x hx => h x (by simp [hx])
/-- The mappings of those that D names. -/
def rowOf (g : Int) (D : Nat → Bool) (s len : Nat) : List S31 := ((List.range' s len).filter D).map (mk g)
theorem rowOf_mem {g : Int} {D : Nat → Bool} {s len : Nat} {x : Mp} (h : x ∈ (rowOf g D s len).map S31.m) : ∃ i, s ≤ i ∧ i < s + len ∧ D i = true ∧ x = (mk g i).m := by
  rw [rowOf, List.map_map, List.mem_map] at h
  obtain ⟨i, hi, rfl⟩ := h
  rw [List.mem_filter, List.mem_range'_1] at hi
  exact ⟨i, hi.1.1, hi.1.2, hi.2, rfl⟩
theorem put_seq {g : Int} (hg : 0 ≤ g) (D : Nat → Bool) (n : Nat) (hD : D n = false) : ∀ (len s : Nat), s ≤ n → n < s + len →
    clash ((rowOf g D s len).map S31.m) (mk g n).m = false ∧ insL ((rowOf g D s len).map S31.m) (mk g n).m = (rowOf g (fun i => D i || i == n) s len).map S31.m := by
  intro len
  induction len with
  | zero => intro s h1 h2; omega
  | succ len ih =>
    intro s h1 h2
    rcases Nat.eq_or_lt_of_le h1 with h | h
    · subst h
      have e1 : rowOf g D s (len + 1) = rowOf g D (s + 1) len := by
        rw [rowOf, List.range'_succ, List.filter_cons, if_neg (by simp [hD])]; rfl
      have e2 : rowOf g (fun i => D i || i == s) s (len + 1) = mk g s :: rowOf g D (s + 1) len := by
        rw [rowOf, List.range'_succ, List.filter_cons, if_pos (by simp), List.map_cons, rowOf]
        congr 2
        refine List.filter_congr fun x hx => ?_
        rw [List.mem_range'_1] at hx
        rw [show (x == s) = false from by simp; omega, Bool.or_false]
      rw [e1, e2]
      refine clash_front _ _ fun x hx => ?_
      obtain ⟨i, i1, _, _, rfl⟩ := rowOf_mem hx
      have := mul_ord hg (show s < i by omega)
      refine ⟨?_, ?_, ?_⟩
      · show (s : Int) * (4 + g) + 4 ≤ (i : Int) * (4 + g); omega
      · show (1 : Int) ≤ 4; omega
      · show (1 : Int) ≤ 4; omega
    · have hi := ih (s + 1) (by omega) (by omega)
      have hm := mul_ord hg h
      cases hs : D s
      · have e1 : rowOf g D s (len + 1) = rowOf g D (s + 1) len := by
          rw [rowOf, List.range'_succ, List.filter_cons, if_neg (by simp [hs])]; rfl
        have e2 : rowOf g (fun i => D i || i == n) s (len + 1) = rowOf g (fun i => D i || i == n) (s + 1) len := by
          rw [rowOf, List.range'_succ, List.filter_cons, if_neg (by simp [hs]; omega)]; rfl
        rw [e1, e2]
        exact hi
      · have e1 : rowOf g D s (len + 1) = mk g s :: rowOf g D (s + 1) len := by
          rw [rowOf, List.range'_succ, List.filter_cons, if_pos hs]; rfl
        have e2 : rowOf g (fun i => D i || i == n) s (len + 1) = mk g s :: rowOf g (fun i => D i || i == n) (s + 1) len := by
          rw [rowOf, List.range'_succ, List.filter_cons, if_pos (by simp [hs])]; rfl
        have hc : (mk g s).m.va + (mk g s).m.pages ≤ (mk g n).m.va := by
          show (s : Int) * (4 + g) + 4 ≤ (n : Int) * (4 + g); omega
        rw [e1, e2, List.map_cons, List.map_cons, clash_cons, insL_cons, if_pos hc, if_pos hc, hi.2]
        exact ⟨hi.1, rfl⟩
theorem row_right {g : Int} (hg : 0 ≤ g ∧ g ≤ 999) (D : Nat → Bool) : ∀ (len s : Nat) (f : Int), f ≤ (s : Int) * (4 + g) → s + len ≤ 16 → rightFrom f ((rowOf g D s len).map S31.m) = true := by
  intro len
  induction len with
  | zero => intro s f _ _; rfl
  | succ len ih =>
    intro s f hf hs
    have hm := mul_ord hg.1 (Nat.lt_succ_self s)
    cases hd : D s
    · rw [show rowOf g D s (len + 1) = rowOf g D (s + 1) len from by rw [rowOf, List.range'_succ, List.filter_cons, if_neg (by simp [hd])]; rfl]
      exact ih (s + 1) f (by simp only [Nat.succ_eq_add_one] at hm; omega) (by omega)
    · rw [show rowOf g D s (len + 1) = mk g s :: rowOf g D (s + 1) len from by rw [rowOf, List.range'_succ, List.filter_cons, if_pos hd]; rfl]
      rw [List.map_cons, rightFrom, mk_good hg (by omega), decide_eq_true (show f ≤ (mk g s).m.va from hf), ih (s + 1) _ ?_ (by omega)]
      · rfl
      · show (s : Int) * (4 + g) + 4 ≤ ((s + 1 : Nat) : Int) * (4 + g)
        simp only [Nat.succ_eq_add_one] at hm; omega
theorem rowOf_len (g : Int) (D : Nat → Bool) (s len : Nat) : (rowOf g D s len).length ≤ len := by
  rw [rowOf, List.length_map]
  exact Nat.le_trans (List.length_filter_le _ _) (by simp)
theorem row_rightL {g : Int} (hg : 0 ≤ g ∧ g ≤ 999) (D : Nat → Bool) : rightL ((rowOf g D 0 16).map S31.m) = true := by
  rw [rightL, row_right hg D 16 0 0 (by omega) (by omega), decide_eq_true (by rw [List.length_map]; exact rowOf_len _ _ _ _)]; rfl
theorem rowOf_lt (g : Int) (D : Nat → Bool) (n : Nat) (hn : n < 16) (hD : D n = false) : (rowOf g D 0 16).length < 16 := by
  rw [rowOf, List.length_map]
  have := List.length_filter_lt_length_iff_exists (p := D) (l := List.range' 0 16) |>.2 ⟨n, by rw [List.mem_range'_1]; omega, by simp [hD]⟩
  simpa using this
theorem map_m (l : List S31) : (l.map S31.m).map ofMp = l := by
  rw [List.map_map]
  conv => rhs; rw [← List.map_id l]
  rfl
theorem put_row {g : Int} (hg : 0 ≤ g ∧ g ≤ 999) (D : Nat → Bool) (n : Nat) (hn : n < 16) (hD : D n = false) :
    space_Put.f (rowOf g D 0 16) ((n : Int) * (4 + g)) 4 1 ((n : Int) + 1) 0 false false = some (rowOf g (fun i => D i || i == n) 0 16, 0) := by
  have h := put_seq hg.1 D n hD 16 0 (by omega) (by omega)
  have e : putL ((rowOf g D 0 16).map S31.m) (mk g n).m = ((rowOf g (fun i => D i || i == n) 0 16).map S31.m, 0) := by
    rw [putL, if_pos ⟨row_rightL hg D, mk_good hg hn⟩, if_neg (by rw [h.1]; simp), if_neg (by rw [List.length_map]; exact Nat.not_le.2 (rowOf_lt g D n hn hD)), h.2]
  show some ((putL ((rowOf g D 0 16).map S31.m) (mk g n).m).1.map ofMp, (putL ((rowOf g D 0 16).map S31.m) (mk g n).m).2) = _
  rw [e]
  simp only [map_m]
theorem cut_nodup : ∀ (l : List Nat), l.Nodup → ∀ j (h : j < l.length), l.take j ++ l.drop (j + 1) = l.filter (fun x => x != l[j]) := by
  intro l
  induction l with
  | nil => intro _ j h; simp at h
  | cons a l ih =>
    intro hn j h
    rw [List.nodup_cons] at hn
    cases j with
    | zero =>
      show l = _
      rw [List.filter_cons, if_neg (by simp), eq_comm, List.filter_eq_self]
      intro x hx
      simp only [List.getElem_cons_zero, bne_iff_ne, ne_eq]
      rintro rfl
      exact hn.1 hx
    | succ j =>
      have hj : j < l.length := by simpa using h
      rw [List.filter_cons, if_pos]
      · show a :: (l.take j ++ l.drop (j + 1)) = _
        rw [ih hn.2 j hj]; rfl
      · simp only [List.getElem_cons_succ, bne_iff_ne, ne_eq]
        intro he
        exact hn.1 (he ▸ List.getElem_mem hj)
def leftN (D : Nat → Bool) : List Nat := (List.range' 0 16).filter fun i => !D i
def leftOf (D : Nat → Bool) : List Int := (leftN D).map fun (i : Nat) => (i : Int)
theorem step_row {g : Int} (hg : 0 ≤ g ∧ g ≤ 999) (D : Nat → Bool) (j : Nat) (hj : j < (leftOf D).length) :
    ∃ n : Nat, n < 16 ∧ rd (leftOf D) (j : Int) = (n : Int) ∧ (leftOf D).take j ++ (leftOf D).drop (j + 1) = leftOf (fun i => D i || i == n) ∧
      (leftOf (fun i => D i || i == n)).length + 1 = (leftOf D).length ∧
      space_Put.f (rowOf g D 0 16) ((n : Int) * (4 + g)) 4 1 ((n : Int) + 1) 0 false false = some (rowOf g (fun i => D i || i == n) 0 16, 0) := by
  have hj' : j < (leftN D).length := by simpa [leftOf] using hj
  have hm := List.getElem_mem hj'
  have hm2 := List.mem_filter.1 hm
  rw [List.mem_range'_1] at hm2
  have hN : (leftN D).Nodup := List.Nodup.sublist List.filter_sublist List.nodup_range'
  have e0 := cut_nodup _ hN j hj'
  have e : (leftN D).take j ++ (leftN D).drop (j + 1) = leftN (fun i => D i || i == (leftN D)[j]) := by
    rw [e0]
    generalize (leftN D)[j] = n
    unfold leftN
    rw [List.filter_filter]
    refine List.filter_congr fun x _ => ?_
    cases hd : D x <;> cases hx : x == n <;> simp [bne, hx, hd]
  have e1 : (leftOf D).take j ++ (leftOf D).drop (j + 1) = leftOf (fun i => D i || i == (leftN D)[j]) := by
    unfold leftOf
    rw [← e, List.map_append, List.map_take, List.map_drop]
  refine ⟨(leftN D)[j], by omega, ?_, e1, ?_, put_row hg D _ (by omega) (by simpa using hm2.2)⟩
  · unfold rd leftOf
    rw [Int.toNat_natCast, List.getD_eq_getElem?_getD, List.getElem?_map, List.getElem?_eq_getElem hj']
    rfl
  · rw [← e1, List.length_append, List.length_take, List.length_drop]
    omega
theorem full_tail {g : Int} (hg : 0 ≤ g ∧ g ≤ 999) (X : List S31) (hX : X = rowOf g (fun _ => true) 0 16) : ∀ (d k i : Nat), i + d = 16 → d < k → gatehouselaw05_SpaceFull.l2 k g X X 16 i = some true := by
  have hl : X.length = 16 := by rw [hX]; rfl
  intro d
  induction d with
  | zero =>
    intro k i hi hk
    obtain ⟨k, rfl⟩ : ∃ m, k = m + 1 := ⟨k - 1, by omega⟩
    have hr : rightL (X.map S31.m) = true := by rw [hX]; exact row_rightL hg _
    have p1 : space_Put.f X 1048576 1 1 99 0 false false = some ([], 7) := by
      have hc : clash (X.map S31.m) ⟨1048576, 1, 1, 99, 0, false, false⟩ = false := clash_back _ _ fun x hx => by
        rw [hX] at hx
        obtain ⟨i, _, i2, _, rfl⟩ := rowOf_mem hx
        have := mul_top hg (show i < 16 by omega)
        show (i : Int) * (4 + g) + 4 ≤ 1048576
        omega
      show some ((putL (X.map S31.m) ⟨1048576, 1, 1, 99, 0, false, false⟩).1.map ofMp, (putL (X.map S31.m) ⟨1048576, 1, 1, 99, 0, false, false⟩).2) = _
      rw [putL, if_pos ⟨hr, by decide⟩, if_neg (by rw [hc]; simp), if_pos (by rw [List.length_map]; omega)]; rfl
    have p2 : space_Put.f X 3 1 1 99 0 false false = some ([], 2) := by
      have hc : clash (X.map S31.m) ⟨3, 1, 1, 99, 0, false, false⟩ = true := by
        have e : X = mk g 0 :: rowOf g (fun _ => true) 1 15 := hX
        rw [e, List.map_cons, clash_cons, if_neg]
        · exact decide_eq_true (by show ((0 : Nat) : Int) * (4 + g) < 3 + 1; omega)
        · show ¬ ((0 : Nat) : Int) * (4 + g) + 4 ≤ 3
          omega
      show some ((putL (X.map S31.m) ⟨3, 1, 1, 99, 0, false, false⟩).1.map ofMp, (putL (X.map S31.m) ⟨3, 1, 1, 99, 0, false, false⟩).2) = _
      rw [putL, if_pos ⟨hr, by decide⟩, if_pos hc]; rfl
    rw [gatehouselaw05_SpaceFull.l2, if_neg (by omega), p1, Option.bind_some, p2, Option.bind_some, if_pos (by omega), if_pos rfl]
    rfl
  | succ d ih =>
    intro k i hi hk
    obtain ⟨k, rfl⟩ : ∃ m, k = m + 1 := ⟨k - 1, by omega⟩
    have hm := mul_top hg (show i < 16 by omega)
    have e : rd_T31 X (i : Int) = mk g i := by
      rw [rd31 X i (by omega)]
      subst hX
      have : (rowOf g (fun _ => true) 0 16) = (List.range' 0 16).map (mk g) := rfl
      simp only [this, List.getElem_map, List.getElem_range', Nat.zero_add, Nat.one_mul]
    rw [gatehouselaw05_SpaceFull.l2, if_pos (by omega), if_pos (by omega), if_pos (by omega), e, wrap_in (x := (i : Int) + 1) (by omega) (by omega), wrap_in (x := 4 + g) (by omega) (by omega), wrap_in (x := (i : Int) * (4 + g)) (by omega) (by omega), if_pos (show (mk g i).f3 = (i : Int) + 1 from rfl), if_pos (show (mk g i).f0 = (i : Int) * (4 + g) from rfl), show ((i : Int) + 1) = ((i + 1 : Nat) : Int) by omega]
    exact ih k (i + 1) (by omega) (by omega)
theorem full_loop {g : Int} (hg : 0 ≤ g ∧ g ≤ 999) (l0 : List Int) : ∀ (d k i : Nat) (D : Nat → Bool), (leftOf D).length = d → i + d ≤ 16 → d + 20 < k →
    gatehouselaw05_SpaceFull.l1 k l0 g (leftOf D) (rowOf g D 0 16) i = some true := by
  intro d
  induction d with
  | zero =>
    intro k i D hd hi hk
    obtain ⟨k, rfl⟩ : ∃ m, k = m + 1 := ⟨k - 1, by omega⟩
    have hX : rowOf g D 0 16 = rowOf g (fun _ => true) 0 16 := by
      have h0 : leftN D = [] := List.length_eq_zero_iff.1 (by simpa [leftOf] using hd)
      rw [leftN, List.filter_eq_nil_iff] at h0
      unfold rowOf
      congr 1
      exact List.filter_congr fun x hx => by simpa using h0 x hx
    have hl : (rowOf g D 0 16).length = 16 := by rw [hX]; rfl
    rw [gatehouselaw05_SpaceFull.l1, if_neg (by omega), hl]
    exact full_tail hg _ hX 16 k 0 (by omega) (by omega)
  | succ d ih =>
    intro k i D hd hi hk
    obtain ⟨k, rfl⟩ : ∃ m, k = m + 1 := ⟨k - 1, by omega⟩
    -- one of those left
    have one : ∀ (j : Nat) (hj : j < (leftOf D).length) (z : Int), z = (j : Int) → ∀ (u : Int), u = (j : Int) + 1 →
        ((some ([] : List Int)).bind fun y333 => (if z ≤ ((leftOf D).length : Int) then ((some ((leftOf D).take z.toNat : List Int)).bind fun y336 => (if y333.length + y336.length < 17592186044416 then ((some (y333 ++ y336 : List Int)).bind fun y340 => (if 0 ≤ u then (if u ≤ ((leftOf D).length : Int) then ((some ((leftOf D).drop u.toNat : List Int)).bind fun y343 => (if y340.length + y343.length < 17592186044416 then ((space_Put.f (rowOf g D 0 16) (wrap64 ((rd (leftOf D) z) * (wrap64 (4 + g)))) 4 1 (wrap64 ((rd (leftOf D) z) + 1)) 0 false false).bind fun bt350 => (if bt350.2 = 0 then (gatehouselaw05_SpaceFull.l1 k l0 g (y340 ++ y343) bt350.1 (wrap64 ((i : Int) + 1))) else (some false))) else (none))) else (none)) else (none))) else (none))) else (none))) = some true := by
      rintro j hj z rfl u rfl
      obtain ⟨n, hn, hr, hc, hl, hp⟩ := step_row hg D j hj
      have hm := mul_top hg hn
      have ht : ((leftOf D).take j).length ≤ 16 := by rw [List.length_take]; omega
      have hd' : ((leftOf D).drop (j + 1)).length ≤ 16 := by rw [List.length_drop]; omega
      rw [Option.bind_some, if_pos (by omega), Option.bind_some, List.nil_append, Int.toNat_natCast, if_pos (by simp only [List.length_nil]; omega), Option.bind_some, if_pos (by omega), if_pos (by omega), Option.bind_some, show ((j : Int) + 1).toNat = j + 1 by omega, if_pos (by omega), hr, wrap_in (x := 4 + g) (by omega) (by omega), wrap_in (x := (n : Int) * (4 + g)) (by omega) (by omega), wrap_in (x := (n : Int) + 1) (by omega) (by omega), hp, Option.bind_some, if_pos rfl, hc, wrap_in (x := (i : Int) + 1) (by omega) (by omega), show ((i : Int) + 1) = ((i + 1 : Nat) : Int) by omega]
      exact ih k (i + 1) _ (by omega) (by omega) (by omega)
    rw [gatehouselaw05_SpaceFull.l1, if_pos (by omega)]
    by_cases hx : (i : Int) < (l0.length : Int)
    · rw [if_pos hx, if_pos (by omega), u64_in (x := ((leftOf D).length : Int)) (by omega) (by omega), if_neg (by omega)]
      have hw : 0 ≤ IntKind.u64.wrap (rd l0 i) := by
        unfold IntKind.wrap
        simp [IntKind.bits, IntKind.signed]
        omega
      generalize IntKind.u64.wrap (rd l0 i) = q at hw ⊢
      rw [Int.tmod_eq_emod_of_nonneg hw]
      have h1 := Int.emod_nonneg q (show ((leftOf D).length : Int) ≠ 0 by omega)
      have h2 := Int.emod_lt_of_pos q (show (0 : Int) < ((leftOf D).length : Int) by omega)
      generalize q % ((leftOf D).length : Int) = z at h1 h2 ⊢
      rw [wrap_in (x := z) (by omega) (by omega), if_pos h1, if_pos h2, wrap_in (x := z + 1) (by omega) (by omega)]
      exact one z.toNat (by omega) z (by omega) _ (by omega)
    · rw [if_neg hx, if_pos (by omega)]
      exact one 0 (by omega) 0 rfl (wrap64 1) (by rw [wrap_in (by omega) (by omega)]; omega)
theorem full_list (l0 : List Int) (g : Int) : ∀ (d k i : Nat), i + d = 16 → d + 40 < k → gatehouselaw05_SpaceFull.l0 k l0 g ((List.range' 0 i).map fun (i : Nat) => (i : Int)) i = gatehouselaw05_SpaceFull.l1 (k - 1 - d) l0 g (leftOf fun _ => false) (rowOf g (fun _ => false) 0 16) 0 := by
  intro d
  induction d with
  | zero =>
    intro k i hi hk
    obtain ⟨k, rfl⟩ : ∃ m, k = m + 1 := ⟨k - 1, by omega⟩
    obtain rfl : i = 16 := by omega
    rw [gatehouselaw05_SpaceFull.l0, if_neg (by omega)]
    rfl
  | succ d ih =>
    intro k i hi hk
    obtain ⟨k, rfl⟩ : ∃ m, k = m + 1 := ⟨k - 1, by omega⟩
    rw [gatehouselaw05_SpaceFull.l0, if_pos (by omega), if_pos (by simp only [List.length_map, List.length_range']; omega), wrap_in (x := (i : Int) + 1) (by omega) (by omega), show ((i : Int) + 1) = ((i + 1 : Nat) : Int) by omega]
    have : ((List.range' 0 i).map fun (i : Nat) => (i : Int)) ++ [(i : Int)] = (List.range' 0 (i + 1)).map fun (i : Nat) => (i : Int) := by
      rw [List.range'_1_concat, List.map_append]
      simp
    rw [this, ih k (i + 1) (by omega) (by omega)]
    congr 1
    omega
theorem full_f (l0 : List Int) (a1 : Int) : ∃ k, gatehouselaw05_SpaceFull.f k l0 a1 = some true := by
  refine ⟨100, ?_⟩
  unfold gatehouselaw05_SpaceFull.f
  rw [lives_f 100 (by omega), Option.bind_some, if_pos rfl]
  have hg : 0 ≤ wrap64 (Int.tmod (IntKind.u64.wrap a1) 1000) ∧ wrap64 (Int.tmod (IntKind.u64.wrap a1) 1000) ≤ 999 := by
    have hw : 0 ≤ IntKind.u64.wrap a1 := by
      unfold IntKind.wrap
      simp [IntKind.bits, IntKind.signed]
      omega
    rw [Int.tmod_eq_emod_of_nonneg hw, wrap_in (by omega) (by omega)]
    omega
  generalize wrap64 (Int.tmod (IntKind.u64.wrap a1) 1000) = g at hg ⊢
  have := full_list l0 g 16 100 0 (by omega) (by omega)
  refine this.trans ?_
  exact full_loop hg l0 16 _ 0 _ (by rfl) (by omega) (by omega)
end Go.Proofs.YtcgmlcblcioaeaaP
namespace Go.Proofs.Ytcgmlcblcioaeaa.Pure
open Go.RowKit Go.Proofs.YtcgmlcblcioaeaaZ
theorem SpaceFull : gatehouselaw05_SpaceFull.Pure := fun l0 a1 _ _ _ _ => Go.Proofs.YtcgmlcblcioaeaaP.full_f l0 a1
end Go.Proofs.Ytcgmlcblcioaeaa.Pure
