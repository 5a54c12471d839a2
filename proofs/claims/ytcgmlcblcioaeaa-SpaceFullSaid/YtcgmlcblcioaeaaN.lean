import Derived.Test.YtcgmlcblcioaeaaI
import Derived.Test.YtcgmlcblcioaeaaV
namespace Go.Proofs.Ytcgmlcblcioaeaa
open Go.RowKit

def clash (l : List Mp) (m : Mp) : Bool := match l[atI l m.va]? with
  | some x => decide (x.va < m.va + m.pages)
  | none => false
def insL (l : List Mp) (m : Mp) : List Mp := l.take (atI l m.va) ++ m :: l.drop (atI l m.va)
def putL (l : List Mp) (m : Mp) : List Mp × Int :=
  if rightL l = true ∧ m.good = true then
    (if clash l m = true then ([], 2) else if 16 ≤ l.length then ([], 7) else (insL l m, 0))
  else ([], 1)
theorem atI_le (l : List Mp) (p : Int) : atI l p ≤ l.length := by
  unfold atI
  induction l with
  | nil => simp
  | cons a l ih =>
    simp only [List.takeWhile_cons]
    split
    · simp only [List.length_cons]; omega
    · simp
theorem mcells_take (l : List Mp) (i : Nat) : mcells (l.take i) = (mcells l).take (i * 7) := by
  induction l generalizing i with
  | nil => simp [mcells]
  | cons a l ih =>
    cases i with
    | zero => simp [mcells]
    | succ i =>
      have e : ∀ l : List Mp, mcells (a :: l) = a.list ++ mcells l := fun _ => rfl
      rw [List.take_succ_cons, e, e, ih, show (i + 1) * 7 = a.list.length + i * 7 by simp [Mp.list]; omega, List.take_length_add_append]
theorem mcells_drop (l : List Mp) (i : Nat) : mcells (l.drop i) = (mcells l).drop (i * 7) := by
  induction l generalizing i with
  | nil => simp [mcells]
  | cons a l ih =>
    cases i with
    | zero => simp
    | succ i =>
      have e : ∀ l : List Mp, mcells (a :: l) = a.list ++ mcells l := fun _ => rfl
      rw [List.drop_succ_cons, e, ih, show (i + 1) * 7 = a.list.length + i * 7 by simp [Mp.list]; omega, List.drop_length_add_append]
theorem mlist_one (m : Mp) : ∀ u ∈ m.list, u.oneCell' = true := by
  have := mcells_one [m]
  simpa [mcells] using this
theorem mcells_ins (l : List Mp) (m : Mp) (i : Nat) : mcells (l.take i ++ m :: l.drop i) = (mcells l).take (i * 7) ++ m.list ++ (mcells l).drop (i * 7) := by
  have e : mcells (m :: l.drop i) = m.list ++ mcells (l.drop i) := rfl
  rw [mcells_append, e, mcells_take, mcells_drop, List.append_assoc]
theorem row_weaken {w : World} {B B' : Nat} {e : TypeId} {size : Nat} {v : Value} {n : Nat} {xs : List Value} (h : w.ownsRow B e size v n xs) (hb : B' ≤ B) : w.ownsRow B' e size v n xs := by
  refine ⟨h.1, ?_⟩
  rcases h.2 with hn | ⟨g, cap, cur, rfl, h1, rest⟩
  · exact .inl hn
  · exact .inr ⟨g, cap, cur, rfl, by omega, rest⟩
theorem row_nil (w : World) (B : Nat) : w.ownsRow B 31 7 (.slice none 0 0) ([] : List Mp).length (mcells []) := ⟨rfl, .inl ⟨rfl, rfl⟩⟩
theorem mlist_cells (m : Mp) : m.cells = m.list.toArray := rfl
theorem box_heap (w : World) (o : Array Value) (t : TypeId) : (w.alloc (.cells o t)).heap[w.heap.size]? = some (.cells o t (0, 0)) := heap_alloc_new w _
theorem box_map (w : World) (m : Mp) (t : TypeId) : (w.alloc (.cells #[.int .i64 m.va, .int .i64 m.pages, .int .i64 m.inn, .int .i64 m.num, .int .i64 m.frm, .bool m.wri, .bool m.run] t)).heap[w.heap.size]? = some (.cells m.list.toArray t (0, 0)) := heap_alloc_new w _
/-- A mapping in a variable. -/
def BoxAt (w : World) (g : Nat) (m : Mp) : Prop := g < w.heap.size ∧ ∀ j, j < 7 → w.cell? ⟨g, j, none⟩ = some (m.cell j)
theorem BoxAt.below {w w' : World} {g : Nat} {m : Mp} (h : BoxAt w g m) (hb : Below w.heap.size w w') : BoxAt w' g m :=
  ⟨Nat.lt_of_lt_of_le h.1 hb.size, fun j hj => by rw [hb.cell (p := ⟨g, j, none⟩) h.1]; exact h.2 j hj⟩
theorem BoxAt.new (w : World) (m : Mp) (t : TypeId) : BoxAt (w.alloc (.cells m.cells t)) w.heap.size m :=
  ⟨by simp, (boxed m w _ t (Below.refl _ _)).1⟩
theorem BoxAt.cells {m : Mp} {wr : World} {g : Nat} (h : BoxAt wr g m) :
    wr.cell? ⟨g, 0, none⟩ = some (.int .i64 m.va) ∧ wr.cell? ⟨g, 1, none⟩ = some (.int .i64 m.pages) ∧ wr.cell? ⟨g, 2, none⟩ = some (.int .i64 m.inn) ∧
    wr.cell? ⟨g, 3, none⟩ = some (.int .i64 m.num) ∧ wr.cell? ⟨g, 4, none⟩ = some (.int .i64 m.frm) ∧ wr.cell? ⟨g, 5, none⟩ = some (.bool m.wri) ∧ wr.cell? ⟨g, 6, none⟩ = some (.bool m.run) :=
  ⟨h.2 0 (by omega), h.2 1 (by omega), h.2 2 (by omega), h.2 3 (by omega), h.2 4 (by omega), h.2 5 (by omega), h.2 6 (by omega)⟩
theorem putL_no {l : List Mp} {m : Mp} (h : ¬ (rightL l = true ∧ m.good = true)) : putL l m = ([], 1) := by unfold putL; rw [if_neg h]
theorem putL_yes {l : List Mp} {m : Mp} (hr : rightL l = true) (hm : m.good = true) : putL l m = if clash l m = true then ([], 2) else if 16 ≤ l.length then ([], 7) else (insL l m, 0) := by unfold putL; rw [if_pos ⟨hr, hm⟩]
theorem slice_of_row {w : World} {B : Nat} {e : TypeId} {size : Nat} {v : Value} {n : Nat} {xs : List Value} (h : w.ownsRow B e size v n xs) : ∃ oa cap, v = .slice oa n cap ∧ w.ownsRow B e size (.slice oa n cap) n xs := by
  rcases h.2 with ⟨rfl, rfl⟩ | ⟨g, cap, cur, rfl, rest⟩
  · exact ⟨none, 0, rfl, h⟩
  · exact ⟨_, cap, rfl, h⟩
theorem row_all {w : World} {B B' : Nat} {e : TypeId} {size : Nat} {v : Value} {n : Nat} {xs : List Value} (h : w.ownsRow B e size v n xs) (hb : B' ≤ B) : ∀ W, Below w.heap.size w W → W.ownsRow B' e size v n xs :=
  fun _ hW => row_weaken (row_below h hW) hb
theorem size_alloc' (w : World) (o : Obj) : (w.alloc o).heap.size = w.heap.size + 1 := by simp
theorem size_drew' (w : World) : w.drew.heap.size = w.heap.size := rfl
/-- What is drawn or made beside. -/
theorem bel_steps (W : World) : Below W.heap.size W W ∧ Below W.heap.size W W.drew ∧ (∀ o, Below W.heap.size W (W.alloc o)) ∧ (∀ o, Below W.heap.size W (W.drew.alloc o)) ∧ (∀ o, Below W.heap.size W (W.alloc o).drew) :=
  ⟨Below.refl _ _, (Below.refl _ _).drew, fun _ => (Below.refl _ _).alloc (Nat.le_refl _) _, fun _ => (Below.refl _ _).drew.alloc (Nat.le_refl _) _, fun _ => ((Below.refl _ _).alloc (Nat.le_refl _) _).drew⟩

set_option maxRecDepth 100000 in
set_option maxHeartbeats 4000000 in
theorem put_any (v : Value) (l : List Mp) (m : Mp) (w : World) (hl : RowsAt w v l) :
    Calls Try.prog 12 #[v, m.val] w fun e w' => ∃ v', e = .returned (.tuple #[v', .int .i64 (putL l m).2]) ∧ w'.ownsRow w.heap.size 31 7 v' (putL l m).1.length (mcells (putL l m).1) ∧ Below w.heap.size w w' := by
  obtain ⟨oa, cap, rfl, hoa⟩ : ∃ oa cap, v = .slice oa l.length cap ∧ (oa = none → l.length = 0) := by
    obtain ⟨oa, cap, _, _, rfl, _, _, h3, _⟩ := hl
    refine ⟨oa, cap, rfl, fun h => ?_⟩
    rcases Nat.eq_zero_or_pos l.length with h0 | h0
    · exact h0
    · have := (h3 h0).1; rw [h] at this; cases this
  unfold Mp.val
  have hb0 : Below w.heap.size w (w.alloc (.cells m.cells 31)) := (Below.refl _ _).alloc (Nat.le_refl _) _
  go_enter Try.func12, Try.ntmps12
  go_wp2_with fail
  refine (Right_any _ l _ (hl.below hb0)).mono ?_
  rintro e w1 ⟨rfl, hb1⟩
  have hx := (BoxAt.new w m 31).below hb1
  have hb := below_through hb0 hb1
  obtain ⟨c0, c1, c2, c3, c4, c5, c6⟩ := hx.cells
  cases hr : rightL l
  · have HE := Lib.hid (putL_no (l := l) (m := m) (fun h => by rw [hr] at h; cases h.1))
    go_wp2
    go_ret2
    rw [HE.out]
    exact ⟨_, rfl, row_nil _ _, hb⟩
  · go_wp2_with fail
    refine (right_any m w1).mono ?_
    rintro e w2 ⟨rfl, hb2⟩
    have hb3 := below_through hb hb2
    clear c0 c1 c2 c3 c4 c5 c6
    have hx2 := hx.below hb2
    obtain ⟨c0, c1, c2, c3, c4, c5, c6⟩ := hx2.cells
    cases hm : m.good
    · have HE := Lib.hid (putL_no (l := l) (m := m) (fun h => by rw [hm] at h; cases h.2))
      go_wp2
      go_ret2
      rw [HE.out]
      exact ⟨_, rfl, row_nil _ _, hb3⟩
    · obtain ⟨g1, g2, g3, g4, _⟩ := good_out hm
      go_wp2_with fail
      refine (at_any _ l m.va w2 (hl.below hb3) hr (by omega)).mono ?_
      rintro e w4 ⟨rfl, hb4⟩
      have hb5 := below_through hb3 hb4
      have HE := Lib.hid (putL_yes hr hm)
      clear c0 c1 c2 c3 c4 c5 c6
      have hx4 := hx2.below hb4
      obtain ⟨c0, c1, c2, c3, c4, c5, c6⟩ := hx4.cells
      have HL := Lib.hid (fun (w' : World) (hb : Below w.heap.size w w') => hl.below hb)
      have hA := atI_le l m.va
      have hl16 := (rightL_from hr).2
      have HCL : Hid (clash l m = match l[atI l m.va]? with | some x => decide (x.va < m.va + m.pages) | none => false) := rfl
      have HIN : Hid (insL l m = l.take (atI l m.va) ++ m :: l.drop (atI l m.va)) := rfl
      generalize hA0 : atI l m.va = A at *
      clear hA0
      obtain ⟨_, _, b, off, hv, h1, h2, h3, h4⟩ := hl
      cases hv
      have H3 := Lib.hid h3
      have H4 := Lib.hid h4
      clear h3 h4 hx hx2 hb hb0 hb1 hb2 hb3 hb4
      have hwi : -9223372036854775808 ≤ m.va + m.pages ∧ m.va + m.pages ≤ 9223372036854775807 := by omega
      by_cases hlt : A < l.length
      · obtain ⟨rfl, hbb⟩ := H3.out (by omega)
        obtain ⟨d0, d1, d2, d3, d4, d5, d6⟩ := RowsAt.cells H4 hb5 hbb A hlt
        have hcl : clash l m = decide ((l[A]'hlt).va < m.va + m.pages) := by rw [HCL.out, List.getElem?_eq_getElem hlt]
        have HC2 := Lib.hid hcl
        clear hcl
        have hlt' : (A : Int) < (l.length : Int) := by omega
        generalize (l[A]'hlt).va = X at d0 HC2
        by_cases hX : X < m.va + m.pages
        · go_wp2
          go_quiet (fail)
          go_wp2
          go_ret2
          have : clash l m = true := by rw [HC2.out]; exact decide_eq_true hX
          rw [HE.out, if_pos this]
          exact ⟨_, rfl, row_nil _ _, ⟨hb5.os, hb5.tape, hb5.output, hb5.size, hb5.block⟩⟩
        · have hno : ¬ clash l m = true := by rw [HC2.out, decide_eq_false hX]; simp
          have HNO := Lib.hid hno
          clear hno
          by_cases h16 : 16 ≤ l.length
          · go_wp2
            go_quiet (fail)
            go_wp2
            go_ret2
            rw [HE.out, if_neg HNO.out, if_pos h16]
            exact ⟨_, rfl, row_nil _ _, ⟨hb5.os, hb5.tape, hb5.output, hb5.size, hb5.block⟩⟩
          · go_wp2
            go_quiet (fail)
            have HEE : Hid (putL l m = (l.take A ++ m :: l.drop A, 0)) := by show _ = _; rw [HE.out, if_neg HNO.out, if_neg h16, HIN.out]
            obtain ⟨W, hW⟩ : ∃ W : World, W = w4.drewN nq := ⟨_, rfl⟩
            rw [← hW]
            have hbW : Below w.heap.size w W := by subst hW; exact ⟨hb5.os, hb5.tape, hb5.output, hb5.size, hb5.block⟩
            have hxW : BoxAt W w.heap.size m := by subst hW; exact hx4
            clear hx4 hb5 hW c0 c1 c2 c3 c4 c5 c6
            obtain ⟨c0, c1, c2, c3, c4, c5, c6⟩ := hxW.cells
            obtain ⟨p0, p1, p2, p3, p4⟩ := bel_steps W
            go_wp2_with fail
            go_region_with (first
              | (go_at_call 25; refine (clone_row _ l.length cap (mcells l) _ (fun w' hb' => (HL.out w' (hbW.trans ((Below.trans (show Below W.heap.size W _ by with_reducible first | exact p0 | exact p1 | exact p2 _ | exact p3 _ | exact p4 _) (hb'.mono (by with_reducible first | exact p0.size | exact p1.size | exact (p2 _).size | exact (p3 _).size | exact (p4 _).size))).mono hbW.size))).src) (fun h => by cases h) (by omega)).mono ?_; rintro e w5 ⟨v', rfl, hown0, hb'⟩; have h5 : Below W.heap.size W w5 := below_through (by with_reducible first | exact p0 | exact p1 | exact p2 _ | exact p3 _ | exact p4 _) hb'; have hx5 := hxW.below h5; obtain ⟨e0, e1, e2, e3, e4, e5, e6⟩ := hx5.cells; obtain ⟨oa', cap', rfl, hown1⟩ := slice_of_row hown0; have hownU := row_all hown1 (B' := W.heap.size) (by with_reducible first | exact p0.size | exact p1.size | exact (p2 _).size | exact (p3 _).size | exact (p4 _).size); obtain ⟨q0, q1, q2, q3, q4⟩ := bel_steps w5)
              | (go_at_call 24; refine (insert_row _ l.length A _ (mcells l) m.list _ W.heap.size ?a1 (mcells_one l) ?a2 rfl (mlist_one m) ?a3 ?a4 ?a5 ?a6).mono ?_; (case a1 => exact hownU _ (by with_reducible first | exact q0 | exact q1 | exact q2 _ | exact q3 _ | exact q4 _)); (case a2 => first | with_reducible exact box_map w5 m 31 | with_reducible exact (hb'.block _ (by simp)).trans (box_map W m 31) | with_reducible exact (hb'.block _ (by simp)).trans (box_map W.drew m 31) | (rw [hb'.block W.heap.size (by simp)]; exact box_map W m 31)); (case a3 => intro k hk; have hz := (row_block hown1 k hk).1; have hz2 := (row_block hown1 k hk).2; (try simp only [size_alloc', size_drew'] at hz); omega); (case a4 => omega); (case a5 => omega); (case a6 => have hs5 := h5.size; (try simp only [size_alloc', size_drew']); omega); rintro e w6 ⟨v6, rfl, hown6, hb6⟩))
            all_goals
              have h6 : Below W.heap.size W w6 := Below.trans (by with_reducible first | exact h5 | exact h5.alloc h5.size _ | exact h5.drew | exact (h5.alloc h5.size _).drew | exact h5.drew.alloc h5.size _) hb6
              rw [← mcells_ins] at hown6
              clear hb' hb6 hown0 hown1 h5 hx5 e0 e1 e2 e3 e4 e5 e6 c0 c1 c2 c3 c4 c5 c6
              go_wp2
              go_ret2
              rw [HEE.out]
              exact ⟨v6, rfl, by rw [show (l.take A ++ m :: l.drop A, (0 : Int)).1.length = l.length + 1 by first | (simp; done) | (simp; omega)]; exact row_weaken hown6 hbW.size, hbW.trans (h6.mono hbW.size)⟩
      · obtain rfl : A = l.length := by omega
        have hcl : ¬ clash l m = true := by rw [HCL.out, List.getElem?_eq_none (by omega)]; simp
        have HNO := Lib.hid hcl
        clear hcl
        have hlt' : ¬ ((l.length : Int) < (l.length : Int)) := by omega
        by_cases h16 : 16 ≤ l.length
        · go_wp2
          go_quiet (fail)
          go_wp2
          go_ret2
          rw [HE.out, if_neg HNO.out, if_pos h16]
          exact ⟨_, rfl, row_nil _ _, ⟨hb5.os, hb5.tape, hb5.output, hb5.size, hb5.block⟩⟩
        · go_wp2
          go_quiet (fail)
          have HEE : Hid (putL l m = (l.take l.length ++ m :: l.drop l.length, 0)) := by show _ = _; rw [HE.out, if_neg HNO.out, if_neg h16, HIN.out]
          obtain ⟨W, hW⟩ : ∃ W : World, W = w4.drewN nq := ⟨_, rfl⟩
          rw [← hW]
          have hbW : Below w.heap.size w W := by subst hW; exact ⟨hb5.os, hb5.tape, hb5.output, hb5.size, hb5.block⟩
          have hxW : BoxAt W w.heap.size m := by subst hW; exact hx4
          clear hx4 hb5 hW c0 c1 c2 c3 c4 c5 c6
          obtain ⟨c0, c1, c2, c3, c4, c5, c6⟩ := hxW.cells
          obtain ⟨p0, p1, p2, p3, p4⟩ := bel_steps W
          go_wp2_with fail
          go_region_with (first
            | (go_at_call 25; refine (clone_row _ l.length cap (mcells l) _ (fun w' hb' => (HL.out w' (hbW.trans ((Below.trans (show Below W.heap.size W _ by with_reducible first | exact p0 | exact p1 | exact p2 _ | exact p3 _ | exact p4 _) (hb'.mono (by with_reducible first | exact p0.size | exact p1.size | exact (p2 _).size | exact (p3 _).size | exact (p4 _).size))).mono hbW.size))).src) hoa (by omega)).mono ?_; rintro e w5 ⟨v', rfl, hown0, hb'⟩; have h5 : Below W.heap.size W w5 := below_through (by with_reducible first | exact p0 | exact p1 | exact p2 _ | exact p3 _ | exact p4 _) hb'; have hx5 := hxW.below h5; obtain ⟨e0, e1, e2, e3, e4, e5, e6⟩ := hx5.cells; obtain ⟨oa', cap', rfl, hown1⟩ := slice_of_row hown0; have hownU := row_all hown1 (B' := W.heap.size) (by with_reducible first | exact p0.size | exact p1.size | exact (p2 _).size | exact (p3 _).size | exact (p4 _).size); obtain ⟨q0, q1, q2, q3, q4⟩ := bel_steps w5)
            | (go_at_call 24; refine (insert_row _ l.length l.length _ (mcells l) m.list _ W.heap.size ?a1 (mcells_one l) ?a2 rfl (mlist_one m) ?a3 ?a4 ?a5 ?a6).mono ?_; (case a1 => exact hownU _ (by with_reducible first | exact q0 | exact q1 | exact q2 _ | exact q3 _ | exact q4 _)); (case a2 => first | with_reducible exact box_map w5 m 31 | with_reducible exact (hb'.block _ (by simp)).trans (box_map W m 31) | with_reducible exact (hb'.block _ (by simp)).trans (box_map W.drew m 31) | (rw [hb'.block W.heap.size (by simp)]; exact box_map W m 31)); (case a3 => intro k hk; have hz := (row_block hown1 k hk).1; have hz2 := (row_block hown1 k hk).2; (try simp only [size_alloc', size_drew'] at hz); omega); (case a4 => omega); (case a5 => omega); (case a6 => have hs5 := h5.size; (try simp only [size_alloc', size_drew']); omega); rintro e w6 ⟨v6, rfl, hown6, hb6⟩))
          all_goals
            have h6 : Below W.heap.size W w6 := Below.trans (by with_reducible first | exact h5 | exact h5.alloc h5.size _ | exact h5.drew | exact (h5.alloc h5.size _).drew | exact h5.drew.alloc h5.size _) hb6
            rw [← mcells_ins] at hown6
            clear hb' hb6 hown0 hown1 h5 hx5 e0 e1 e2 e3 e4 e5 e6 c0 c1 c2 c3 c4 c5 c6
            go_wp2
            go_ret2
            rw [HEE.out]
            exact ⟨v6, rfl, by rw [show (l.take l.length ++ m :: l.drop l.length, (0 : Int)).1.length = l.length + 1 by first | (simp; done) | (simp; omega)]; exact row_weaken hown6 hbW.size, hbW.trans (h6.mono hbW.size)⟩
end Go.Proofs.Ytcgmlcblcioaeaa
