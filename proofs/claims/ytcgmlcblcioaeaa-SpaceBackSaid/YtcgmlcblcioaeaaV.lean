import Derived.Test.YtcgmlcblcioaeaaU
namespace Go.Proofs.Ytcgmlcblcioaeaa
open Go.RowKit

def Mp.list (m : Mp) : List Value := [.int .i64 m.va, .int .i64 m.pages, .int .i64 m.inn, .int .i64 m.num, .int .i64 m.frm, .bool m.wri, .bool m.run]
def mcells (l : List Mp) : List Value := l.flatMap Mp.list
theorem mcells_at (l : List Mp) : ∀ i (h : i < l.length) j, j < 7 → (mcells l)[i * 7 + j]? = some (l[i].cell j) := by
  induction l with
  | nil => intro i h; simp at h
  | cons a l ih =>
    intro i h j hj
    have e : mcells (a :: l) = a.list ++ mcells l := rfl
    rw [e]
    cases i with
    | zero =>
      rw [List.getElem?_append_left (by simp [Mp.list]; omega)]
      match j, hj with
      | 0, _ => rfl
      | 1, _ => rfl
      | 2, _ => rfl
      | 3, _ => rfl
      | 4, _ => rfl
      | 5, _ => rfl
      | 6, _ => rfl
    | succ i =>
      rw [List.getElem?_append_right (by simp [Mp.list]; omega), show (i + 1) * 7 + j - a.list.length = i * 7 + j by simp [Mp.list]; omega]
      exact ih i (by simpa using h) j hj
theorem mcells_length (l : List Mp) : (mcells l).length = l.length * 7 := by
  induction l with
  | nil => rfl
  | cons a l ih =>
    have e : mcells (a :: l) = a.list ++ mcells l := rfl
    rw [e, List.length_append, ih, List.length_cons]
    simp [Mp.list]; omega
theorem mcells_append (a b : List Mp) : mcells (a ++ b) = mcells a ++ mcells b := by simp [mcells]
theorem mcells_one (l : List Mp) : ∀ u ∈ mcells l, u.oneCell' = true := by
  intro u hu
  simp only [mcells, List.mem_flatMap] at hu
  obtain ⟨m, _, hu⟩ := hu
  simp only [Mp.list, List.mem_cons, List.not_mem_nil, or_false] at hu
  rcases hu with rfl | rfl | rfl | rfl | rfl | rfl | rfl <;> rfl
theorem RowsAt.of_own {w : World} {B : Nat} {v : Value} {l : List Mp} (h : Own w B 31 7 v l.length (mcells l)) : RowsAt w v l := by
  obtain ⟨hl, hn⟩ := h
  rcases hn with ⟨rfl, h0⟩ | ⟨g, off, cap, cur, rfl, hb, hg, hfit, hnc, hcm, hc⟩
  · have e : l = [] := List.eq_nil_of_length_eq_zero h0
    subst e
    exact ⟨none, 0, 0, 0, rfl, Nat.le_refl _, Nat.zero_le _, fun h => absurd h (by simp), fun i hi => absurd hi (by simp)⟩
  · refine ⟨_, cap, g, off, rfl, hnc, Nat.le_trans hnc hcm, fun _ => ⟨rfl, (Array.getElem?_eq_some_iff.1 hg).1⟩, fun i hi j hj => ?_⟩
    have := hc (i * 7 + j) (by omega)
    rw [mcells_at l i hi j hj] at this
    rw [Nat.add_assoc]
    simp [World.cell?, hg, this]
/-- A row that can be read, as what is appended. -/
theorem RowsAt.src {w : World} {v : Value} {l : List Mp} (h : RowsAt w v l) : Src Try.prog 7 22 v l.length (mcells l) w := by
  obtain ⟨oa, cap, b, off, rfl, h1, h2, h3, h4⟩ := h
  cases oa with
  | none =>
    have : l.length = 0 := by
      rcases Nat.eq_zero_or_pos l.length with h | h
      · exact h
      · have := (h3 h).1; cases this
    have e : l = [] := List.eq_nil_of_length_eq_zero this
    subst e
    exact Src.ofNil _ Try.underlying22 cap
  | some a =>
    refine Src.ofSlice _ Try.underlying22 a _ _ _ (mcells_length l) (fun j u hj => ?_) (mcells_one l)
    have hj7 : j < l.length * 7 := by rw [← mcells_length]; exact (List.getElem?_eq_some_iff.1 hj).1
    have hi : j / 7 < l.length := by omega
    have ha : a = ⟨b, off, none⟩ := Option.some.inj (h3 (by omega)).1
    subst ha
    have := h4 (j / 7) hi (j % 7) (by omega)
    have e2 := mcells_at l (j / 7) hi (j % 7) (by omega)
    have e3 : j / 7 * 7 + j % 7 = j := by omega
    rw [e3] at e2
    rw [e2] at hj
    cases hj
    rw [← this, Nat.add_assoc, e3, show (⟨b, off, none⟩ : Addr).add j = ⟨b, off + j, none⟩ by unfold Addr.add; split <;> simp_all]

theorem own_zero (w : World) (e : TypeId) (size : Nat) (o : Array Value) : Own (w.alloc (.cells o e)) w.heap.size e size (.slice (some ⟨w.heap.size, 0, none⟩) 0 0) 0 [] :=
  ⟨by simp, .inr ⟨w.heap.size, 0, 0, o, rfl, Nat.le_refl _, heap_alloc_new w _, by simp, Nat.le_refl _, Nat.zero_le _, fun j hj => by omega⟩⟩
set_option maxRecDepth 100000 in
theorem clone_any (v : Value) (l : List Mp) (w : World) (hl : RowsAt w v l) (hn : l.length ≤ 1000) :
    Calls Try.prog 25 #[v] w fun e w' => ∃ v', e = .returned v' ∧ Own w' w.heap.size 31 7 v' l.length (mcells l) ∧ Below w.heap.size w w' := by
  have hs := fun (w' : World) (hb : Below w.heap.size w w') => (hl.below hb).src
  obtain ⟨oa, cap, b, off, rfl, h1, h2, h3, h4⟩ := hl
  obtain ⟨i0, hi, hz0, hz1, hz2⟩ := info_parts info31
  have HI := Lib.hid (And.intro hi (And.intro hz0 (And.intro hz1 hz2)))
  have HS := Lib.hid hs
  clear hi hz0 hz1 hz2 hs
  go_enter Try.func25, Try.ntmps25
  have hnil : ∀ (oa : Option Addr) (n c : Nat) (w : World), (binOp .eql 22 (.slice oa n c) (.slice none 0 0)).run Try.prog w = .ok (.bool oa.isNone) w := fun oa n c w => by have := Lib.run_eql_slice_nil w 22 31 oa n c 0 0 Try.underlying22; simpa using this
  cases oa with
  | none =>
    have e : l = [] := by
      rcases Nat.eq_zero_or_pos l.length with h | h
      · exact List.eq_nil_of_length_eq_zero h
      · have := (h3 h).1; cases this
    subst e
    go_wp2
    go_ret
    exact ⟨_, rfl, Own.nil _ _ _ _, Below.refl _ _⟩
  | some a =>
    clear h3 h4
    go_wp2_with (at_builtin; go_loud (refine wpList_append_Own rfl (.tmp 5) (.tmp 6) 22 22 rfl w.heap.size 31 i0 (.agg #[.int .i64 0, .int .i64 0, .int .i64 0, .int .i64 0, .int .i64 0, .bool false, .bool false]) 7 48 Try.underlying22 HI.out.1 HI.out.2.1 HI.out.2.2.1 HI.out.2.2.2 rfl _ 0 [] rfl (own_zero w 31 7 _) _ l.length (mcells l) rfl (HS.out _ ((Below.refl _ _).alloc (Nat.le_refl _) _)) (by unfold maxLen; omega) (by omega) (by simp) ?_))
    intro v' w5 hown hg
    have hb : Below w.heap.size w w5 := ((Below.refl _ _).alloc (Nat.le_refl _) _).grown hg (by simp) (fun q hq => by simp [Value.ownBlock] at hq; omega)
    go_wp2
    go_ret
    refine ⟨_, rfl, by simpa using hown, hb⟩
end Go.Proofs.Ytcgmlcblcioaeaa
