import Derived.Test.YtcgmlcblcioaeaaT0
namespace Go.Proofs.Ytcgmlcblcioaeaa
open Go.RowKit

def Mp.list (m : Mp) : List Value := [.int .i64 m.va, .int .i64 m.pages, .int .i64 m.inn, .int .i64 m.num, .int .i64 m.frm, .bool m.wri, .bool m.run]
def mcells (l : List Mp) : List Value := l.flatMap Mp.list
theorem mcells_at (l : List Mp) : ∀ i (h : i < l.length) j, j < 7 → (mcells l)[i * 7 + j]? = some (l[i].cell j) := by
  induction l with
  | nil => intro i h; simp at h
  | cons a l ih =>
    intro i h j hj
    have e : mcells (a :: l) = a.list ++ mcells l := rfl
    rw [e]
    cases i with
    | zero =>
      rw [List.getElem?_append_left (by simp [Mp.list]; omega)]
      match j, hj with
      | 0, _ => rfl
      | 1, _ => rfl
      | 2, _ => rfl
      | 3, _ => rfl
      | 4, _ => rfl
      | 5, _ => rfl
      | 6, _ => rfl
    | succ i =>
      rw [List.getElem?_append_right (by simp [Mp.list]; omega), show (i + 1) * 7 + j - a.list.length = i * 7 + j by simp [Mp.list]; omega]
      exact ih i (by simpa using h) j hj
theorem mcells_length (l : List Mp) : (mcells l).length = l.length * 7 := by
  induction l with
  | nil => rfl
  | cons a l ih =>
    have e : mcells (a :: l) = a.list ++ mcells l := rfl
    rw [e, List.length_append, ih, List.length_cons]
    simp [Mp.list]; omega
theorem mcells_append (a b : List Mp) : mcells (a ++ b) = mcells a ++ mcells b := by simp [mcells]
theorem mcells_one (l : List Mp) : ∀ u ∈ mcells l, u.oneCell' = true := by
  intro u hu
  simp only [mcells, List.mem_flatMap] at hu
  obtain ⟨m, _, hu⟩ := hu
  simp only [Mp.list, List.mem_cons, List.not_mem_nil, or_false] at hu
  rcases hu with rfl | rfl | rfl | rfl | rfl | rfl | rfl <;> rfl
theorem RowsAt.of_own {w : World} {B : Nat} {v : Value} {l : List Mp} (h : Own w B 31 7 v l.length (mcells l)) : RowsAt w v l := by
  obtain ⟨hl, hn⟩ := h
  rcases hn with ⟨rfl, h0⟩ | ⟨g, off, cap, cur, rfl, hb, hg, hfit, hnc, hcm, hc⟩
  · have e : l = [] := List.eq_nil_of_length_eq_zero h0
    subst e
    exact ⟨none, 0, 0, 0, rfl, Nat.le_refl _, Nat.zero_le _, fun h => absurd h (by simp), fun i hi => absurd hi (by simp)⟩
  · refine ⟨_, cap, g, off, rfl, hnc, Nat.le_trans hnc hcm, fun _ => ⟨rfl, (Array.getElem?_eq_some_iff.1 hg).1⟩, fun i hi j hj => ?_⟩
    have := hc (i * 7 + j) (by omega)
    rw [mcells_at l i hi j hj] at this
    rw [Nat.add_assoc]
    simp [World.cell?, hg, this]
/-- A row that can be read, as what is appended. -/
theorem RowsAt.src {w : World} {v : Value} {l : List Mp} (h : RowsAt w v l) : Src Try.prog 7 22 v l.length (mcells l) w := by
  obtain ⟨oa, cap, b, off, rfl, h1, h2, h3, h4⟩ := h
  cases oa with
  | none =>
    have : l.length = 0 := by
      rcases Nat.eq_zero_or_pos l.length with h | h
      · exact h
      · have := (h3 h).1; cases this
    have e : l = [] := List.eq_nil_of_length_eq_zero this
    subst e
    exact Src.ofNil _ Try.underlying22 cap
  | some a =>
    refine Src.ofSlice _ Try.underlying22 a _ _ _ (mcells_length l) (fun j u hj => ?_) (mcells_one l)
    have hj7 : j < l.length * 7 := by rw [← mcells_length]; exact (List.getElem?_eq_some_iff.1 hj).1
    have hi : j / 7 < l.length := by omega
    have ha : a = ⟨b, off, none⟩ := Option.some.inj (h3 (by omega)).1
    subst ha
    have := h4 (j / 7) hi (j % 7) (by omega)
    have e2 := mcells_at l (j / 7) hi (j % 7) (by omega)
    have e3 : j / 7 * 7 + j % 7 = j := by omega
    rw [e3] at e2
    rw [e2] at hj
    cases hj
    rw [← this, Nat.add_assoc, e3, show (⟨b, off, none⟩ : Addr).add j = ⟨b, off + j, none⟩ by unfold Addr.add; split <;> simp_all]

end Go.Proofs.Ytcgmlcblcioaeaa
