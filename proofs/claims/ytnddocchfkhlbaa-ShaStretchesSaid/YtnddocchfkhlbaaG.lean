import Derived.Test.YtnddocchfkhlbaaF
namespace Go.Proofs.Ytnddocchfkhlbaa
open Go.RowKit

theorem str_eq (a b : ByteArray) : (a.toList == b.toList) = decide (a = b) := by
  rw [ByteArray.toList_eq, ByteArray.toList_eq]
  by_cases h : a = b
  · subst h; simp
  · rw [decide_eq_false h]
    simp only [beq_eq_false_iff_ne, ne_eq]
    intro h2
    exact h (ByteArray.ext (Array.toList_inj.1 h2))
set_option maxRecDepth 100000 in
theorem shaNone_any (s : ByteArray) (w : World) : Calls Try.prog 5 #[.string s] w fun e w' => e = .returned (.bool true) ∧ Below w.heap.size w w' := by
  go_enter Try.func5, Try.ntmps5
  go_wp2_with fail
  refine (lives_any w).mono ?_
  rintro e w1 ⟨rfl, hb⟩
  go_wp2_with fail
  refine (add_nil s w1).mono ?_
  rintro e w' ⟨rfl, rfl⟩
  go_wp2_with fail
  refine (sum_nil w1).mono ?_
  rintro e w' ⟨rfl, rfl⟩
  go_wp2_with fail
  refine (len_nil w1).mono ?_
  rintro e w' ⟨rfl, rfl⟩
  go_wp2_with fail
  refine (copy_nil w1).mono ?_
  rintro e w' ⟨rfl, rfl⟩
  go_wp2
  go_ret
  exact ⟨rfl, hb⟩

set_option maxRecDepth 100000 in
theorem shaSame_any (a b : ByteArray) (w : World) (ha : a.size ≤ maxLen) (hb : b.size ≤ maxLen) : Calls Try.prog 6 #[.string a, .string b] w fun e w' => e = .returned (.bool true) ∧ Below w.heap.size w w' := by
  go_enter Try.func6, Try.ntmps6
  go_wp2_with fail
  refine (lives_any w).mono ?_
  rintro e w1 ⟨rfl, hb1⟩
  go_wp2_with fail
  refine (same_any a b w1 ha hb).mono ?_
  rintro e w2 ⟨rfl, hb2⟩
  have e1 : (decide (a = b) == (a.toList == b.toList)) = true := by
    rw [str_eq]; simp
  go_wp2_with fail
  refine (same_any a a w2 ha ha).mono ?_
  rintro e w3 ⟨rfl, hb3⟩
  have e2 : decide (a = a) = true := by simp
  go_wp2
  go_ret
  exact ⟨rfl, below_through (below_through hb1 hb2) hb3⟩
end Go.Proofs.Ytnddocchfkhlbaa
