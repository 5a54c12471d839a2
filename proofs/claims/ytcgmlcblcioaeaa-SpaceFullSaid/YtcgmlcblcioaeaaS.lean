import Derived.Test.YtcgmlcblcioaeaaC
import Derived.Test.YtcgmlcblcioaeaaO
namespace Go.Proofs.Ytcgmlcblcioaeaa
open Go.RowKit

/-! The laws of a right row. -/
theorem right_good {l : List Mp} {f : Int} (h : rightFrom f l = true) : ∀ m ∈ l, m.good = true := by
  induction l generalizing f with
  | nil => intro m hm; cases hm
  | cons a l ih =>
    simp only [rightFrom, Bool.and_eq_true, decide_eq_true_eq] at h
    intro m hm
    rcases List.mem_cons.1 hm with rfl | hm
    · exact h.1.1
    · exact ih h.2 m hm
theorem right_from {l : List Mp} {f : Int} (h : rightFrom f l = true) : ∀ m ∈ l, f ≤ m.va := by
  induction l generalizing f with
  | nil => intro m hm; cases hm
  | cons a l ih =>
    simp only [rightFrom, Bool.and_eq_true, decide_eq_true_eq] at h
    intro m hm
    rcases List.mem_cons.1 hm with rfl | hm
    · exact h.1.2
    · have := ih h.2 m hm
      have := good_out h.1.1
      omega
theorem right_order {l : List Mp} {f : Int} (h : rightFrom f l = true) : ∀ i j (hi : i < l.length) (hj : j < l.length), i < j → (l[i]).va + (l[i]).pages ≤ (l[j]).va := by
  induction l generalizing f with
  | nil => intro i j hi; simp at hi
  | cons a l ih =>
    simp only [rightFrom, Bool.and_eq_true, decide_eq_true_eq] at h
    intro i j hi hj hij
    cases j with
    | zero => omega
    | succ j =>
      cases i with
      | zero => exact right_from h.2 _ (List.getElem_mem (by simpa using hj))
      | succ i => exact ih h.2 i j (by simpa using hi) (by simpa using hj) (by omega)
theorem rightL_from {l : List Mp} (h : rightL l = true) : rightFrom 0 l = true ∧ l.length ≤ 16 := by
  simpa [rightL] using h

/-- The first mapping that ends behind a page. -/
def atI (l : List Mp) (p : Int) : Nat := (l.takeWhile fun m => decide (m.va + m.pages ≤ p)).length
theorem takeWhile_at {α : Type} (q : α → Bool) : ∀ (l : List α) (i : Nat), i ≤ l.length → (∀ k (h : k < l.length), k < i → q (l[k]) = true) → (∀ k (h : k < l.length), i ≤ k → q (l[k]) = false) → (l.takeWhile q).length = i := by
  intro l
  induction l with
  | nil => intro i hi _ _; simp at hi; simp [hi]
  | cons a l ih =>
    intro i hi h1 h2
    cases i with
    | zero =>
      have := h2 0 (by simp) (by omega)
      simp at this
      simp [List.takeWhile, this]
    | succ i =>
      have h0 := h1 0 (by simp) (by omega)
      simp at h0
      have := ih i (by simpa using hi) (fun k h hk => h1 (k + 1) (by simpa using h) (by omega)) (fun k h hk => h2 (k + 1) (by simpa using h) (by omega))
      simp [List.takeWhile, h0, this]
theorem cmp_lt (x y : Int) : cmpI x y < 0 ↔ x < y := by
  unfold cmpI; split
  · simp_all
  · split <;> simp_all
theorem cmp_eq (x y : Int) : cmpI x y = 0 ↔ x = y := by
  unfold cmpI; split
  · simp; omega
  · split
    · simp; omega
    · simp; omega

theorem enter33 : ∀ args w, (callFunc 33 args).run Try.prog w = .ok (.enter 33 args) w := by
  intro args w
  have h1 : (Try.f33.name == "runtime.NumGoroutine") = false := by kernel_rfl
  have h2 : Try.f33.body.isNone = false := by kernel_rfl
  simp only [callFunc, Sem.run_bind, run_program, Result.andThen_ok, Try.func33, h1, h2]
  rfl
set_option maxRecDepth 100000 in
theorem at_any (v : Value) (l : List Mp) (p : Int) (w : World) (hl : RowsAt w v l) (hr : rightL l = true) (hp : -1000000000 ≤ p ∧ p ≤ 1000000000) :
    Calls Try.prog 21 #[v, .int .i64 p] w fun e w' => e = .returned (.int .i64 (atI l p)) ∧ Below w.heap.size w w' := by
  obtain ⟨hf, hn⟩ := rightL_from hr
  go_enter Try.func21, Try.ntmps21
  go_wp2_with fail
  refine (search_any 33 (fun m => cmpI (m.va + m.pages) (p + 1)) v l p w hl (by omega) enter33 (fun m hm w => at1_any m p w (right_good hf m hm) hp) (fun i j hi hj hij => by
    rw [cmp_lt, cmp_lt]
    intro h
    rcases Nat.lt_or_ge i j with h' | h'
    · have := right_order hf i j hi hj h'
      have := good_out (right_good hf _ (List.getElem_mem hj))
      omega
    · obtain rfl : i = j := by omega
      exact h)).mono ?_
  rintro e w1 ⟨i, hi, hlo, hhi, rfl, hb⟩
  have e1 : atI l p = i := takeWhile_at _ l i hi (fun k h hk => by have := (cmp_lt _ _).1 (hlo k h hk); simp; omega) (fun k h hk => by
    have := hhi k h hk
    have h2 : ¬ ((l[k]).va + (l[k]).pages < p + 1) := fun h3 => absurd ((cmp_lt _ _).2 h3) (by omega)
    simp; omega)
  clear hlo hhi
  generalize (decide (∃ h : i < l.length, cmpI ((l[i]).va + (l[i]).pages) (p + 1) = 0)) = bb
  go_wp2
  go_ret
  exact ⟨by rw [e1]; rfl, hb⟩
theorem may_any (m : Mp) (need : Int) (w : World) : Calls Try.prog 22 #[m.val, .int .i64 need] w fun e w' => e = .returned (.bool (if need = 1 then m.wri else if need = 2 then m.run else true)) ∧ Below w.heap.size w w' := by
  unfold Mp.val
  go_enter Try.func22, Try.ntmps22
  by_cases h1 : need = 1
  · subst h1
    go_wp2
    go_ret
    exact ⟨rfl, (Below.refl _ _).alloc (Nat.le_refl _) _⟩
  · by_cases h2 : need = 2
    · subst h2
      go_wp2
      go_ret
      exact ⟨rfl, (Below.refl _ _).alloc (Nat.le_refl _) _⟩
    · rw [if_neg h1, if_neg h2]
      go_wp2
      go_ret
      exact ⟨rfl, (Below.refl _ _).alloc (Nat.le_refl _) _⟩
end Go.Proofs.Ytcgmlcblcioaeaa
