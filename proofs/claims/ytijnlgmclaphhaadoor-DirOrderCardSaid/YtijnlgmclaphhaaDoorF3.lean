import Derived.Test.YtijnlgmclaphhaaDoorF2
namespace Go.Proofs.YtijnlgmclaphhaaDoor
open Go.RowKit

theorem zero105 : ∀ w, (zeroValue 105).run Tryd.prog w = .ok (.agg (Array.replicate 256 (.bool false))) w := (zero_of_info (t := 105) (n := 256) (by kernel_rfl)).1
theorem any_bad : ∀ l : List UInt8, decide (0 ≤ Lib.indexAny l [47, 0]) = l.any badB := by
  intro l
  induction l with
  | nil => rfl
  | cons b l ih =>
    have e : ([47, 0] : List UInt8).contains b = badB b := by
      unfold badB
      simp [List.contains_cons]
      rfl
    have hge := Lib.indexAny_ge [47, 0] l
    rw [Lib.indexAny, List.any_cons, ← ih, e]
    cases badB b
    · simp only [Bool.false_eq_true, if_false, Bool.false_or]
      by_cases h : Lib.indexAny l [47, 0] = -1
      · rw [h]; rfl
      · rw [if_neg (by simpa using h)]
        exact decide_eq_decide.2 (by omega)
    · rfl
theorem containsAny_any (s : ByteArray) (w : World) (hs : s.size ≤ 1000) : Calls Tryd.prog 63 #[.string s, .string ⟨#[47, 0]⟩] w fun e w' => e = .returned (.bool (hasBad s)) ∧ Below w.heap.size w w' := by
  have hc : Calls Tryd.prog 73 #[.string s, .string ⟨#[47, 0]⟩] w fun e w' => ∃ r : Int, e = .returned (.int .i64 r) ∧ decide (0 ≤ r) = hasBad s ∧ Below w.heap.size w w' := by
    by_cases h8 : s.size ≤ 8
    · exact indexAny_short s w h8
    · refine (Tryd.strings_IndexAny_long zero105 s ⟨#[47, 0]⟩ w (by decide) (by omega) (by omega) (by decide) ?_).mono ?_
      · intro j b hj
        have : b ∈ ([47, 0] : List UInt8) := List.mem_of_getElem? hj
        simp at this
        rcases this with rfl | rfl <;> decide
      · rintro e w' ⟨rfl, rfl⟩
        exact ⟨_, rfl, any_bad _, ((Below.refl _ _).alloc (Nat.le_refl _) _).alloc (by simp) _⟩
  go_enter Tryd.func63, Tryd.ntmps63
  go_wp2_with fail
  refine hc.mono ?_
  rintro e w' ⟨r, rfl, hr, hb⟩
  have HR := Lib.hid hr
  clear hr
  go_wp2
  go_ret
  exact ⟨by rw [← HR.out]; rfl, hb⟩
def fitsB (s : ByteArray) : Bool := decide (1 ≤ s.size) && decide (s.size ≤ 32) && s.toList != [46] && s.toList != [46, 46] && !hasBad s
theorem fits_any (s : ByteArray) (w : World) : Calls Tryd.prog 49 #[.string s] w fun e w' => e = .returned (.bool (fitsB s)) ∧ Below w.heap.size w w' := by
  have hf : ∀ b, fitsB s = b → Hid (fitsB s = b) := fun _ h => Lib.hid h
  by_cases h1 : 1 ≤ s.size
  · by_cases h2 : s.size ≤ 32
    · by_cases h3 : s.toList = [46]
      · have E := hf false (by unfold fitsB; rw [h3]; simp)
        rw [E.out]
        clear hf
        go_enter Tryd.func49, Tryd.ntmps49
        go_wp2
        go_ret
        exact ⟨rfl, Below.refl _ _⟩
      · by_cases h4 : s.toList = [46, 46]
        · have E := hf false (by unfold fitsB; rw [h4]; simp)
          rw [E.out]
          clear hf
          go_enter Tryd.func49, Tryd.ntmps49
          go_wp2
          go_ret
          exact ⟨rfl, Below.refl _ _⟩
        · have E := hf (!hasBad s) (by unfold fitsB; rw [decide_eq_true h1, decide_eq_true h2, bne_iff_ne.2 h3, bne_iff_ne.2 h4]; simp)
          rw [E.out]
          clear hf
          go_enter Tryd.func49, Tryd.ntmps49
          go_wp2_with fail
          refine (containsAny_any s _ (by omega)).mono ?_
          rintro e w' ⟨rfl, hb⟩
          go_wp2
          go_ret
          have e3 : (s.toList == [46]) = false := beq_eq_false_iff_ne.2 h3
          have e4 : (s.toList == [46, 46]) = false := beq_eq_false_iff_ne.2 h4
          exact ⟨by simp [e3, e4], hb⟩
    · have E := hf false (by unfold fitsB; rw [decide_eq_false h2]; simp)
      rw [E.out]
      clear hf
      go_enter Tryd.func49, Tryd.ntmps49
      go_wp2
      go_ret
      exact ⟨rfl, Below.refl _ _⟩
  · have E := hf false (by unfold fitsB; rw [decide_eq_false h1]; simp)
    rw [E.out]
    clear hf
    go_enter Tryd.func49, Tryd.ntmps49
    go_wp2
    go_ret
    exact ⟨rfl, Below.refl _ _⟩
end Go.Proofs.YtijnlgmclaphhaaDoor
