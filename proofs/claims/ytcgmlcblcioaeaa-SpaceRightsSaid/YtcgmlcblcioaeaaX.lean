import Derived.Test.YtcgmlcblcioaeaaW
namespace Go.Proofs.Ytcgmlcblcioaeaa
open Go.RowKit

theorem pcells_length (l : List Pc) : (pcells l).length = l.length * 4 := by
  induction l with
  | nil => rfl
  | cons a l ih =>
    have e : pcells (a :: l) = a.cells ++ pcells l := rfl
    rw [e, List.length_append, ih, List.length_cons]
    simp [Pc.cells]; omega
theorem PcsAt.new (w : World) (l : List Pc) (t : TypeId) (n : Nat) (hn : n = l.length) (hm : l.length ≤ maxLen) : PcsAt (w.alloc (.cells (pcells l).toArray t)) (.slice (some ⟨w.heap.size, 0, none⟩) n n) l := by
  subst hn
  refine ⟨some ⟨w.heap.size, 0, none⟩, l.length, w.heap.size, 0, rfl, Nat.le_refl _, hm, fun _ => ⟨rfl, by simp⟩, fun i hi j hj => ?_⟩
  rw [cell_of_row _ w.heap.size _ _ t (0, 0) (heap_alloc_new w _), show 0 + i * 4 + j = i * 4 + j by omega]
  rw [← pcells_at l i hi j hj]
  simp
def M1 : Mp := ⟨2, 1, 1, 7, 3, true, false⟩
def M2 : Mp := ⟨3, 2, 1, 8, 0, false, false⟩
theorem ex1 : spanL ([M1] ++ [M2]) 190 4 0 = (some [⟨1, 7, 254, 2⟩, ⟨1, 8, 0, 2⟩], 0) := by decide +kernel
theorem ex2 : spanL [M1] 130 4 2 = (none, 9) := by decide +kernel

set_option maxRecDepth 100000 in
theorem lives_any (w : World) : Calls Try.prog 9 #[] w fun e w' => e = .returned (.bool true) ∧ Below w.heap.size w w' := by
  go_enter Try.func9, Try.ntmps9
  go_wp2_with fail
  refine (putEnd_any (.slice none 0 0) [] M1 w ⟨none, 0, 0, 0, rfl, Nat.le_refl _, Nat.zero_le _, fun h => absurd h (by simp), fun i hi => absurd hi (by simp)⟩ rfl (by decide +kernel) rfl (by decide)).mono ?_
  rintro e w1 ⟨v1, rfl, hr1, hb1⟩
  simp only [List.nil_append] at hr1
  go_wp2_with fail
  refine (putEnd_any v1 [M1] M2 w1 hr1 (by decide +kernel) (by decide +kernel) (by decide +kernel) (by decide)).mono ?_
  rintro e w2 ⟨v2, rfl, hr2, hb2⟩
  go_wp2_with fail
  refine (span_any v2 _ 190 4 0 w2 hr2 (by omega) (by unfold in64; omega) (by unfold in64; omega)).mono ?_
  rintro e w3 ⟨v3, rfl, hp3, hb3⟩
  rw [ex1] at *
  go_wp2_with fail
  refine (span_any v1 _ 130 4 2 w3 ((hr1.below hb2).below hb3) (by omega) (by unfold in64; omega) (by unfold in64; omega)).mono ?_
  rintro e w4 ⟨v4, rfl, hp4, hb4⟩
  rw [ex2] at *
  have hb := below_through (below_through (below_through hb1 hb2) hb3) hb4
  have hq := (PcsAt.of_own hp3).below hb4
  clear hr1 hr2 hb1 hb2 hb3 hb4 hp3 hp4
  go_wp2_with fail
  refine (samePieces_any _ _ _ [⟨1, 7, 254, 2⟩, ⟨1, 8, 0, 2⟩] _ (hq.below ((Below.refl _ _).alloc (Nat.le_refl _) _)) (PcsAt.new w4 [⟨1, 7, 254, 2⟩, ⟨1, 8, 0, 2⟩] 41 2 rfl (by decide))).mono ?_
  rintro e w5 ⟨rfl, hb5⟩
  have ed : decide (((some [(⟨1, 7, 254, 2⟩ : Pc), ⟨1, 8, 0, 2⟩], (0 : Int)).1.getD []) = [⟨1, 7, 254, 2⟩, ⟨1, 8, 0, 2⟩]) = true := by decide +kernel
  rw [ed]
  go_wp2
  go_ret
  exact ⟨rfl, below_through ((hb.alloc hb.size _)) hb5⟩
end Go.Proofs.Ytcgmlcblcioaeaa
