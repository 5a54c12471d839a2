import Derived.Test.YtcgmlcblcioaeaaA
namespace Go.Proofs.Ytcgmlcblcioaeaa
open Go.RowKit

theorem below_through {w W w' : World} (h : Below w.heap.size w W) (hb : Below W.heap.size W w') : Below w.heap.size w w' := h.trans (hb.mono h.size)
/-- A row of mappings that can be read. -/
def RowsAt (w : World) (v : Value) (l : List Mp) : Prop :=
  ∃ (oa : Option Addr) (cap b off : Nat), v = .slice oa l.length cap ∧ l.length ≤ cap ∧ l.length ≤ maxLen ∧ (0 < l.length → oa = some ⟨b, off, none⟩ ∧ b < w.heap.size) ∧
    ∀ i (h : i < l.length) j, j < 7 → w.cell? ⟨b, off + i * 7 + j, none⟩ = some (l[i].cell j)
theorem RowsAt.below {w w' : World} {v : Value} {l : List Mp} (h : RowsAt w v l) (hb : Below w.heap.size w w') : RowsAt w' v l := by
  obtain ⟨oa, cap, b, off, rfl, h1, h2, h3, h4⟩ := h
  refine ⟨oa, cap, b, off, rfl, h1, h2, fun h0 => ⟨(h3 h0).1, Nat.lt_of_lt_of_le (h3 h0).2 hb.size⟩, fun i hi j hj => ?_⟩
  rw [hb.cell (p := ⟨b, off + i * 7 + j, none⟩) (h3 (by omega)).2]
  exact h4 i hi j hj

def rightFrom (free : Int) : List Mp → Bool
  | [] => true
  | m :: l => m.good && decide (free ≤ m.va) && rightFrom (m.va + m.pages) l
def rightL (l : List Mp) : Bool := rightFrom 0 l && decide (l.length ≤ 16)

theorem good_out {m : Mp} (h : m.good = true) : 1 ≤ m.pages ∧ m.pages ≤ 64 ∧ 0 ≤ m.va ∧ m.va ≤ 67108864 - m.pages ∧ 0 ≤ m.frm ∧ m.frm ≤ 64 - m.pages ∧ idOk m.inn = true ∧ idOk m.num = true := of_decide_eq_true h

def Mp.cells (m : Mp) : Array Value := #[.int .i64 m.va, .int .i64 m.pages, .int .i64 m.inn, .int .i64 m.num, .int .i64 m.frm, .bool m.wri, .bool m.run]
/-- A mapping in a variable of its own. -/
theorem boxed (m : Mp) (wr w1 : World) (t : TypeId) (hb : Below (wr.alloc (.cells m.cells t)).heap.size (wr.alloc (.cells m.cells t)) w1) :
    (∀ j, j < 7 → w1.cell? ⟨wr.heap.size, j, none⟩ = some (m.cell j)) ∧ Below wr.heap.size wr w1 := by
  refine ⟨fun j hj => ?_, ((Below.refl wr.heap.size wr).alloc (Nat.le_refl _) _).trans (hb.mono (by simp))⟩
  rw [hb.cell (p := ⟨wr.heap.size, j, none⟩) (by simp)]
  rw [cell_of_row _ wr.heap.size j m.cells t (0, 0) (heap_alloc_new wr _)]
  match j, hj with
  | 0, _ => rfl
  | 1, _ => rfl
  | 2, _ => rfl
  | 3, _ => rfl
  | 4, _ => rfl
  | 5, _ => rfl
  | 6, _ => rfl
set_option maxRecDepth 100000 in
set_option maxHeartbeats 1000000 in
theorem Right_any (v : Value) (l : List Mp) (w : World) (hl : RowsAt w v l) :
    Calls Try.prog 18 #[v] w fun e w' => e = .returned (.bool (rightL l)) ∧ Below w.heap.size w w' := by
  obtain ⟨oa, cap, b, off, rfl, h1, h2, h3, h4⟩ := hl
  have H3 := Lib.hid h3
  have H4 := Lib.hid h4
  clear h3 h4
  unfold maxLen at h2
  go_enter Try.func18, Try.ntmps18
  go_wp2
  go_loopw [3, 8] (fun fr i wr => ∃ (k : Nat) (free : Int), i = .int .i64 k ∧ fr = .int .i64 free ∧ k ≤ l.length ∧ 0 ≤ free ∧ free ≤ 67108864 ∧ rightFrom 0 l = rightFrom free (l.drop k) ∧ Below w.heap.size w wr) (fun _ i _ => (l.length - (intOf i).toNat))
  case atStart => exact ⟨0, 0, rfl, rfl, by omega, by omega, by omega, rfl, Below.refl _ _⟩
  case round =>
    obtain ⟨k, free, rfl, rfl, hk, hf0, hf1, hr, hbel⟩ := hrel
    by_cases hlt : k < l.length
    · obtain ⟨rfl, hb⟩ := H3.out (by omega)
      have hc : ∀ j, j < 7 → wr.cell? ⟨b, off + k * 7 + j, none⟩ = some ((l[k]'hlt).cell j) := fun j hj => by
        rw [hbel.cell (p := ⟨b, off + k * 7 + j, none⟩) hb]; exact H4.out k hlt j hj
      have c0 : wr.cell? ⟨b, off + k * 7, none⟩ = some ((l[k]'hlt).cell 0) := hc 0 (by omega)
      have c1 := hc 1 (by omega)
      have c2 := hc 2 (by omega)
      have c3 := hc 3 (by omega)
      have c4 := hc 4 (by omega)
      have c5 := hc 5 (by omega)
      have c6 := hc 6 (by omega)
      have hd : l.drop k = (l[k]'hlt) :: l.drop (k + 1) := List.drop_eq_getElem_cons hlt
      rw [hd] at hr
      generalize (l[k]'hlt) = m at *
      simp only [Mp.cell] at c0 c1 c2 c3 c4 c5 c6
      clear hc hd
      go_wp2_with fail
      refine (right_any m _).mono ?_
      rintro e w1 ⟨rfl, hb1⟩
      obtain ⟨hx, hb2⟩ := boxed m wr w1 31 hb1
      have x0 := hx 0 (by omega)
      have x1 := hx 1 (by omega)
      simp only [Mp.cell] at x0 x1
      have hbel1 := below_through hbel hb2
      clear hx hb1 hb2
      cases hg : m.good
      · go_wp2
        go_ret
        have e : rightL l = false := by unfold rightL; rw [hr, rightFrom, hg]; rfl
        exact ⟨by rw [e]; rfl, hbel1⟩
      · obtain ⟨g1, g2, g3, g4, _⟩ := good_out hg
        by_cases hfree : free ≤ m.va
        · go_wp2
          go_roundw
          case rel =>
            refine ⟨k + 1, m.va + m.pages, by go_num, rfl, by omega, by omega, by omega, ?_, hbel1⟩
            rw [hr, rightFrom, hg, decide_eq_true hfree]; rfl
          case measure => simp [intOf]; omega
        · go_wp2
          go_ret
          have e : rightL l = false := by unfold rightL; rw [hr, rightFrom, hg, decide_eq_false (show ¬ free ≤ m.va by omega)]; rfl
          exact ⟨by rw [e]; rfl, hbel1⟩
    · obtain rfl : k = l.length := by omega
      go_wp2
      go_ret
      rw [List.drop_length] at hr
      have e : rightL l = decide (l.length ≤ 16) := by
        unfold rightL; rw [hr]; rfl
      refine ⟨?_, hbel⟩
      rw [e]
      show Ending.returned (Value.bool (decide ((l.length : Int) ≤ 16))) = _
      congr 2
      exact decide_eq_decide.2 (by omega)
end Go.Proofs.Ytcgmlcblcioaeaa
