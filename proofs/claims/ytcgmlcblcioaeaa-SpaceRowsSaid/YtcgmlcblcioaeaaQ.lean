import Derived.Test.YtcgmlcblcioaeaaA
import Derived.Test.YtcgmlcblcioaeaaB
import Derived.ProofKit
import Derived.SizedLaws
import Derived.Deep.Slices
namespace Go.Proofs.Ytcgmlcblcioaeaa
open Go.ChangeShapes Go.WideShapes Go.ChangeAt Go.RowKit

theorem cells31 : Try.prog.cellsOf 31 = 7 := by kernel_rfl
theorem cells3 : Try.prog.cellsOf 3 = 1 := by kernel_rfl
theorem cells4 : Try.prog.cellsOf 4 = 1 := by kernel_rfl
theorem str31 : Try.prog.underlying 31 = some (.struct (Try.prog.fieldsOf 31)) := by kernel_rfl
theorem fields31 : ((Try.prog.fieldsOf 31).toList.map fun f => (f.type, f.offset)) = [(3, 0), (3, 1), (3, 2), (3, 3), (3, 4), (4, 5), (4, 6)] := by kernel_rfl
theorem cell_lt {w : World} {a : Addr} {v : Value} (h : w.cell? a = some v) : a.block < w.heap.size := by
  rcases Nat.lt_or_ge a.block w.heap.size with h1 | h1
  · exact h1
  · have : w.heap[a.block]? = none := by simp [h1]
    simp [World.cell?, this] at h
theorem add_none (b off j : Nat) : (⟨b, off, none⟩ : Addr).add j = ⟨b, off + j, none⟩ := by unfold Addr.add; split <;> simp_all
theorem list7 {α : Type} (l : List α) (h : l.length = 7) : ∃ a b c d e f g, l = [a, b, c, d, e, f, g] := by
  match l, h with
  | [a, b, c, d, e, f, g], _ => exact ⟨a, b, c, d, e, f, g, rfl⟩
/-- One mapping, read as data. -/
theorem read_map {H : Type} {enc : TypeId × Value → H} {W : World} {sp : Nat → Bool} {hd : Bool} {n base : Nat} {cs : List Value} {x : DataW H × List MemPlace} (h : DataW.trod enc Try.prog W base sp hd n 31 cs = some x) :
    ∃ m : Mp, cs = [.int .i64 m.va, .int .i64 m.pages, .int .i64 m.inn, .int .i64 m.num, .int .i64 m.frm, .bool m.wri, .bool m.run] ∧ m.ok := by
  obtain ⟨xs, k, rfl, _, hl, hxl, hf⟩ := DataW.trod_struct str31 h
  rw [cells31] at hl
  obtain ⟨v0, v1, v2, v3, v4, v5, v6, rfl⟩ := list7 cs hl
  have h31 := fields31
  have hsz : (Try.prog.fieldsOf 31).size = 7 := by
    have := congrArg List.length h31
    simpa using this
  have hxl7 : xs.length = 7 := by rw [hxl, hsz]
  obtain ⟨x0, x1, x2, x3, x4, x5, x6, rfl⟩ := list7 xs hxl7
  have get : ∀ (i t o : Nat), ((Try.prog.fieldsOf 31).toList.map fun f => (f.type, f.offset))[i]? = some (t, o) → ∃ f : Field, (Try.prog.fieldsOf 31)[i]? = some f ∧ f.type = t ∧ f.offset = o := by
    intro i t o he
    rw [List.getElem?_map] at he
    cases hq : (Try.prog.fieldsOf 31).toList[i]? with
    | none => rw [hq] at he; cases he
    | some f =>
      rw [hq] at he
      simp at he
      exact ⟨f, by simpa using hq, he.1, he.2⟩
  have fld : ∀ (i t o : Nat), ((Try.prog.fieldsOf 31).toList.map fun f => (f.type, f.offset))[i]? = some (t, o) → DataW.trod enc Try.prog W base sp hd k t (([v0, v1, v2, v3, v4, v5, v6].drop o).take (Try.prog.cellsOf t)) = [x0, x1, x2, x3, x4, x5, x6][i]? := by
    intro i t o he
    obtain ⟨f, h1, h2, h3⟩ := get i t o he
    have := hf i f h1
    rw [h2, h3] at this
    exact this
  have g0 := fld 0 3 0 (by rw [h31]; rfl)
  have g1 := fld 1 3 1 (by rw [h31]; rfl)
  have g2 := fld 2 3 2 (by rw [h31]; rfl)
  have g3 := fld 3 3 3 (by rw [h31]; rfl)
  have g4 := fld 4 3 4 (by rw [h31]; rfl)
  have g5 := fld 5 4 5 (by rw [h31]; rfl)
  have g6 := fld 6 4 6 (by rw [h31]; rfl)
  rw [cells3] at g0 g1 g2 g3 g4
  rw [cells4] at g5 g6
  simp only [List.drop_succ_cons, List.drop_zero, List.take_succ_cons, List.take_zero] at g0 g1 g2 g3 g4 g5 g6
  obtain ⟨a0, e0, _, w0⟩ := DataW.trod_int Try.underlying3 g0
  obtain ⟨a1, e1, _, w1⟩ := DataW.trod_int Try.underlying3 g1
  obtain ⟨a2, e2, _, w2⟩ := DataW.trod_int Try.underlying3 g2
  obtain ⟨a3, e3, _, w3⟩ := DataW.trod_int Try.underlying3 g3
  obtain ⟨a4, e4, _, w4⟩ := DataW.trod_int Try.underlying3 g4
  obtain ⟨a5, e5, _⟩ := DataW.trod_bool Try.underlying4 g5
  obtain ⟨a6, e6, _⟩ := DataW.trod_bool Try.underlying4 g6
  cases e0; cases e1; cases e2; cases e3; cases e4; cases e5; cases e6
  have rng : ∀ z : Int, (Lit.int .i64 z).wf = true → in64 z := by
    intro z hz
    unfold in64
    simpa [Lit.wf, IntKind.min, IntKind.max, IntKind.signed, IntKind.bits] using hz
  exact ⟨⟨a0, a1, a2, a3, a4, a5, a6⟩, rfl, ⟨rng _ w0, rng _ w1, rng _ w2, rng _ w3, rng _ w4⟩⟩
theorem choose_list {α : Type} {P : Nat → α → Prop} : ∀ n, (∀ i, i < n → ∃ x, P i x) → ∃ l : List α, l.length = n ∧ ∀ i (h : i < l.length), P i l[i] := by
  intro n
  induction n with
  | zero => intro _; exact ⟨[], rfl, fun i h => absurd h (by simp)⟩
  | succ n ih =>
    intro h
    obtain ⟨l, hl, hp⟩ := ih (fun i hi => h i (by omega))
    obtain ⟨x, hx⟩ := h n (by omega)
    refine ⟨l ++ [x], by simp [hl], fun i hi => ?_⟩
    by_cases hin : i < l.length
    · rw [List.getElem_append_left hin]; exact hp i hin
    · have hi' : i = l.length := by simp at hi; omega
      subst hi'
      simp only [List.getElem_concat_length]
      rw [hl]; exact hx
theorem read_maps {H : Type} {enc : TypeId × Value → H} {W : World} {a0 : Option Addr} {len cap fuel : Nat} {d : DataW H} {p : List MemPlace}
    (hf : DataW.trod enc Try.prog W 0 (fun _ => true) true fuel 22 (Value.slice a0 len cap).cells.toList = some (d, p)) :
    ∃ l : List Mp, l.length = len ∧ RowsAt W (.slice a0 len cap) l ∧ (∀ m ∈ l, m.ok) ∧ (d = .nil ∧ l = [] ∨ ∃ es sp, d = .slice es sp ∧ es.length = len) := by
  rcases Go.Deep.open_slice Try.underlying22 hf with ⟨hcs, hx⟩ | ⟨a, len', cap', m, n, D, Pl, hcs, _, hl, hm, hmm, hx, he⟩
  · simp [Value.cells] at hcs
    obtain ⟨rfl, rfl, rfl⟩ := hcs
    simp only [Prod.mk.injEq] at hx
    exact ⟨[], rfl, ⟨none, 0, 0, 0, rfl, Nat.le_refl _, Nat.zero_le _, fun h => absurd h (by simp), fun i hi => absurd hi (by simp)⟩, (fun m hm => nomatch hm), Or.inl ⟨hx.1, rfl⟩⟩
  · simp [Value.cells] at hcs
    obtain ⟨rfl, rfl, rfl⟩ := hcs
    simp only [Prod.mk.injEq] at hx
    simp only [if_true] at hmm
    subst hmm
    rw [cells31] at he
    have each : ∀ i, i < len → ∃ q : Mp, (∀ j, j < 7 → W.cell? ((a.add (i * 7)).add j) = some (q.cell j)) ∧ q.ok := by
      intro i hi
      obtain ⟨cs', h1, h2⟩ := he i (by omega)
      obtain ⟨q, rfl, hok⟩ := read_map h2
      obtain ⟨_, _, h3⟩ := World.cells?_some h1
      refine ⟨q, fun j hj => ?_, hok⟩
      rw [h3 j hj]
      match j, hj with
      | 0, _ => rfl
      | 1, _ => rfl
      | 2, _ => rfl
      | 3, _ => rfl
      | 4, _ => rfl
      | 5, _ => rfl
      | 6, _ => rfl
    obtain ⟨l, hll, hp⟩ := choose_list len each
    obtain ⟨b, off, spot⟩ := a
    have hspot : 0 < len → spot = none := by
      intro h0
      have := World.cell?_spot ((hp 0 (by omega)).1 0 (by omega))
      simpa [Addr.add] using this
    refine ⟨l, hll, ⟨_, m, b, off, by rw [hll], by omega, by unfold maxLen at hm ⊢; omega, fun h0 => ?_, fun i hi j hj => ?_⟩, fun q hq => ?_, Or.inr ⟨_, _, hx.1, by simp⟩⟩
    · obtain rfl := hspot (by omega)
      refine ⟨rfl, ?_⟩
      have := cell_lt ((hp 0 (by omega)).1 0 (by omega))
      simpa [Addr.add] using this
    · obtain rfl := hspot (by omega)
      have := (hp i hi).1 j hj
      rwa [add_none, add_none] at this
    · obtain ⟨i, hi, rfl⟩ := List.getElem_of_mem hq
      exact (hp i hi).2
end Go.Proofs.Ytcgmlcblcioaeaa
