import Derived.Test.YtcgmlcblcioaeaaS
namespace Go.Proofs.Ytcgmlcblcioaeaa
open Go.RowKit

structure Pc where
  inn : Int
  num : Int
  off : Int
  n : Int
  deriving DecidableEq
def Pc.cells (p : Pc) : List Value := [.int .i64 p.inn, .int .i64 p.num, .int .i64 p.off, .int .i64 p.n]
def pcells (l : List Pc) : List Value := l.flatMap Pc.cells
def Mp.may (m : Mp) (need : Int) : Bool := if need = 1 then m.wri else if need = 2 then m.run else true
def spanFrom (need : Int) : List Mp → Int → Int → Option (List Pc)
  | [], _, _ => none
  | m :: ms, a, n =>
    if a < m.va * 64 then none else if m.may need = false then none else
    if n ≤ m.pages * 64 - (a - m.va * 64) then some [⟨m.inn, m.num, m.frm * 64 + (a - m.va * 64), n⟩]
    else (spanFrom need ms (a + (m.pages * 64 - (a - m.va * 64))) (n - (m.pages * 64 - (a - m.va * 64)))).map (⟨m.inn, m.num, m.frm * 64 + (a - m.va * 64), m.pages * 64 - (a - m.va * 64)⟩ :: ·)
def spanL (l : List Mp) (addr n need : Int) : Option (List Pc) × Int :=
  if rightL l = true ∧ 1 ≤ n ∧ n ≤ 4096 ∧ 0 ≤ need ∧ need ≤ 2 then
    if addr < 4294967296 then
      match spanFrom need (l.drop (atI l (addr / 64))) addr n with
      | none => (none, 9)
      | some ps => (some ps, 0)
    else (none, 9)
  else (none, 1)

theorem info41 : (Try.prog.info? 41).map (fun i => (i.zero, i.size, i.bytes)) = some (some (.agg #[.int .i64 0, .int .i64 0, .int .i64 0, .int .i64 0]), 4, 32) := by kernel_rfl
theorem info31 : (Try.prog.info? 31).map (fun i => (i.zero, i.size, i.bytes)) = some (some (.agg #[.int .i64 0, .int .i64 0, .int .i64 0, .int .i64 0, .int .i64 0, .bool false, .bool false]), 7, 48) := by kernel_rfl
theorem info_parts {t : Nat} {z : Value} {s b : Nat} (h : (Try.prog.info? t).map (fun i => (i.zero, i.size, i.bytes)) = some (some z, s, b)) : ∃ i, Try.prog.info? t = some i ∧ i.zero = some z ∧ i.size = s ∧ i.bytes = b := by
  cases hq : Try.prog.info? t with
  | none => rw [hq] at h; cases h
  | some i =>
    rw [hq] at h
    simp only [Option.map_some, Option.some.injEq, Prod.mk.injEq] at h
    exact ⟨i, rfl, h.1, h.2.1, h.2.2⟩
theorem src_pc (W : World) (p : Pc) (t : TypeId) : Src Try.prog 4 25 (.slice (some ⟨W.heap.size, 0, none⟩) 1 1) 1 p.cells (W.alloc (.cells p.cells.toArray t)) :=
  Src.ofSlice _ Try.underlying25 ⟨W.heap.size, 0, none⟩ 1 1 _ rfl (fun j u hj => by
    match j, hj with
    | 0, hj => simp [Pc.cells] at hj; subst hj; simp [Addr.add, Pc.cells]
    | 1, hj => simp [Pc.cells] at hj; subst hj; simp [Addr.add, Pc.cells]
    | 2, hj => simp [Pc.cells] at hj; subst hj; simp [Addr.add, Pc.cells]
    | 3, hj => simp [Pc.cells] at hj; subst hj; simp [Addr.add, Pc.cells]) (fun u hu => by simp [Pc.cells] at hu; rcases hu with rfl | rfl | rfl | rfl <;> rfl)
theorem src_pc1 (W : World) (o : Obj) (p : Pc) (t : TypeId) : Src Try.prog 4 25 (.slice (some ⟨W.heap.size + 1, 0, none⟩) 1 1) 1 p.cells ((W.alloc o).alloc (.cells p.cells.toArray t)) := by
  have := src_pc (W.alloc o) p t
  rwa [show (W.alloc o).heap.size = W.heap.size + 1 by simp] at this
theorem pcells_snoc (ps : List Pc) (p : Pc) : pcells (ps ++ [p]) = pcells ps ++ p.cells := by simp [pcells]

theorem takeWhile_stop {l : List Mp} {p : Int} {m : Mp} (h : l[atI l p]? = some m) : p < m.va + m.pages := by
  unfold atI at h
  induction l with
  | nil => simp at h
  | cons a l ih =>
    by_cases hq : a.va + a.pages ≤ p
    · rw [List.takeWhile_cons_of_pos (by simpa using hq)] at h
      exact ih (by simpa using h)
    · rw [List.takeWhile_cons_of_neg (by simpa using hq)] at h
      simp at h
      subst h
      omega
end Go.Proofs.Ytcgmlcblcioaeaa
