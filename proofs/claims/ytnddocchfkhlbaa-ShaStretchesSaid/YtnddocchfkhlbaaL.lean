import Derived.Test.YtnddocchfkhlbaaProg
import Derived.WalkKit
import Derived.Below
import Derived.Deep.OwnRows
import Derived.Deep.Draws
import Derived.Laws.CopyOwn
/-! Small facts on worlds. -/
namespace Go.Proofs.Ytnddocchfkhlbaa
open Go.RowKit

theorem _root_.Go.RowKit.Below.drewN' (B : Nat) (w : World) (n : Nat) : Below B w (w.drewN n) := ⟨rfl, rfl, rfl, Nat.le_refl _, fun _ _ => rfl⟩
theorem _root_.Go.World.rowIs.drewN' {w : World} {b : Nat} {t : TypeId} {n : Nat} {f : Nat → Value} (h : w.rowIs b t n f) (q : Nat) : (w.drewN q).rowIs b t n f := h
theorem drewN_step (w : World) (n : Nat) : { w.drewN n with drawn := (w.drewN n).drawn + 1 } = w.drewN (n + 1) := rfl
theorem drewN_in (w : World) (a b : Nat) : ∃ n, { (w.drewN a).drewN b with drawn := ((w.drewN a).drewN b).drawn + 1 } = w.drewN n := ⟨a + b + 1, by simp [World.drewN]; omega⟩
theorem drewN_in1 (w : World) (a : Nat) : ∃ n, { w.drewN a with drawn := (w.drewN a).drawn + 1 } = w.drewN n := ⟨a + 1, rfl⟩

theorem grown_trans {w w' w'' : World} {r : Option Nat} (h : w.grownBy w' r) (k : w'.grownBy w'' r) : w.grownBy w'' r :=
  ⟨k.os.trans h.os, k.tape.trans h.tape, k.output.trans h.output, Nat.le_trans h.size k.size, fun i hi hr => (k.block i (Nat.lt_of_lt_of_le hi h.size) hr).trans (h.block i hi hr)⟩
theorem grown_of {w w' : World} {B : Nat} (h : Below B w w') (r : Option Nat) (hB : w.heap.size ≤ B) : w.grownBy w' r :=
  ⟨h.os, h.tape, h.output, h.size, fun i hi _ => h.block i (by omega)⟩
theorem grown_setCell (w : World) (b i : Nat) (v : Value) : w.grownBy (w.setCell ⟨b, i, none⟩ v) (some b) :=
  ⟨rfl, rfl, rfl, by simp [World.setCell], fun k _ hr => Below.heap_setCell _ _ _ _ (fun e => hr (by rw [e]))⟩
theorem grown_drewN (w : World) (n : Nat) (r : Option Nat) : w.grownBy (w.drewN n) r := ⟨rfl, rfl, rfl, Nat.le_refl _, fun _ _ _ => rfl⟩
/-- A row below, which is not the one that was written. -/
theorem row_grown {w w' : World} {r : Option Nat} {b : Nat} {t : TypeId} {n : Nat} {f : Nat → Value} (h : w.rowIs b t n f) (hg : w.grownBy w' r) (hne : some b ≠ r) : w'.rowIs b t n f :=
  h.of_block (hg.block b h.lt hne)

theorem shift7 (w : World) (b : Nat) (V : Nat → Int) (hv : w.rowIs b 49 8 (fun j => .int .u32 (V j))) :
    ∃ c : Array Value, w.heap[b]? = some (.cells c 49 (0, 0)) ∧ c.size = 8 ∧
      (∀ j v, [Value.int .u32 (V 0), .int .u32 (V 1), .int .u32 (V 2), .int .u32 (V 3), .int .u32 (V 4), .int .u32 (V 5), .int .u32 (V 6)][j]? = some v → w.cell? ((⟨b, 0, none⟩ : Addr).add j) = some v) ∧
      ∀ (ws : Array Value), ws = (c.toList.take 1 ++ ([Value.int .u32 (V 0), .int .u32 (V 1), .int .u32 (V 2), .int .u32 (V 3), .int .u32 (V 4), .int .u32 (V 5), .int .u32 (V 6)] ++ c.toList.drop 8)).toArray →
        (w.setRow b ws).rowIs b 49 8 (fun j => .int .u32 (if j = 0 then V 0 else V (j - 1))) := by
  obtain ⟨c, hb, hn, hc⟩ := hv
  refine ⟨c, hb, hn, fun j v hj => ?_, fun ws hws => ?_⟩
  · have hadd : (⟨b, 0, none⟩ : Addr).add j = ⟨b, j, none⟩ := by unfold Addr.add; split <;> simp_all
    rw [hadd, cell_of_row w b j c 49 (0, 0) hb]
    have hj7 : j < 7 := by
      rcases Nat.lt_or_ge j 7 with h | h
      · exact h
      · rw [List.getElem?_eq_none (by simpa using h)] at hj; cases hj
    rw [hc j (by omega)]
    match j, hj7, hj with
    | 0, _, hj => simpa using hj
    | 1, _, hj => simpa using hj
    | 2, _, hj => simpa using hj
    | 3, _, hj => simpa using hj
    | 4, _, hj => simpa using hj
    | 5, _, hj => simpa using hj
    | 6, _, hj => simpa using hj
  · have h0 : c[0]? = some (.int .u32 (V 0)) := hc 0 (by omega)
    have ht : c.toList.take 1 = [.int .u32 (V 0)] := by
      have hl : c.toList.length = 8 := by simpa using hn
      match hq : c.toList, hl with
      | x :: r, _ =>
        have : c[0]? = some x := by rw [← Array.getElem?_toList, hq]; rfl
        rw [h0] at this
        injection this with this
        rw [← this]; rfl
    have hd : c.toList.drop 8 = [] := List.drop_eq_nil_of_le (by simp [hn])
    refine ⟨ws, setRow_heap w b c ws 49 (0, 0) hb, ?_, fun i hi => ?_⟩
    · rw [hws, ht, hd]; rfl
    · rw [hws, ht, hd]
      match i, hi with
      | 0, _ => rfl
      | 1, _ => rfl
      | 2, _ => rfl
      | 3, _ => rfl
      | 4, _ => rfl
      | 5, _ => rfl
      | 6, _ => rfl
      | 7, _ => rfl

theorem grown_setRow (w : World) (b : Nat) (ws : Array Value) : w.grownBy (w.setRow b ws) (some b) :=
  ⟨rfl, rfl, rfl, by simp [World.setRow], fun k _ hr => setRow_other w b k ws (fun e => hr (by rw [e]))⟩

/-- 'copy(v[1:], v[:7])' over the eight words. -/
theorem copy_step {ops : Array Oper} {Q : Exit → Act → World → Prop} {o : Oper} {rest : List Oper} {a : Act} {w : World} (hgd : o.guard = none) (d s : Operand) (dT sT : TypeId)
    (ho : o.op = .call { callee := .builtin .copy, args := #[d, s], argTypes := #[dT, sT] }) (hu : Try.prog.underlying dT = some (.slice 39)) (b : Nat) (V : Nat → Int)
    (hd : a.eval d = .slice (some ⟨b, 1, none⟩) 7 7) (hs : a.eval s = .slice (some ⟨b, 0, none⟩) 7 8) (hv : w.rowIs b 49 8 (fun j => .int .u32 (V j)))
    (h : ∀ w', w'.rowIs b 49 8 (fun j => .int .u32 (if j = 0 then V 0 else V (j - 1))) → w.grownBy w' (some b) → wpList Try.prog ops Q rest (a.put o.dst (goInt 7)) w') : wpList Try.prog ops Q (o :: rest) a w := by
  obtain ⟨c, hb, hn, hsrc, hset⟩ := shift7 w b V hv
  refine wpList_copy_own hgd d s dT sT ho 39 hu (by kernel_rfl) b 1 7 7 ⟨b, 0, none⟩ 7 8 hd hs c 49 hb _ ?_ hsrc ?_ ?_ ?_
  · rfl
  · simp [hn]
  · intro v hv; simp at hv; rcases hv with rfl | rfl | rfl | rfl | rfl | rfl | rfl <;> rfl
  · exact h _ (hset _ rfl) (grown_setRow _ _ _)
end Go.Proofs.Ytnddocchfkhlbaa
