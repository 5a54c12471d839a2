import Derived.Test.YtnddocchfkhlbaaH2
import Derived.Deep.RegionWith
import Derived.Deep.CutRange
namespace Go.Proofs.Ytnddocchfkhlbaa
open Go.RowKit

theorem HashAt.below {w w' : World} {B p : Nat} {S : Nat → Int} {r : List UInt8} {n : Nat} (h : HashAt w B p S r n) (hb : Below w.heap.size w w') : HashAt w' B p S r n := by
  obtain ⟨hB, rv, f, hown, hrow, hf, h8, h9⟩ := h
  exact ⟨hB, rv, f, hown.below hb, hrow.of_block (hb.block p hrow.lt), hf, h8, h9⟩
theorem HashAt.cell9 {w : World} {B p : Nat} {S : Nat → Int} {r : List UInt8} {n : Nat} (h : HashAt w B p S r n) : w.cell? ⟨p, 9, none⟩ = some (.int .i64 n) := by
  obtain ⟨hB, rv, f, hown, hrow, hf, h8, h9⟩ := h
  rw [hrow.cell (by omega), h9]
theorem HashAt.mono {w : World} {B B' p : Nat} {S : Nat → Int} {r : List UInt8} {n : Nat} (h : HashAt w B p S r n) (hB : B' ≤ B) : HashAt w B' p S r n := by
  obtain ⟨hBp, rv, f, ⟨hl, hown⟩, rest⟩ := h
  refine ⟨by omega, rv, f, ⟨hl, ?_⟩, rest⟩
  rcases hown with h | ⟨g, off, cap, cur, h1, h2, h3⟩
  · exact .inl h
  · exact .inr ⟨g, off, cap, cur, h1, by omega, h3⟩

theorem high_int (X : Int) (x n : Nat) (hX : X = (x : Int)) (w : World) (hx : x < 18446744073709551616) (hn : n ≤ 8) (N : Int) (hN : N = (n : Int)) :
    Calls Try.prog 30 #[.int .u64 X, .int .i64 N] w fun e w' => e = .returned (.string (bstr (hiB x n))) ∧ Below w.heap.size w w' := by
  subst hX; subst hN; exact high_any x n w hx hn

theorem keepA {w2 W : World} {p : Nat} {v : Value} (h : W.cell? ⟨p, 9, none⟩ = some v ∧ Below w2.heap.size w2 W) (o : Obj) : (W.alloc o).cell? ⟨p, 9, none⟩ = some v ∧ Below w2.heap.size w2 (W.alloc o) :=
  ⟨by rw [← h.1]; exact World.cell?_of_block (Below.heap_alloc _ _ _ (World.block_lt_of_cell? _ _ h.1)), h.2.alloc h.2.size o⟩
theorem keepD {w2 W : World} {p : Nat} {v : Value} (h : W.cell? ⟨p, 9, none⟩ = some v ∧ Below w2.heap.size w2 W) : W.drew.cell? ⟨p, 9, none⟩ = some v ∧ Below w2.heap.size w2 W.drew := ⟨h.1, h.2.drew⟩
theorem keepB {w2 W W' : World} {p : Nat} {v : Value} (h : W.cell? ⟨p, 9, none⟩ = some v ∧ Below w2.heap.size w2 W) (hb : Below W.heap.size W W') : W'.cell? ⟨p, 9, none⟩ = some v ∧ Below w2.heap.size w2 W' :=
  ⟨(hb.cell (World.block_lt_of_cell? _ _ h.1)).trans h.1, h.2.trans (hb.mono h.2.size)⟩

theorem bstr_size (l : List UInt8) : (bstr l).size = l.length := by simp [bstr, ByteArray.size]
/-- What is put behind n bytes. -/
def pad (n : Nat) : List UInt8 := 128 :: (List.replicate ((119 - n % 64) % 64) 0 ++ hiB (n * 8) 8)
theorem below_through {w W w' : World} (h : Below w.heap.size w W) (hb : Below W.heap.size W w') : Below w.heap.size w w' := h.trans (hb.mono h.size)
theorem pad_str (z x : Nat) : ({ data := #[128] } : ByteArray) ++ bstr (List.replicate z 0) ++ bstr (hiB x 8) = bstr (128 :: (List.replicate z 0 ++ hiB x 8)) := by
  apply ByteArray.ext
  simp [bstr, ByteArray.data_append]
theorem pad_size (z x : Nat) : (({ data := #[128] } : ByteArray) ++ bstr (List.replicate z 0) ++ bstr (hiB x 8)).size = z + 9 := by
  rw [pad_str, bstr_size]
  simp [hiB_length]
def ZR (W : World) (g z : Nat) : Prop := W.rowIs g 5 z (fun _ => .int .u8 0)
theorem zr_string {W : World} {g z : Nat} (h : ZR W g z) : (convert 42 9 (.slice (some ⟨g, 0, none⟩) z z)).run Try.prog W = .ok (.string (bstr (List.replicate z 0))) W := by
  have := run_convert_bytes_arg (P := Try.prog) W 42 5 Try.underlying42 Try.underlying5 g 0 z z (List.replicate z 0) (by simp) (fun i hi => by
    have := World.rowIs.cell h hi
    rw [Nat.zero_add, this]
    simp [hi]) 9 Try.underlying9
  rw [this]
  simp [strOfNums, bstr]
theorem zr_made (W : World) (z : Nat) : ZR (W.alloc (.cells (madeCells #[.int .u8 0] z) 5)) W.heap.size z := World.rowIs_made W (.int .u8 0) z 5
theorem zr_drew (W : World) (g z : Nat) : ZR W.drew g z = ZR W g z := rfl
theorem zr_below {W W' : World} {g z : Nat} (h : ZR W g z) (hb : Below W.heap.size W W') : ZR W' g z := World.rowIs.of_block h (hb.block g (World.rowIs.lt h))

def digestL (S : Nat → Int) (k : Nat) : List UInt8 := (List.range k).flatMap fun j => hiB (S j).toNat 4
theorem digestL_succ {S : Nat → Int} {k : Nat} {x : Int} (h : S k = x) : bstr (digestL S k) ++ bstr (hiB x.toNat 4) = bstr (digestL S (k + 1)) := by
  subst h
  apply ByteArray.ext
  simp [bstr, ByteArray.data_append, digestL, List.range_succ]
theorem digestL_length (S : Nat → Int) (k : Nat) : (digestL S k).length = 4 * k := by
  induction k with
  | zero => rfl
  | succ k ih =>
    unfold digestL at *
    rw [List.range_succ, List.flatMap_append, List.length_append, ih]
    simp [hiB_length]
    omega
def okS (S : Nat → Int) : Prop := ∀ j, j < 8 → 0 ≤ S j ∧ S j ≤ 4294967295
theorem okS_blk (m S : Nat → Int) : okS (blk m S) := fun j _ => by unfold blk; omega
theorem okS_full {S : Nat → Int} (h : okS S) (l : List UInt8) : okS (fullS S l) := by
  induction hn : l.length using Nat.strongRecOn generalizing S l with
  | _ n ih =>
    rw [fullS]
    split
    · exact ih (l.drop 64).length (by rw [List.length_drop]; omega) (okS_blk _ _) _ rfl
    · exact h
theorem HashAt.cellS {w : World} {B p : Nat} {S : Nat → Int} {r : List UInt8} {n : Nat} (h : HashAt w B p S r n) {j : Nat} (hj : j < 8) : w.cell? ⟨p, j, none⟩ = some (.int .u32 (S j)) := by
  obtain ⟨hB, rv, f, hown, hrow, hf, h8, h9⟩ := h
  rw [hrow.cell (by omega), hf j hj]
theorem index_s8 (S : Nat → Int) (k : Nat) (hk : k < 8) (w : World) :
    (Instr.index 49 (.agg #[.int .u32 (S 0), .int .u32 (S 1), .int .u32 (S 2), .int .u32 (S 3), .int .u32 (S 4), .int .u32 (S 5), .int .u32 (S 6), .int .u32 (S 7)]) (.int .i64 k)).run Try.prog w = .ok (.int .u32 (S k)) w := by
  match k, hk with
  | 0, _ => simp [Instr.index, asIntOf, run_underlying Try.underlying49, Try.sizeOf39, part]
  | 1, _ => simp [Instr.index, asIntOf, run_underlying Try.underlying49, Try.sizeOf39, part]
  | 2, _ => simp [Instr.index, asIntOf, run_underlying Try.underlying49, Try.sizeOf39, part]
  | 3, _ => simp [Instr.index, asIntOf, run_underlying Try.underlying49, Try.sizeOf39, part]
  | 4, _ => simp [Instr.index, asIntOf, run_underlying Try.underlying49, Try.sizeOf39, part]
  | 5, _ => simp [Instr.index, asIntOf, run_underlying Try.underlying49, Try.sizeOf39, part]
  | 6, _ => simp [Instr.index, asIntOf, run_underlying Try.underlying49, Try.sizeOf39, part]
  | 7, _ => simp [Instr.index, asIntOf, run_underlying Try.underlying49, Try.sizeOf39, part]

theorem pad_meets {w wc : World} {B q z n : Nat} {S : Nat → Int} {r : List UInt8} (hz : (119 - n % 64) % 64 = z)
    (h : HashAt wc B q (fullS S (r ++ (({ data := #[128] } : ByteArray) ++ bstr (List.replicate z 0) ++ bstr (hiB (n * 8) 8)).data.toList))
      (restS (r ++ (({ data := #[128] } : ByteArray) ++ bstr (List.replicate z 0) ++ bstr (hiB (n * 8) 8)).data.toList)) (n + (({ data := #[128] } : ByteArray) ++ bstr (List.replicate z 0) ++ bstr (hiB (n * 8) 8)).size)) (hb : Below w.heap.size w wc) :
    HashAt wc B q (fullS S (r ++ pad n)) (restS (r ++ pad n)) (n + (pad n).length) ∧ Below w.heap.size w wc := by
  subst hz
  rw [pad_str] at h
  refine ⟨?_, hb⟩
  have e : (bstr (128 :: (List.replicate ((119 - n % 64) % 64) 0 ++ hiB (n * 8) 8))).data.toList = pad n := by simp [bstr, pad]
  rw [e, bstr_size] at h
  exact h

end Go.Proofs.Ytnddocchfkhlbaa
