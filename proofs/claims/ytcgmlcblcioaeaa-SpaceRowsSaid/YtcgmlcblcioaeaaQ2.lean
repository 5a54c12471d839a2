import Derived.Test.YtcgmlcblcioaeaaQ
import Derived.Test.YtcgmlcblcioaeaaG
import Derived.ProofKit
import Derived.SizedLaws
namespace Go.Proofs.Ytcgmlcblcioaeaa
open Go.ChangeShapes Go.WideShapes Go.ChangeAt Go.RowKit

theorem own_knob : ownKnob Try.prog.godebug = none := by kernel_rfl
theorem laid_out : laidOutB Try.prog = true := by kernel_rfl
theorem bytes31 : Try.prog.bytesOf 31 = 48 := by kernel_rfl
theorem sized_maps {H : Type} {ts : List TypeId} {ds : List (DataW H)} (h : (DataW.weightsEach Try.prog ts ds).all (· ≤ reachBytes) = true) {j n : Nat} {d : DataW H} {l : List Mp} (hn : l.length = n)
    (ht : ts[j]? = some 22) (hd : ds[j]? = some d) (hx : d = .nil ∧ l = [] ∨ ∃ es sp, d = .slice es sp ∧ es.length = n) : l.length * 48 ≤ 140737488351232 := by
  rcases hx with ⟨_, rfl⟩ | ⟨es, sp, rfl, he⟩
  · simp
  · have := sized_slice h ht hd Try.underlying22
    rw [show reachBytes = 140737488351232 from rfl, bytes31] at this
    have h2 : l.length * 48 ≤ (es.length + sp.length) * 48 := Nat.mul_le_mul_right _ (by omega)
    omega
theorem lit_in {z : Int} (hz : (Lit.int .i64 z).wf = true) : in64 z := by
  unfold in64
  simpa [Lit.wf, IntKind.min, IntKind.max, IntKind.signed, IntKind.bits] using hz
theorem lit_un {z : Int} (hz : (Lit.int .u64 z).wf = true) : 0 ≤ z ∧ z ≤ 18446744073709551615 := by
  simpa [Lit.wf, IntKind.min, IntKind.max, IntKind.signed, IntKind.bits] using hz
/-- A mapping among the arguments. -/
theorem open_mp {H : Type} {enc : TypeId × Value → H} {W : World} {r : Reach} {base b0 : Nat} {sp : Nat → Bool} {hd : Bool} {v : Value} {d : DataW H} {p : List MemPlace} (hv : Value.okWide Try.prog W r b0 31 v)
    (h : DataW.Trod enc Try.prog W base sp hd 31 v d p) : ∃ m : Mp, v = m.val := by
  obtain ⟨cs, rfl, _⟩ := okWide_struct str31 hv
  obtain ⟨fuel, hf⟩ := h
  obtain ⟨m, hm, _⟩ := read_map hf
  refine ⟨m, ?_⟩
  have : cs = m.cells := by
    have h2 : cs.toList = [.int .i64 m.va, .int .i64 m.pages, .int .i64 m.inn, .int .i64 m.num, .int .i64 m.frm, .bool m.wri, .bool m.run] := by simpa [Value.cells] using hm
    exact Array.ext' (h2.trans rfl)
  rw [this]
  rfl
/-- A row that can be read, in the printer's words. -/
theorem C_of_rows {w : World} {A : Option Addr} {n c : Nat} {l : List Mp} (h : RowsAt w (.slice A n c) l) : YtcgmlcblcioaeaaW.PrintWords.Kd.C YtcgmlcblcioaeaaZ.k31 w A l.length (l.map YtcgmlcblcioaeaaZ.ofMp) ∧ l.length ≤ c := by
  obtain ⟨oa, cap, b, off, hv, h1, h2, h3, h4⟩ := h
  cases hv
  refine ⟨⟨by rw [List.length_map], by unfold maxLen at h2; omega, fun h0 => ?_⟩, h1⟩
  obtain ⟨rfl, hb⟩ := h3 h0
  refine ⟨_, rfl, fun j p hj => ?_⟩
  rw [List.getElem?_map] at hj
  cases hq : l[j]? with
  | none => rw [hq] at hj; cases hj
  | some m =>
    rw [hq] at hj
    cases hj
    have hjl : j < l.length := (List.getElem?_eq_some_iff.1 hq).1
    have hm : l[j] = m := by rw [List.getElem?_eq_getElem hjl] at hq; exact Option.some.inj hq
    refine ⟨_, rfl, YtcgmlcblcioaeaaZ.k31_mk w (YtcgmlcblcioaeaaZ.ofMp m), fun i u hu => ?_⟩
    have hadd : (⟨b, off, none⟩ : Addr).add (j * 7 + i) = ⟨b, off + (j * 7 + i), none⟩ := by unfold Addr.add; split <;> simp_all
    show w.cell? ((⟨b, off, none⟩ : Addr).add (j * 7 + i)) = some u
    rw [hadd, ← Nat.add_assoc]
    have hi : i < 7 := by
      rcases Nat.lt_or_ge i 7 with h | h
      · exact h
      · rw [List.getElem?_eq_none (by simpa using h)] at hu; cases hu
    have := h4 j hjl i hi
    rw [hm] at this
    rw [this]
    match i, hi, hu with
    | 0, _, hu => exact hu
    | 1, _, hu => exact hu
    | 2, _, hu => exact hu
    | 3, _, hu => exact hu
    | 4, _, hu => exact hu
    | 5, _, hu => exact hu
    | 6, _, hu => exact hu
end Go.Proofs.Ytcgmlcblcioaeaa
