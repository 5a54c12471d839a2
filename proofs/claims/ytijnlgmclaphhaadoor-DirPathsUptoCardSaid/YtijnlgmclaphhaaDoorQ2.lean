import Derived.Test.YtijnlgmclaphhaaDoorQ
import Derived.ShutString
import Derived.SliceStrings
import Derived.Deep.Grids
/-! Arguments read as data: strings, a row of strings. -/
namespace Go.Proofs.YtijnlgmclaphhaaDoor
open Go.ChangeShapes Go.WideShapes Go.ChangeAt Go.RowKit Go.Proofs.YtijnlgmclaphhaaDoorZ Go.Proofs.YtijnlgmclaphhaaDoorW.PrintWords Go.Proofs.YtijnlgmclaphhaaDoorW.PrintLast Go.Proofs.YtijnlgmclaphhaaDoorW.PrintMore
open Go.WideMaps Go.WideElems

theorem rbytes9 : Tryd.prog.bytesOf 9 = 16 := by kernel_rfl
theorem sized_str {H : Type} {ts : List TypeId} {ds : List (DataW H)} (h : (DataW.weightsEach Tryd.prog ts ds).all (· ≤ reachBytes) = true) {j : Nat} {t : TypeId} {s : ByteArray} (ht : ts[j]? = some t) (hd : ds[j]? = some (.lit (.string s.data.toList))) : s.size ≤ 140737488351232 := by
  have := sized_string h ht hd
  rw [show reachBytes = 140737488351232 from rfl] at this
  simpa using this
theorem read_strs {H : Type} {enc : TypeId × Value → H} {W : World} {a0 : Option Addr} {len cap fuel : Nat} {d : DataW H} {p : List MemPlace}
    (hf : DataW.trod enc Tryd.prog W 0 (fun _ => true) true fuel 33 (Value.slice a0 len cap).cells.toList = some (d, p)) :
    ∃ l : List ByteArray, l.length = len ∧ Kd.C Kd.string W a0 l.length l ∧ l.length ≤ cap ∧ (d = .nil ∧ l = [] ∨ ∃ es sp, d = .slice es sp ∧ es = l.map (fun s => DataW.lit (.string s.data.toList)) ∧ es.length = len) := by
  rcases open_strings Tryd.underlying33 Tryd.underlying9 rcells9 hf with ⟨hcs, hx⟩ | ⟨a, len', cap', ss, hcs, _, hl, hm, hz, hx, hcell, hws⟩
  · simp [Value.cells] at hcs
    obtain ⟨rfl, rfl, rfl⟩ := hcs
    simp only [Prod.mk.injEq] at hx
    exact ⟨[], rfl, ⟨rfl, by simp, fun h => absurd h (by simp)⟩, Nat.le_refl _, Or.inl ⟨hx.1, rfl⟩⟩
  · simp [Value.cells] at hcs
    obtain ⟨rfl, rfl, rfl⟩ := hcs
    simp only [Prod.mk.injEq] at hx
    obtain ⟨rfl, rfl⟩ := hx
    simp only [if_true] at hz
    have hlen : (ss.take len).length = len := by rw [List.length_take]; omega
    refine ⟨ss.take len, hlen, ⟨rfl, by unfold maxLen at hm; omega, fun h0 => ⟨a, rfl, fun i x hx => ?_⟩⟩, by omega, Or.inr ⟨_, _, rfl, rfl, ?_⟩⟩
    · have hi : i < len := by
        have := (List.getElem?_eq_some_iff.1 hx).1
        omega
      refine ⟨[.string x], rfl, rfl, fun j u hj => ?_⟩
      have hxs : ss.getD i ByteArray.empty = x := by
        rw [List.getElem?_take, if_pos hi] at hx
        rw [List.getD_eq_getElem?_getD, hx]; rfl
      match j, hj with
      | 0, hj =>
        cases hj
        have := hcell i (by omega)
        rw [hxs] at this
        show W.cell? (a.add (i * 1 + 0)) = _
        rw [Nat.mul_one, Nat.add_zero]
        exact this
    · exact (List.length_map _).trans hlen
theorem sized_strl {H : Type} {ts : List TypeId} {ds : List (DataW H)} (h : (DataW.weightsEach Tryd.prog ts ds).all (· ≤ reachBytes) = true) {j n : Nat} {d : DataW H} {l : List ByteArray} (hn : l.length = n)
    (ht : ts[j]? = some 33) (hd : ds[j]? = some d) (hx : d = .nil ∧ l = [] ∨ ∃ es sp, d = .slice es sp ∧ es = l.map (fun s => DataW.lit (.string s.data.toList)) ∧ es.length = n) : l.length * 16 ≤ 140737488351232 := by
  rcases hx with ⟨_, rfl⟩ | ⟨es, sp, rfl, _, he⟩
  · simp
  · have := sized_slice h ht hd Tryd.underlying33
    rw [show reachBytes = 140737488351232 from rfl, rbytes9] at this
    have h2 : l.length * 16 ≤ (es.length + sp.length) * 16 := Nat.mul_le_mul_right _ (by omega)
    omega
end Go.Proofs.YtijnlgmclaphhaaDoor
