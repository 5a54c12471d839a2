import Derived.Test.YtijnlgmclaphhaaDoorMTrnKC
import Derived.ProofKit
import Derived.SizedLaws
import Derived.Deep.Slices
import Derived.Test.YtijnlgmclaphhaaDoorCards
import Derived.Test.YtijnlgmclaphhaaDoorTie
import Derived.WalkKit
import Derived.OpenShut
import Derived.Deep.DeepHandedRow
import Derived.Lib.LaidTab
import Derived.ShutString
import Derived.SliceStrings
import Derived.Deep.Grids
/-! Arguments read as data: names, a row of names. -/
namespace Go.Proofs.YtijnlgmclaphhaaDoor
open Go.ChangeShapes Go.WideShapes Go.ChangeAt Go.RowKit Go.Proofs.YtijnlgmclaphhaaDoorZ Go.Proofs.YtijnlgmclaphhaaDoorW.PrintWords Go.Proofs.YtijnlgmclaphhaaDoorW.PrintLast Go.Proofs.YtijnlgmclaphhaaDoorW.PrintMore

theorem rcells25 : Tryd.prog.cellsOf 25 = 3 := by kernel_rfl
theorem rcells3 : Tryd.prog.cellsOf 3 = 1 := by kernel_rfl
theorem rcells9 : Tryd.prog.cellsOf 9 = 1 := by kernel_rfl
theorem rbytes25 : Tryd.prog.bytesOf 25 = 32 := by kernel_rfl
theorem rstr25 : Tryd.prog.underlying 25 = some (.struct (Tryd.prog.fieldsOf 25)) := by kernel_rfl
theorem rfields25 : ((Tryd.prog.fieldsOf 25).toList.map fun f => (f.type, f.offset)) = [(9, 0), (3, 1), (3, 2)] := by kernel_rfl
theorem own_knob : ownKnob Tryd.prog.godebug = none := by kernel_rfl
theorem laid_out : laidOutB Tryd.prog = true := by kernel_rfl
theorem list3 {α : Type} (l : List α) (h : l.length = 3) : ∃ a b c, l = [a, b, c] := by
  match l, h with
  | [a, b, c], _ => exact ⟨a, b, c, rfl⟩
def in64 (z : Int) : Prop := -9223372036854775808 ≤ z ∧ z ≤ 9223372036854775807
def Nmok (m : Nm) : Prop := in64 m.f1 ∧ in64 m.f2
theorem lit_in {z : Int} (hz : (Lit.int .i64 z).wf = true) : in64 z := by
  unfold in64
  simpa [Lit.wf, IntKind.min, IntKind.max, IntKind.signed, IntKind.bits] using hz
/-- One name, read as data. -/
theorem read_nm {H : Type} {enc : TypeId × Value → H} {W : World} {sp : Nat → Bool} {hd : Bool} {n base : Nat} {cs : List Value} {x : DataW H × List MemPlace} (h : DataW.trod enc Tryd.prog W base sp hd n 25 cs = some x) :
    ∃ m : Nm, cs = nlist m ∧ Nmok m := by
  obtain ⟨xs, k, rfl, _, hl, hxl, hf⟩ := DataW.trod_struct rstr25 h
  rw [rcells25] at hl
  obtain ⟨v0, v1, v2, rfl⟩ := list3 cs hl
  have h25 := rfields25
  have hsz : (Tryd.prog.fieldsOf 25).size = 3 := by
    have := congrArg List.length h25
    simpa using this
  have hxl3 : xs.length = 3 := by rw [hxl, hsz]
  obtain ⟨x0, x1, x2, rfl⟩ := list3 xs hxl3
  have get : ∀ (i t o : Nat), ((Tryd.prog.fieldsOf 25).toList.map fun f => (f.type, f.offset))[i]? = some (t, o) → ∃ f : Field, (Tryd.prog.fieldsOf 25)[i]? = some f ∧ f.type = t ∧ f.offset = o := by
    intro i t o he
    rw [List.getElem?_map] at he
    cases hq : (Tryd.prog.fieldsOf 25).toList[i]? with
    | none => rw [hq] at he; cases he
    | some f =>
      rw [hq] at he
      simp at he
      exact ⟨f, by simpa using hq, he.1, he.2⟩
  have fld : ∀ (i t o : Nat), ((Tryd.prog.fieldsOf 25).toList.map fun f => (f.type, f.offset))[i]? = some (t, o) → DataW.trod enc Tryd.prog W base sp hd k t (([v0, v1, v2].drop o).take (Tryd.prog.cellsOf t)) = [x0, x1, x2][i]? := by
    intro i t o he
    obtain ⟨f, h1, h2, h3⟩ := get i t o he
    have := hf i f h1
    rw [h2, h3] at this
    exact this
  have g0 := fld 0 9 0 (by rw [h25]; rfl)
  have g1 := fld 1 3 1 (by rw [h25]; rfl)
  have g2 := fld 2 3 2 (by rw [h25]; rfl)
  rw [rcells9] at g0
  rw [rcells3] at g1 g2
  simp only [List.drop_succ_cons, List.drop_zero, List.take_succ_cons, List.take_zero] at g0 g1 g2
  obtain ⟨a0, e0, _⟩ := DataW.trod_string Tryd.underlying9 g0
  obtain ⟨a1, e1, _, w1⟩ := DataW.trod_int Tryd.underlying3 g1
  obtain ⟨a2, e2, _, w2⟩ := DataW.trod_int Tryd.underlying3 g2
  cases e0; cases e1; cases e2
  exact ⟨⟨a0, a1, a2⟩, rfl, lit_in w1, lit_in w2⟩
theorem choose_list {α : Type} {P : Nat → α → Prop} : ∀ n, (∀ i, i < n → ∃ x, P i x) → ∃ l : List α, l.length = n ∧ ∀ i (h : i < l.length), P i l[i] := by
  intro n
  induction n with
  | zero => intro _; exact ⟨[], rfl, fun i h => absurd h (by simp)⟩
  | succ n ih =>
    intro h
    obtain ⟨l, hl, hp⟩ := ih (fun i hi => h i (by omega))
    obtain ⟨x, hx⟩ := h n (by omega)
    refine ⟨l ++ [x], by simp [hl], fun i hi => ?_⟩
    by_cases hin : i < l.length
    · rw [List.getElem_append_left hin]; exact hp i hin
    · have hi' : i = l.length := by simp at hi; omega
      subst hi'
      simp only [List.getElem_concat_length]
      rw [hl]; exact hx
theorem read_nms {H : Type} {enc : TypeId × Value → H} {W : World} {a0 : Option Addr} {len cap fuel : Nat} {d : DataW H} {p : List MemPlace}
    (hf : DataW.trod enc Tryd.prog W 0 (fun _ => true) true fuel 22 (Value.slice a0 len cap).cells.toList = some (d, p)) :
    ∃ l : List Nm, l.length = len ∧ RowsAt W (.slice a0 len cap) l ∧ (∀ m ∈ l, Nmok m) ∧ (d = .nil ∧ l = [] ∨ ∃ es sp, d = .slice es sp ∧ es.length = len) := by
  rcases Go.Deep.open_slice Tryd.underlying22 hf with ⟨hcs, hx⟩ | ⟨a, len', cap', m, n, D, Pl, hcs, _, hl, hm, hmm, hx, he⟩
  · simp [Value.cells] at hcs
    obtain ⟨rfl, rfl, rfl⟩ := hcs
    simp only [Prod.mk.injEq] at hx
    exact ⟨[], rfl, ⟨none, 0, 0, 0, rfl, Nat.le_refl _, Nat.zero_le _, fun h => absurd h (by simp), fun i hi => absurd hi (by simp)⟩, (fun m hm => nomatch hm), Or.inl ⟨hx.1, rfl⟩⟩
  · simp [Value.cells] at hcs
    obtain ⟨rfl, rfl, rfl⟩ := hcs
    simp only [Prod.mk.injEq] at hx
    simp only [if_true] at hmm
    subst hmm
    rw [rcells25] at he
    have each : ∀ i, i < len → ∃ q : Nm, (∀ j, j < 3 → W.cell? ((a.add (i * 3)).add j) = some (ncell q j)) ∧ Nmok q := by
      intro i hi
      obtain ⟨cs', h1, h2⟩ := he i (by omega)
      obtain ⟨q, rfl, hok⟩ := read_nm h2
      obtain ⟨_, _, h3⟩ := World.cells?_some h1
      refine ⟨q, fun j hj => ?_, hok⟩
      rw [h3 j hj]
      match j, hj with
      | 0, _ => rfl
      | 1, _ => rfl
      | 2, _ => rfl
    obtain ⟨l, hll, hp⟩ := choose_list len each
    obtain ⟨b, off, spot⟩ := a
    have hspot : 0 < len → spot = none := by
      intro h0
      have := World.cell?_spot ((hp 0 (by omega)).1 0 (by omega))
      simpa [Addr.add] using this
    refine ⟨l, hll, ⟨_, m, b, off, by rw [hll], by omega, by unfold maxLen at hm ⊢; omega, fun h0 => ?_, fun i hi j hj => ?_⟩, fun q hq => ?_, Or.inr ⟨_, _, hx.1, by simp⟩⟩
    · obtain rfl := hspot (by omega)
      refine ⟨rfl, ?_⟩
      have := (hp 0 (by omega)).1 0 (by omega)
      rw [add_none, add_none] at this
      exact World.block_lt_of_cell? W _ this
    · obtain rfl := hspot (by omega)
      have := (hp i hi).1 j hj
      rwa [add_none, add_none] at this
    · obtain ⟨i, hi, rfl⟩ := List.getElem_of_mem hq
      exact (hp i hi).2
theorem sized_nms {H : Type} {ts : List TypeId} {ds : List (DataW H)} (h : (DataW.weightsEach Tryd.prog ts ds).all (· ≤ reachBytes) = true) {j n : Nat} {d : DataW H} {l : List Nm} (hn : l.length = n)
    (ht : ts[j]? = some 22) (hd : ds[j]? = some d) (hx : d = .nil ∧ l = [] ∨ ∃ es sp, d = .slice es sp ∧ es.length = n) : l.length * 32 ≤ 140737488351232 := by
  rcases hx with ⟨_, rfl⟩ | ⟨es, sp, rfl, he⟩
  · simp
  · have := sized_slice h ht hd Tryd.underlying22
    rw [show reachBytes = 140737488351232 from rfl, rbytes25] at this
    have h2 : l.length * 32 ≤ (es.length + sp.length) * 32 := Nat.mul_le_mul_right _ (by omega)
    omega
set_option maxRecDepth 100000 in
/-- A name among the arguments. -/
theorem open_nm {H : Type} {enc : TypeId × Value → H} {W : World} {r : Reach} {base b0 : Nat} {sp : Nat → Bool} {hd : Bool} {v : Value} {d : DataW H} {p : List MemPlace} (hv : Value.okWide Tryd.prog W r b0 25 v)
    (h : DataW.Trod enc Tryd.prog W base sp hd 25 v d p) : ∃ m : Nm, v = nval m ∧ Nmok m := by
  obtain ⟨cs, rfl, _⟩ := okWide_struct rstr25 hv
  obtain ⟨fuel, hf⟩ := h
  obtain ⟨m, hm, hok⟩ := read_nm hf
  refine ⟨m, ?_, hok⟩
  have : cs = #[.string m.f0, .int .i64 m.f1, .int .i64 m.f2] := by
    have h2 : cs.toList = [.string m.f0, .int .i64 m.f1, .int .i64 m.f2] := by simpa [Value.cells, nlist] using hm
    exact Array.ext' (h2.trans rfl)
  rw [this]
  rfl
end Go.Proofs.YtijnlgmclaphhaaDoor
/-! A world for the rows' witness: the two listed tables hold what their initialisers lay. -/
namespace Go.Proofs.YtijnlgmclaphhaaDoor
open Go.ChangeShapes Go.WideShapes Go.ChangeAt Go.RowKit

def firstCells : Array Value := (Go.Pinned.utf8FirstZ.map fun (z : Nat) => Value.int .u8 z).toArray
def acceptCells : Array Value := #[.int .u8 128, .int .u8 191, .int .u8 160, .int .u8 191, .int .u8 128, .int .u8 159, .int .u8 144, .int .u8 191, .int .u8 128, .int .u8 143, .int .u8 0, .int .u8 0, .int .u8 0, .int .u8 0, .int .u8 0, .int .u8 0, .int .u8 0, .int .u8 0, .int .u8 0, .int .u8 0, .int .u8 0, .int .u8 0, .int .u8 0, .int .u8 0, .int .u8 0, .int .u8 0, .int .u8 0, .int .u8 0, .int .u8 0, .int .u8 0, .int .u8 0, .int .u8 0]
def laidAs (cs : Array Value) : Obj → Obj
  | .cells _ t frozen => .cells cs t frozen
  | o => o
noncomputable def laidWorld (os : Os) : World :=
  { World.holding Tryd.prog os ⟨#[], #[], []⟩ with heap := ((World.holding Tryd.prog os ⟨#[], #[], []⟩).heap.modify 1 (laidAs firstCells)).modify 2 (laidAs acceptCells) }
theorem laid_met0 (os : Os) (args : Array Value) : laidMet Tryd.prog Rows.dirOrderRow.laid ((laidWorld os).forCall (fun _ _ => 0) ⟨#[], args, []⟩).memory :=
  laidMet_of_run' 300 (by kernel_rfl) (by kernel_rfl)
end Go.Proofs.YtijnlgmclaphhaaDoor
/-! Arguments read as data: strings, a row of strings. -/
namespace Go.Proofs.YtijnlgmclaphhaaDoor
open Go.ChangeShapes Go.WideShapes Go.ChangeAt Go.RowKit Go.Proofs.YtijnlgmclaphhaaDoorZ Go.Proofs.YtijnlgmclaphhaaDoorW.PrintWords Go.Proofs.YtijnlgmclaphhaaDoorW.PrintLast Go.Proofs.YtijnlgmclaphhaaDoorW.PrintMore
open Go.WideMaps Go.WideElems

theorem rbytes9 : Tryd.prog.bytesOf 9 = 16 := by kernel_rfl
theorem sized_str {H : Type} {ts : List TypeId} {ds : List (DataW H)} (h : (DataW.weightsEach Tryd.prog ts ds).all (· ≤ reachBytes) = true) {j : Nat} {t : TypeId} {s : ByteArray} (ht : ts[j]? = some t) (hd : ds[j]? = some (.lit (.string s.data.toList))) : s.size ≤ 140737488351232 := by
  have := sized_string h ht hd
  rw [show reachBytes = 140737488351232 from rfl] at this
  simpa using this
theorem read_strs {H : Type} {enc : TypeId × Value → H} {W : World} {a0 : Option Addr} {len cap fuel : Nat} {d : DataW H} {p : List MemPlace}
    (hf : DataW.trod enc Tryd.prog W 0 (fun _ => true) true fuel 33 (Value.slice a0 len cap).cells.toList = some (d, p)) :
    ∃ l : List ByteArray, l.length = len ∧ Kd.C Kd.string W a0 l.length l ∧ l.length ≤ cap ∧ (d = .nil ∧ l = [] ∨ ∃ es sp, d = .slice es sp ∧ es = l.map (fun s => DataW.lit (.string s.data.toList)) ∧ es.length = len) := by
  rcases open_strings Tryd.underlying33 Tryd.underlying9 rcells9 hf with ⟨hcs, hx⟩ | ⟨a, len', cap', ss, hcs, _, hl, hm, hz, hx, hcell, hws⟩
  · simp [Value.cells] at hcs
    obtain ⟨rfl, rfl, rfl⟩ := hcs
    simp only [Prod.mk.injEq] at hx
    exact ⟨[], rfl, ⟨rfl, by simp, fun h => absurd h (by simp)⟩, Nat.le_refl _, Or.inl ⟨hx.1, rfl⟩⟩
  · simp [Value.cells] at hcs
    obtain ⟨rfl, rfl, rfl⟩ := hcs
    simp only [Prod.mk.injEq] at hx
    obtain ⟨rfl, rfl⟩ := hx
    simp only [if_true] at hz
    have hlen : (ss.take len).length = len := by rw [List.length_take]; omega
    refine ⟨ss.take len, hlen, ⟨rfl, by unfold maxLen at hm; omega, fun h0 => ⟨a, rfl, fun i x hx => ?_⟩⟩, by omega, Or.inr ⟨_, _, rfl, rfl, ?_⟩⟩
    · have hi : i < len := by
        have := (List.getElem?_eq_some_iff.1 hx).1
        omega
      refine ⟨[.string x], rfl, rfl, fun j u hj => ?_⟩
      have hxs : ss.getD i ByteArray.empty = x := by
        rw [List.getElem?_take, if_pos hi] at hx
        rw [List.getD_eq_getElem?_getD, hx]; rfl
      match j, hj with
      | 0, hj =>
        cases hj
        have := hcell i (by omega)
        rw [hxs] at this
        show W.cell? (a.add (i * 1 + 0)) = _
        rw [Nat.mul_one, Nat.add_zero]
        exact this
    · exact (List.length_map _).trans hlen
theorem sized_strl {H : Type} {ts : List TypeId} {ds : List (DataW H)} (h : (DataW.weightsEach Tryd.prog ts ds).all (· ≤ reachBytes) = true) {j n : Nat} {d : DataW H} {l : List ByteArray} (hn : l.length = n)
    (ht : ts[j]? = some 33) (hd : ds[j]? = some d) (hx : d = .nil ∧ l = [] ∨ ∃ es sp, d = .slice es sp ∧ es = l.map (fun s => DataW.lit (.string s.data.toList)) ∧ es.length = n) : l.length * 16 ≤ 140737488351232 := by
  rcases hx with ⟨_, rfl⟩ | ⟨es, sp, rfl, _, he⟩
  · simp
  · have := sized_slice h ht hd Tryd.underlying33
    rw [show reachBytes = 140737488351232 from rfl, rbytes9] at this
    have h2 : l.length * 16 ≤ (es.length + sp.length) * 16 := Nat.mul_le_mul_right _ (by omega)
    omega
end Go.Proofs.YtijnlgmclaphhaaDoor
