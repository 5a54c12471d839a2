import Derived.Test.YtijnlgmclaphhaaDoorMBytKC
import Derived.ProofKit
import Derived.SizedLaws
import Derived.Deep.Slices
import Derived.Test.YtijnlgmclaphhaaDoorCards
import Derived.Test.YtijnlgmclaphhaaDoorTie
import Derived.WalkKit
import Derived.OpenShut
import Derived.Deep.DeepHandedRow
import Derived.Lib.LaidTab
import Derived.ShutString
import Derived.SliceStrings
import Derived.Deep.Grids
import Derived.Test.YtijnlgmclaphhaaDoorSh
import Derived.Test.YtijnlgmclaphhaaDoorU
import Derived.Test.YtijnlgmclaphhaaDoorMBytKB
import Derived.Test.YtijnlgmclaphhaaDoorMBytA
/-! Arguments read as data: names, a row of names. -/
namespace Go.Proofs.YtijnlgmclaphhaaDoor
open Go.ChangeShapes Go.WideShapes Go.ChangeAt Go.RowKit Go.Proofs.YtijnlgmclaphhaaDoorZ Go.Proofs.YtijnlgmclaphhaaDoorW.PrintWords Go.Proofs.YtijnlgmclaphhaaDoorW.PrintLast Go.Proofs.YtijnlgmclaphhaaDoorW.PrintMore

theorem rcells25 : Tryd.prog.cellsOf 25 = 3 := by kernel_rfl
theorem rcells3 : Tryd.prog.cellsOf 3 = 1 := by kernel_rfl
theorem rcells9 : Tryd.prog.cellsOf 9 = 1 := by kernel_rfl
theorem rbytes25 : Tryd.prog.bytesOf 25 = 32 := by kernel_rfl
theorem rstr25 : Tryd.prog.underlying 25 = some (.struct (Tryd.prog.fieldsOf 25)) := by kernel_rfl
theorem rfields25 : ((Tryd.prog.fieldsOf 25).toList.map fun f => (f.type, f.offset)) = [(9, 0), (3, 1), (3, 2)] := by kernel_rfl
theorem own_knob : ownKnob Tryd.prog.godebug = none := by kernel_rfl
theorem laid_out : laidOutB Tryd.prog = true := by kernel_rfl
theorem list3 {α : Type} (l : List α) (h : l.length = 3) : ∃ a b c, l = [a, b, c] := by
  match l, h with
  | [a, b, c], _ => exact ⟨a, b, c, rfl⟩
def in64 (z : Int) : Prop := -9223372036854775808 ≤ z ∧ z ≤ 9223372036854775807
def Nmok (m : Nm) : Prop := in64 m.f1 ∧ in64 m.f2
theorem lit_in {z : Int} (hz : (Lit.int .i64 z).wf = true) : in64 z := by
  unfold in64
  simpa [Lit.wf, IntKind.min, IntKind.max, IntKind.signed, IntKind.bits] using hz
/-- One name, read as data. -/
theorem read_nm {H : Type} {enc : TypeId × Value → H} {W : World} {sp : Nat → Bool} {hd : Bool} {n base : Nat} {cs : List Value} {x : DataW H × List MemPlace} (h : DataW.trod enc Tryd.prog W base sp hd n 25 cs = some x) :
    ∃ m : Nm, cs = nlist m ∧ Nmok m := by
  obtain ⟨xs, k, rfl, _, hl, hxl, hf⟩ := DataW.trod_struct rstr25 h
  rw [rcells25] at hl
  obtain ⟨v0, v1, v2, rfl⟩ := list3 cs hl
  have h25 := rfields25
  have hsz : (Tryd.prog.fieldsOf 25).size = 3 := by
    have := congrArg List.length h25
    simpa using this
  have hxl3 : xs.length = 3 := by rw [hxl, hsz]
  obtain ⟨x0, x1, x2, rfl⟩ := list3 xs hxl3
  have get : ∀ (i t o : Nat), ((Tryd.prog.fieldsOf 25).toList.map fun f => (f.type, f.offset))[i]? = some (t, o) → ∃ f : Field, (Tryd.prog.fieldsOf 25)[i]? = some f ∧ f.type = t ∧ f.offset = o := by
    intro i t o he
    rw [List.getElem?_map] at he
    cases hq : (Tryd.prog.fieldsOf 25).toList[i]? with
    | none => rw [hq] at he; cases he
    | some f =>
      rw [hq] at he
      simp at he
      exact ⟨f, by simpa using hq, he.1, he.2⟩
  have fld : ∀ (i t o : Nat), ((Tryd.prog.fieldsOf 25).toList.map fun f => (f.type, f.offset))[i]? = some (t, o) → DataW.trod enc Tryd.prog W base sp hd k t (([v0, v1, v2].drop o).take (Tryd.prog.cellsOf t)) = [x0, x1, x2][i]? := by
    intro i t o he
    obtain ⟨f, h1, h2, h3⟩ := get i t o he
    have := hf i f h1
    rw [h2, h3] at this
    exact this
  have g0 := fld 0 9 0 (by rw [h25]; rfl)
  have g1 := fld 1 3 1 (by rw [h25]; rfl)
  have g2 := fld 2 3 2 (by rw [h25]; rfl)
  rw [rcells9] at g0
  rw [rcells3] at g1 g2
  simp only [List.drop_succ_cons, List.drop_zero, List.take_succ_cons, List.take_zero] at g0 g1 g2
  obtain ⟨a0, e0, _⟩ := DataW.trod_string Tryd.underlying9 g0
  obtain ⟨a1, e1, _, w1⟩ := DataW.trod_int Tryd.underlying3 g1
  obtain ⟨a2, e2, _, w2⟩ := DataW.trod_int Tryd.underlying3 g2
  cases e0; cases e1; cases e2
  exact ⟨⟨a0, a1, a2⟩, rfl, lit_in w1, lit_in w2⟩
theorem choose_list {α : Type} {P : Nat → α → Prop} : ∀ n, (∀ i, i < n → ∃ x, P i x) → ∃ l : List α, l.length = n ∧ ∀ i (h : i < l.length), P i l[i] := by
  intro n
  induction n with
  | zero => intro _; exact ⟨[], rfl, fun i h => absurd h (by simp)⟩
  | succ n ih =>
    intro h
    obtain ⟨l, hl, hp⟩ := ih (fun i hi => h i (by omega))
    obtain ⟨x, hx⟩ := h n (by omega)
    refine ⟨l ++ [x], by simp [hl], fun i hi => ?_⟩
    by_cases hin : i < l.length
    · rw [List.getElem_append_left hin]; exact hp i hin
    · have hi' : i = l.length := by simp at hi; omega
      subst hi'
      simp only [List.getElem_concat_length]
      rw [hl]; exact hx
theorem read_nms {H : Type} {enc : TypeId × Value → H} {W : World} {a0 : Option Addr} {len cap fuel : Nat} {d : DataW H} {p : List MemPlace}
    (hf : DataW.trod enc Tryd.prog W 0 (fun _ => true) true fuel 22 (Value.slice a0 len cap).cells.toList = some (d, p)) :
    ∃ l : List Nm, l.length = len ∧ RowsAt W (.slice a0 len cap) l ∧ (∀ m ∈ l, Nmok m) ∧ (d = .nil ∧ l = [] ∨ ∃ es sp, d = .slice es sp ∧ es.length = len) := by
  rcases Go.Deep.open_slice Tryd.underlying22 hf with ⟨hcs, hx⟩ | ⟨a, len', cap', m, n, D, Pl, hcs, _, hl, hm, hmm, hx, he⟩
  · simp [Value.cells] at hcs
    obtain ⟨rfl, rfl, rfl⟩ := hcs
    simp only [Prod.mk.injEq] at hx
    exact ⟨[], rfl, ⟨none, 0, 0, 0, rfl, Nat.le_refl _, Nat.zero_le _, fun h => absurd h (by simp), fun i hi => absurd hi (by simp)⟩, (fun m hm => nomatch hm), Or.inl ⟨hx.1, rfl⟩⟩
  · simp [Value.cells] at hcs
    obtain ⟨rfl, rfl, rfl⟩ := hcs
    simp only [Prod.mk.injEq] at hx
    simp only [if_true] at hmm
    subst hmm
    rw [rcells25] at he
    have each : ∀ i, i < len → ∃ q : Nm, (∀ j, j < 3 → W.cell? ((a.add (i * 3)).add j) = some (ncell q j)) ∧ Nmok q := by
      intro i hi
      obtain ⟨cs', h1, h2⟩ := he i (by omega)
      obtain ⟨q, rfl, hok⟩ := read_nm h2
      obtain ⟨_, _, h3⟩ := World.cells?_some h1
      refine ⟨q, fun j hj => ?_, hok⟩
      rw [h3 j hj]
      match j, hj with
      | 0, _ => rfl
      | 1, _ => rfl
      | 2, _ => rfl
    obtain ⟨l, hll, hp⟩ := choose_list len each
    obtain ⟨b, off, spot⟩ := a
    have hspot : 0 < len → spot = none := by
      intro h0
      have := World.cell?_spot ((hp 0 (by omega)).1 0 (by omega))
      simpa [Addr.add] using this
    refine ⟨l, hll, ⟨_, m, b, off, by rw [hll], by omega, by unfold maxLen at hm ⊢; omega, fun h0 => ?_, fun i hi j hj => ?_⟩, fun q hq => ?_, Or.inr ⟨_, _, hx.1, by simp⟩⟩
    · obtain rfl := hspot (by omega)
      refine ⟨rfl, ?_⟩
      have := (hp 0 (by omega)).1 0 (by omega)
      rw [add_none, add_none] at this
      exact World.block_lt_of_cell? W _ this
    · obtain rfl := hspot (by omega)
      have := (hp i hi).1 j hj
      rwa [add_none, add_none] at this
    · obtain ⟨i, hi, rfl⟩ := List.getElem_of_mem hq
      exact (hp i hi).2
theorem sized_nms {H : Type} {ts : List TypeId} {ds : List (DataW H)} (h : (DataW.weightsEach Tryd.prog ts ds).all (· ≤ reachBytes) = true) {j n : Nat} {d : DataW H} {l : List Nm} (hn : l.length = n)
    (ht : ts[j]? = some 22) (hd : ds[j]? = some d) (hx : d = .nil ∧ l = [] ∨ ∃ es sp, d = .slice es sp ∧ es.length = n) : l.length * 32 ≤ 140737488351232 := by
  rcases hx with ⟨_, rfl⟩ | ⟨es, sp, rfl, he⟩
  · simp
  · have := sized_slice h ht hd Tryd.underlying22
    rw [show reachBytes = 140737488351232 from rfl, rbytes25] at this
    have h2 : l.length * 32 ≤ (es.length + sp.length) * 32 := Nat.mul_le_mul_right _ (by omega)
    omega
set_option maxRecDepth 100000 in
/-- A name among the arguments. -/
theorem open_nm {H : Type} {enc : TypeId × Value → H} {W : World} {r : Reach} {base b0 : Nat} {sp : Nat → Bool} {hd : Bool} {v : Value} {d : DataW H} {p : List MemPlace} (hv : Value.okWide Tryd.prog W r b0 25 v)
    (h : DataW.Trod enc Tryd.prog W base sp hd 25 v d p) : ∃ m : Nm, v = nval m ∧ Nmok m := by
  obtain ⟨cs, rfl, _⟩ := okWide_struct rstr25 hv
  obtain ⟨fuel, hf⟩ := h
  obtain ⟨m, hm, hok⟩ := read_nm hf
  refine ⟨m, ?_, hok⟩
  have : cs = #[.string m.f0, .int .i64 m.f1, .int .i64 m.f2] := by
    have h2 : cs.toList = [.string m.f0, .int .i64 m.f1, .int .i64 m.f2] := by simpa [Value.cells, nlist] using hm
    exact Array.ext' (h2.trans rfl)
  rw [this]
  rfl
end Go.Proofs.YtijnlgmclaphhaaDoor
/-! A world for the rows' witness: the two listed tables hold what their initialisers lay. -/
namespace Go.Proofs.YtijnlgmclaphhaaDoor
open Go.ChangeShapes Go.WideShapes Go.ChangeAt Go.RowKit

def firstCells : Array Value := (Go.Pinned.utf8FirstZ.map fun (z : Nat) => Value.int .u8 z).toArray
def acceptCells : Array Value := #[.int .u8 128, .int .u8 191, .int .u8 160, .int .u8 191, .int .u8 128, .int .u8 159, .int .u8 144, .int .u8 191, .int .u8 128, .int .u8 143, .int .u8 0, .int .u8 0, .int .u8 0, .int .u8 0, .int .u8 0, .int .u8 0, .int .u8 0, .int .u8 0, .int .u8 0, .int .u8 0, .int .u8 0, .int .u8 0, .int .u8 0, .int .u8 0, .int .u8 0, .int .u8 0, .int .u8 0, .int .u8 0, .int .u8 0, .int .u8 0, .int .u8 0, .int .u8 0]
def laidAs (cs : Array Value) : Obj → Obj
  | .cells _ t frozen => .cells cs t frozen
  | o => o
noncomputable def laidWorld (os : Os) : World :=
  { World.holding Tryd.prog os ⟨#[], #[], []⟩ with heap := ((World.holding Tryd.prog os ⟨#[], #[], []⟩).heap.modify 1 (laidAs firstCells)).modify 2 (laidAs acceptCells) }
theorem laid_met0 (os : Os) (args : Array Value) : laidMet Tryd.prog Rows.dirOrderRow.laid ((laidWorld os).forCall (fun _ _ => 0) ⟨#[], args, []⟩).memory :=
  laidMet_of_run' 300 (by kernel_rfl) (by kernel_rfl)
end Go.Proofs.YtijnlgmclaphhaaDoor
/-! Arguments read as data: strings, a row of strings. -/
namespace Go.Proofs.YtijnlgmclaphhaaDoor
open Go.ChangeShapes Go.WideShapes Go.ChangeAt Go.RowKit Go.Proofs.YtijnlgmclaphhaaDoorZ Go.Proofs.YtijnlgmclaphhaaDoorW.PrintWords Go.Proofs.YtijnlgmclaphhaaDoorW.PrintLast Go.Proofs.YtijnlgmclaphhaaDoorW.PrintMore
open Go.WideMaps Go.WideElems

theorem rbytes9 : Tryd.prog.bytesOf 9 = 16 := by kernel_rfl
theorem sized_str {H : Type} {ts : List TypeId} {ds : List (DataW H)} (h : (DataW.weightsEach Tryd.prog ts ds).all (· ≤ reachBytes) = true) {j : Nat} {t : TypeId} {s : ByteArray} (ht : ts[j]? = some t) (hd : ds[j]? = some (.lit (.string s.data.toList))) : s.size ≤ 140737488351232 := by
  have := sized_string h ht hd
  rw [show reachBytes = 140737488351232 from rfl] at this
  simpa using this
theorem read_strs {H : Type} {enc : TypeId × Value → H} {W : World} {a0 : Option Addr} {len cap fuel : Nat} {d : DataW H} {p : List MemPlace}
    (hf : DataW.trod enc Tryd.prog W 0 (fun _ => true) true fuel 33 (Value.slice a0 len cap).cells.toList = some (d, p)) :
    ∃ l : List ByteArray, l.length = len ∧ Kd.C Kd.string W a0 l.length l ∧ l.length ≤ cap ∧ (d = .nil ∧ l = [] ∨ ∃ es sp, d = .slice es sp ∧ es = l.map (fun s => DataW.lit (.string s.data.toList)) ∧ es.length = len) := by
  rcases open_strings Tryd.underlying33 Tryd.underlying9 rcells9 hf with ⟨hcs, hx⟩ | ⟨a, len', cap', ss, hcs, _, hl, hm, hz, hx, hcell, hws⟩
  · simp [Value.cells] at hcs
    obtain ⟨rfl, rfl, rfl⟩ := hcs
    simp only [Prod.mk.injEq] at hx
    exact ⟨[], rfl, ⟨rfl, by simp, fun h => absurd h (by simp)⟩, Nat.le_refl _, Or.inl ⟨hx.1, rfl⟩⟩
  · simp [Value.cells] at hcs
    obtain ⟨rfl, rfl, rfl⟩ := hcs
    simp only [Prod.mk.injEq] at hx
    obtain ⟨rfl, rfl⟩ := hx
    simp only [if_true] at hz
    have hlen : (ss.take len).length = len := by rw [List.length_take]; omega
    refine ⟨ss.take len, hlen, ⟨rfl, by unfold maxLen at hm; omega, fun h0 => ⟨a, rfl, fun i x hx => ?_⟩⟩, by omega, Or.inr ⟨_, _, rfl, rfl, ?_⟩⟩
    · have hi : i < len := by
        have := (List.getElem?_eq_some_iff.1 hx).1
        omega
      refine ⟨[.string x], rfl, rfl, fun j u hj => ?_⟩
      have hxs : ss.getD i ByteArray.empty = x := by
        rw [List.getElem?_take, if_pos hi] at hx
        rw [List.getD_eq_getElem?_getD, hx]; rfl
      match j, hj with
      | 0, hj =>
        cases hj
        have := hcell i (by omega)
        rw [hxs] at this
        show W.cell? (a.add (i * 1 + 0)) = _
        rw [Nat.mul_one, Nat.add_zero]
        exact this
    · exact (List.length_map _).trans hlen
theorem sized_strl {H : Type} {ts : List TypeId} {ds : List (DataW H)} (h : (DataW.weightsEach Tryd.prog ts ds).all (· ≤ reachBytes) = true) {j n : Nat} {d : DataW H} {l : List ByteArray} (hn : l.length = n)
    (ht : ts[j]? = some 33) (hd : ds[j]? = some d) (hx : d = .nil ∧ l = [] ∨ ∃ es sp, d = .slice es sp ∧ es = l.map (fun s => DataW.lit (.string s.data.toList)) ∧ es.length = n) : l.length * 16 ≤ 140737488351232 := by
  rcases hx with ⟨_, rfl⟩ | ⟨es, sp, rfl, _, he⟩
  · simp
  · have := sized_slice h ht hd Tryd.underlying33
    rw [show reachBytes = 140737488351232 from rfl, rbytes9] at this
    have h2 : l.length * 16 ≤ (es.length + sp.length) * 16 := Nat.mul_le_mul_right _ (by omega)
    omega
end Go.Proofs.YtijnlgmclaphhaaDoor
/-! Join. -/
namespace Go.Proofs.YtijnlgmclaphhaaDoor
open Go.RowKit Go.Proofs.YtijnlgmclaphhaaDoorW.PrintWords
def joinB (l : List ByteArray) : List UInt8 := Lib.join (l.map (·.data.toList)) [47]
def joinL (l : List ByteArray) : ByteArray := ⟨#[47]⟩ ++ ⟨(joinB l).toArray⟩
theorem join48_any (A : Option Addr) (c : Nat) (l : List ByteArray) (w : World) (hr : Kd.C Kd.string w A l.length l) (hc : l.length ≤ c) (hn : l.length ≤ 140737488355328) (hs : (joinB l).length ≤ 140737488355328) :
    Calls Tryd.prog 48 #[.slice A l.length c, .string ⟨#[47]⟩] w fun e w' => e = .returned (.string ⟨(joinB l).toArray⟩) ∧ Below w.heap.size w w' := by
  obtain ⟨_, _, hcell⟩ := hr
  rcases Nat.eq_zero_or_pos l.length with h0 | h0
  · obtain rfl := List.length_eq_zero_iff.1 h0
    exact (Tryd.strings_Join_none A c ⟨#[47]⟩ w).mono fun e w' ⟨he, hw⟩ => ⟨he, hw ▸ Below.refl _ _⟩
  · obtain ⟨ad, rfl, hp⟩ := hcell h0
    obtain ⟨b, off, spot⟩ := ad
    have get : ∀ i (hi : i < l.length), w.cell? ((⟨b, off, spot⟩ : Addr).add (i * 1)) = some (.string l[i]) := by
      intro i hi
      obtain ⟨cs, _, hk, hc⟩ := hp i _ (List.getElem?_eq_getElem hi)
      have e : cs = [.string l[i]] := hk
      subst e
      exact hc 0 _ rfl
    have hsp : spot = none := by
      have := World.cell?_spot (get 0 h0)
      simpa [Addr.add] using this
    subst hsp
    have hb : b < w.heap.size := by
      have := get 0 h0
      rw [add_none] at this
      exact World.block_lt_of_cell? w _ this
    refine Tryd.strings_Join b off c l ⟨#[47]⟩ w ?_ hb hn hc hs
    intro j x hj
    have hjl : j < l.length := (List.getElem?_eq_some_iff.1 hj).1
    have e : l[j] = x := (List.getElem?_eq_some_iff.1 hj).2
    have := get j hjl
    rw [add_none, Nat.mul_one, e] at this
    exact this
theorem joinWalk (A : Option Addr) (c : Nat) (l : List ByteArray) (w : World) (hr : Kd.C Kd.string w A l.length l) (hc : l.length ≤ c) (hn : l.length ≤ 140737488355328) (hs : (joinB l).length ≤ 140737488355328) :
    Calls Tryd.prog 27 #[.slice A l.length c] w fun e w' => e = .returned (.string (joinL l)) ∧ Below w.heap.size w w' := by
  have hb : (⟨(joinB l).toArray⟩ : ByteArray).size ≤ 140737488355328 := by simpa [ByteArray.size] using hs
  have H1 := Lib.hid hr
  clear hr
  go_enter Tryd.func27, Tryd.ntmps27
  go_wp2_with fail
  refine (join48_any A c l w H1.out hc hn hs).mono ?_
  rintro e w' ⟨rfl, hbe⟩
  have HB := Lib.hid hbe
  clear hbe
  generalize hg : (⟨(joinB l).toArray⟩ : ByteArray) = jb at hb
  have hfit : 1 + jb.size ≤ 9223372036854775807 := by omega
  go_wp2
  go_ret
  exact ⟨by unfold joinL; rw [hg]; rfl, HB.out⟩
end Go.Proofs.YtijnlgmclaphhaaDoor
namespace Go.Proofs.YtijnlgmclaphhaaDoorZ
open Go.RowKit Go.Proofs.YtijnlgmclaphhaaDoor Go.Proofs.YtijnlgmclaphhaaDoorW.PrintWords
def dir_Join.f (l : List ByteArray) : Option ByteArray := if l.length ≤ 140737488355328 ∧ (joinB l).length ≤ 140737488355328 then some (joinL l) else none
theorem dir_Join.calls (A : Option Addr) (c : Nat) (l : List ByteArray) (r : ByteArray) (w : World) (hr : Kd.C Kd.string w A l.length l) (hc : l.length ≤ c) (h : dir_Join.f l = some r) :
    Calls Tryd.prog 27 #[.slice A l.length c] w fun e w' => e = .returned (.string r) ∧ Below w.heap.size w w' := by
  unfold dir_Join.f at h
  split at h
  · rename_i hh
    injection h with h
    subst h
    exact joinWalk A c l w hr hc hh.1 hh.2
  · cases h
end Go.Proofs.YtijnlgmclaphhaaDoorZ
/-! Plain laws of paths: pieces of texts put together, what Split leaves, Join. -/
namespace Go.Proofs.YtijnlgmclaphhaaDoor
open Go Go.RowKit Go.Proofs.YtijnlgmclaphhaaDoorZ Go.Proofs.YtijnlgmclaphhaaDoorW.PrintWords

theorem cut_eq (c : UInt8) (l : List UInt8) : cutAt c (c :: l) = [] :: cutAt c l := by
  conv => lhs; unfold cutAt
  rw [if_pos rfl]
theorem cut_ne {c x : UInt8} {l p : List UInt8} {ps : List (List UInt8)} (h : ¬ x = c) (e : cutAt c l = p :: ps) : cutAt c (x :: l) = (x :: p) :: ps := by
  conv => lhs; unfold cutAt
  rw [if_neg h, e]
theorem cut_some (c : UInt8) (l : List UInt8) : ∃ p ps, cutAt c l = p :: ps := by
  cases e : cutAt c l with
  | nil => exact absurd e (cutAt_ne c l)
  | cons p ps => exact ⟨p, ps, rfl⟩
theorem cut_append (c : UInt8) : ∀ a b : List UInt8, cutAt c (a ++ c :: b) = cutAt c a ++ cutAt c b
  | [], b => by rw [List.nil_append, cut_eq]; rfl
  | x :: a, b => by
    rw [List.cons_append]
    have ih := cut_append c a b
    by_cases h : x = c
    · subst h; rw [cut_eq, cut_eq, ih]; rfl
    · obtain ⟨p, ps, e⟩ := cut_some c a
      rw [e, List.cons_append] at ih
      rw [cut_ne h ih, cut_ne h e]; rfl
theorem cut_mem (c : UInt8) : ∀ (l p : List UInt8), p ∈ cutAt c l → c ∉ p
  | [], p, h => by
    have : p = [] := by simpa [cutAt] using h
    rw [this]; simp
  | x :: l, p, h => by
    by_cases hx : x = c
    · subst hx
      rw [cut_eq] at h
      rcases List.mem_cons.1 h with rfl | h
      · simp
      · exact cut_mem _ l p h
    · obtain ⟨q, qs, e⟩ := cut_some c l
      rw [cut_ne hx e] at h
      rcases List.mem_cons.1 h with rfl | h
      · have := cut_mem c l q (by rw [e]; simp)
        rw [List.mem_cons]
        rintro (hq | hq)
        · exact hx hq.symm
        · exact this hq
      · exact cut_mem c l p (by rw [e]; exact List.mem_cons_of_mem _ h)
theorem cut_weight (c : UInt8) : ∀ l : List UInt8, ((cutAt c l).map fun p => p.length + 1).sum = l.length + 1
  | [] => rfl
  | x :: l => by
    have ih := cut_weight c l
    by_cases hx : x = c
    · subst hx; rw [cut_eq, List.map_cons, List.sum_cons, ih, List.length_cons, List.length_nil]; omega
    · obtain ⟨q, qs, e⟩ := cut_some c l
      rw [cut_ne hx e]
      rw [e] at ih
      simp only [List.map_cons, List.sum_cons, List.length_cons] at ih ⊢
      omega
theorem cut_free (c : UInt8) (l : List UInt8) (h : c ∉ l) : cutAt c l = [l] :=
  cutAt_none c l fun k hk => h (List.mem_of_getElem? hk)

def mkB (l : List UInt8) : ByteArray := ⟨l.toArray⟩
theorem mkB_data (s : ByteArray) : mkB s.data.toList = s := by unfold mkB; simp
theorem data_mkB (l : List UInt8) : (mkB l).data.toList = l := by unfold mkB; simp
theorem mkB_toList (l : List UInt8) : (mkB l).toList = l := by rw [Lib.toList_data, data_mkB]
theorem mkB_size (l : List UInt8) : (mkB l).size = l.length := by unfold mkB; simp [ByteArray.size]
theorem size_data (s : ByteArray) : s.size = s.data.toList.length := (Array.length_toList (xs := s.data)).symm
theorem app_data (a b : ByteArray) : (a ++ b).data.toList = a.data.toList ++ b.data.toList := by simp
theorem pieces_eq (s : ByteArray) : pieces s = (cutAt 47 s.data.toList).map mkB := rfl
theorem pieces_join (t : ByteArray) (r : List UInt8) (c : ByteArray) (hc : c.data.toList = 47 :: r) : pieces (t ++ c) = pieces t ++ (cutAt 47 r).map mkB := by
  rw [pieces_eq, app_data, hc, cut_append, List.map_append, ← pieces_eq]

/-- A name that a path can leave. -/
structure Okp (n : ByteArray) : Prop where
  zero : has0 n = false
  most : n.size ≤ 32
  some : n.toList ≠ []
  dot : n.toList ≠ [46]
  dots : n.toList ≠ [46, 46]
  free : (47 : UInt8) ∉ n.data.toList
theorem Okp.least {n : ByteArray} (h : Okp n) : 1 ≤ n.size := by
  have := h.some
  rw [Lib.toList_data] at this
  rw [size_data]
  cases e : n.data.toList with
  | nil => exact absurd e this
  | cons => simp
theorem badP_none {p : ByteArray} (h : badP p = none) : has0 p = false ∧ p.size ≤ 32 := by
  unfold badP at h
  split at h
  · cases h
  · split at h
    · cases h
    · exact ⟨by rename_i h1 _; simpa using h1, by omega⟩
theorem Okp.bad {p : ByteArray} (h : Okp p) : badP p = none := by
  unfold badP
  have := h.most
  rw [if_neg (by rw [h.zero]; simp), if_neg (by omega)]
theorem firstBad_none {ps : List ByteArray} : firstBad ps = none ↔ ∀ p ∈ ps, badP p = none := by
  unfold firstBad; rw [List.findSome?_eq_none_iff]
theorem badP_code {p : ByteArray} {e : Int} (h : badP p = some e) : e = 31 ∨ e = 32 := by
  unfold badP at h
  split at h
  · injection h with h; exact .inl h.symm
  · split at h
    · injection h with h; exact .inr h.symm
    · cases h
theorem firstBad_code {ps : List ByteArray} {e : Int} (h : firstBad ps = some e) : e = 31 ∨ e = 32 := by
  unfold firstBad at h
  obtain ⟨p, _, hp⟩ := List.exists_of_findSome?_eq_some h
  exact badP_code hp
theorem step_ok {n : ByteArray} (h : Okp n) (out : List ByteArray) : stepP out n = out ++ [n] := by
  unfold stepP
  rw [if_neg (by rintro (h1 | h1); exact h.some h1; exact h.dot h1), if_neg h.dots]
theorem fold_ok : ∀ (l out : List ByteArray), (∀ n ∈ l, Okp n) → l.foldl stepP out = out ++ l
  | [], out, _ => by simp
  | n :: l, out, h => by
    rw [List.foldl_cons, step_ok (h n (by simp)), fold_ok l _ fun m hm => h m (List.mem_cons_of_mem _ hm), List.append_assoc]; rfl
theorem fold_okp : ∀ (ps out : List ByteArray), (∀ p ∈ ps, badP p = none ∧ (47 : UInt8) ∉ p.data.toList) → (∀ n ∈ out, Okp n) → ∀ n ∈ ps.foldl stepP out, Okp n
  | [], out, _, h => h
  | p :: ps, out, hp, h => by
    rw [List.foldl_cons]
    refine fold_okp ps _ (fun q hq => hp q (List.mem_cons_of_mem _ hq)) ?_
    unfold stepP
    split
    · exact h
    · split
      · exact fun n hn => h n (List.dropLast_subset _ hn)
      · rename_i h1 h2
        intro n hn
        rcases List.mem_append.1 hn with hn | hn
        · exact h n hn
        · have e : n = p := by simpa using hn
          subst e
          obtain ⟨hb, hf⟩ := hp n (by simp)
          exact ⟨(badP_none hb).1, (badP_none hb).2, fun e => h1 (.inl e), fun e => h1 (.inr e), h2, hf⟩
def wt (ps : List ByteArray) : Nat := (ps.map fun p => p.size + 1).sum
theorem wt_append (a b : List ByteArray) : wt (a ++ b) = wt a + wt b := by simp [wt]
theorem wt_cons (a : ByteArray) (b : List ByteArray) : wt (a :: b) = a.size + 1 + wt b := by simp [wt]
theorem wt_dropLast : ∀ l : List ByteArray, wt l.dropLast ≤ wt l
  | [] => Nat.le_refl _
  | [a] => by simp [wt]
  | a :: b :: l => by
    rw [List.dropLast_cons_of_ne_nil (by simp), wt_cons, wt_cons]
    have := wt_dropLast (b :: l)
    omega
theorem fold_wt : ∀ ps out : List ByteArray, wt (ps.foldl stepP out) ≤ wt out + wt ps
  | [], out => by simp [wt]
  | p :: ps, out => by
    rw [List.foldl_cons, wt_cons]
    have h1 := fold_wt ps (stepP out p)
    have h2 : wt (stepP out p) ≤ wt out + (p.size + 1) := by
      unfold stepP
      split
      · omega
      · split
        · have := wt_dropLast out; omega
        · rw [wt_append]; simp [wt]
    omega
theorem wt_pieces (s : ByteArray) : wt (pieces s) = s.size + 1 := by
  unfold wt
  rw [pieces_eq, List.map_map, size_data s, ← cut_weight 47]
  exact congrArg List.sum (List.map_congr_left fun p _ => congrArg (· + 1) (mkB_size p))
theorem pieces_free {s p : ByteArray} (h : p ∈ pieces s) : (47 : UInt8) ∉ p.data.toList := by
  rw [pieces_eq] at h
  obtain ⟨q, hq, rfl⟩ := List.mem_map.1 h
  rw [data_mkB]
  exact cut_mem _ _ _ hq
/-- What Split answers: names, or a code. -/
theorem split_cases (s : ByteArray) : (splitL s).1 = [] ∧ ((splitL s).2 = 31 ∨ (splitL s).2 = 32) ∨ (splitL s).2 = 0 ∧ s.size ≤ 256 ∧ (splitL s).1 = outP (pieces s) ∧ (splitL s).1.length ≤ 16 ∧ ∀ n ∈ (splitL s).1, Okp n := by
  unfold splitL
  split
  · exact .inl ⟨rfl, .inr rfl⟩
  · rename_i h
    split
    · rename_i e he; exact .inl ⟨rfl, firstBad_code he⟩
    · rename_i he
      split
      · exact .inl ⟨rfl, .inr rfl⟩
      · rename_i h2
        refine .inr ⟨rfl, by omega, rfl, Nat.le_of_not_lt h2, ?_⟩
        exact fold_okp _ _ (fun p hp => ⟨firstBad_none.1 he p hp, pieces_free hp⟩) (fun n hn => nomatch hn)
theorem split_ok {s : ByteArray} {l : List ByteArray} (h : s.size ≤ 256) (hb : ∀ p ∈ pieces s, badP p = none) (ho : outP (pieces s) = l) (hl : l.length ≤ 16) : splitL s = (l, 0) := by
  unfold splitL
  rw [if_neg (by omega), firstBad_none.2 hb, ho]
  show (if 16 < l.length then _ else _) = _
  rw [if_neg (by omega)]

theorem joinB_cons (x : ByteArray) (r : List ByteArray) : joinB (x :: r) = x.data.toList ++ Lib.joinTail [47] (r.map (·.data.toList)) := by
  unfold joinB; rw [List.map_cons, Lib.join_cons]
theorem tail_cons (x : ByteArray) (r : List ByteArray) : Lib.joinTail [47] ((x :: r).map (·.data.toList)) = 47 :: joinB (x :: r) := by
  rw [joinB_cons]
  unfold Lib.joinTail
  simp only [List.map_cons, List.flatten_cons, List.cons_append, List.nil_append]
theorem joinB_len : ∀ (r : List ByteArray) (x : ByteArray), (joinB (x :: r)).length + 1 = wt (x :: r)
  | [], x => by
    rw [joinB_cons, wt_cons, List.length_append, size_data]
    simp [Lib.joinTail, wt]
  | y :: r, x => by
    have := joinB_len r y
    rw [joinB_cons, tail_cons, List.length_append, List.length_cons, wt_cons, size_data]
    omega
theorem joinB_cut : ∀ (r : List ByteArray) (x : ByteArray), (∀ n ∈ x :: r, (47 : UInt8) ∉ n.data.toList) → cutAt 47 (joinB (x :: r)) = (x :: r).map (·.data.toList)
  | [], x, h => by
    rw [joinB_cons]
    simp only [List.map_nil, Lib.joinTail, List.flatten_nil, List.append_nil, List.map_cons]
    exact cut_free _ _ (h x (by simp))
  | y :: r, x, h => by
    rw [joinB_cons, tail_cons, cut_append, joinB_cut r y fun n hn => h n (List.mem_cons_of_mem _ hn), cut_free _ _ (h x (by simp))]
    rfl
theorem joinL_data (l : List ByteArray) : (joinL l).data.toList = 47 :: joinB l := by
  unfold joinL; rw [app_data]; rfl
theorem joinL_size (l : List ByteArray) : (joinL l).size = 1 + (joinB l).length := by rw [size_data, joinL_data, List.length_cons]; omega
def restP : List ByteArray → List ByteArray
  | [] => [mkB []]
  | x :: r => x :: r
theorem has0_empty : has0 (mkB []) = false := by decide
theorem bad_empty : badP (mkB []) = none := by decide
/-- A path's names, put together, say themselves again. -/
theorem split_join {l : List ByteArray} (h : ∀ n ∈ l, Okp n) (hl : l.length ≤ 16) (hs : (joinL l).size ≤ 256) : splitL (joinL l) = (l, 0) := by
  have hp : pieces (joinL l) = mkB [] :: restP l := by
    rw [pieces_eq, joinL_data, cut_eq, List.map_cons]
    cases l with
    | nil => rfl
    | cons x r =>
      rw [joinB_cut r x fun n hn => (h n hn).free, List.map_map]
      have e : (x :: r).map (mkB ∘ fun n => n.data.toList) = x :: r := (List.map_congr_left (g := id) fun n _ => mkB_data n).trans (List.map_id _)
      rw [e]; rfl
  have he : stepP [] (mkB []) = [] := by unfold stepP; rw [if_pos (by rw [mkB_toList]; exact .inl rfl)]
  refine split_ok hs ?_ ?_ hl
  · rw [hp]
    intro p hp
    rcases List.mem_cons.1 hp with rfl | hp
    · exact bad_empty
    · cases l with
      | nil =>
        have e : p = mkB [] := by simpa [restP] using hp
        subst e; exact bad_empty
      | cons x r => exact (h p hp).bad
  · rw [hp]
    unfold outP
    rw [List.foldl_cons, he]
    cases l with
    | nil =>
      show List.foldl stepP [] [mkB []] = []
      rw [List.foldl_cons, he]; rfl
    | cons x r => exact fold_ok (x :: r) [] h
theorem rdB_at (l : List ByteArray) (i : Nat) (h : i < l.length) : rdOf ByteArray.empty l (i : Int) = l[i] := by
  unfold rdOf
  rw [Int.toNat_natCast, List.getD_eq_getElem?_getD, List.getElem?_eq_getElem h]; rfl
theorem texts_loop (l : List ByteArray) (hl : l.length ≤ 1000000) (n : Nat) : ∀ (k i : Nat), l.length - i = n → i ≤ l.length → n < k → gatehouseref13_SameTexts.l0 k l l (l.length : Int) (i : Int) = some true := by
  induction n with
  | zero =>
    intro k i h hi hk
    obtain ⟨k, rfl⟩ : ∃ q, k = q + 1 := ⟨k - 1, by omega⟩
    simp only [gatehouseref13_SameTexts.l0]
    rw [if_neg (by omega)]
  | succ n ih =>
    intro k i h hi hk
    obtain ⟨k, rfl⟩ : ∃ q, k = q + 1 := ⟨k - 1, by omega⟩
    simp only [gatehouseref13_SameTexts.l0]
    rw [if_pos (by omega), if_pos (by omega), if_pos (by omega), if_pos (by omega), if_true, w64 (x := (i : Int) + 1) (by omega) (by omega)]
    exact ih k (i + 1) (by omega) (by omega) (by omega)
theorem texts_self (l : List ByteArray) (hl : l.length ≤ 1000000) (k : Nat) (hk : l.length < k) : gatehouseref13_SameTexts.f k l l = some true := by
  unfold gatehouseref13_SameTexts.f
  rw [if_pos rfl]
  exact texts_loop l hl l.length k 0 (by omega) (by omega) hk
end Go.Proofs.YtijnlgmclaphhaaDoor
/-! What the second form's bound says of the arguments. -/
namespace Go.Proofs.YtijnlgmclaphhaaDoor
open Go Go.RowKit

theorem bulk_mem {H : Type} : ∀ {ds : List (DataW H)} {d : DataW H}, d ∈ ds → Rows.uptoBulk d ≤ Rows.uptoBulkAll ds
  | x :: r, d, h => by
    rw [Rows.uptoBulkAll]
    rcases List.mem_cons.1 h with rfl | h
    · omega
    · have := bulk_mem h; omega
theorem bulk_at {H : Type} {ds : List (DataW H)} (h : Rows.uptoSmall H ds = true) {j : Nat} {d : DataW H} (hd : ds[j]? = some d) : Rows.uptoBulk d ≤ 1048576 :=
  Nat.le_trans (bulk_mem (List.mem_of_getElem? hd)) (of_decide_eq_true h)
theorem bulk_str {H : Type} {ds : List (DataW H)} (h : Rows.uptoSmall H ds = true) {j : Nat} {s : ByteArray} (hd : ds[j]? = some (.lit (.string s.data.toList))) : s.size ≤ 1048576 := by
  have := bulk_at h hd
  rw [Rows.uptoBulk] at this
  rw [size_data]; omega
theorem bulk_pos {H : Type} (d : DataW H) : 1 ≤ Rows.uptoBulk d := by
  cases d with
  | lit l => cases l <;> simp [Rows.uptoBulk]
  | _ => simp [Rows.uptoBulk]
theorem bulk_len {H : Type} : ∀ l : List (DataW H), l.length ≤ Rows.uptoBulkAll l
  | [] => Nat.zero_le _
  | d :: r => by
    have h1 := bulk_pos d
    have h2 := bulk_len r
    rw [Rows.uptoBulkAll, List.length_cons]; omega
theorem bulk_nms {H : Type} {ds : List (DataW H)} (h : Rows.uptoSmall H ds = true) {j n : Nat} {d : DataW H} {l : List Nm} (hn : l.length = n) (hd : ds[j]? = some d) (hx : d = .nil ∧ l = [] ∨ ∃ es sp, d = .slice es sp ∧ es.length = n) : l.length ≤ 1048576 := by
  have h1 := bulk_at h hd
  rcases hx with ⟨_, rfl⟩ | ⟨es, sp, rfl, he⟩
  · exact Nat.zero_le _
  · rw [Rows.uptoBulk] at h1
    have := bulk_len es
    omega
theorem bulk_wt {H : Type} : ∀ l : List ByteArray, Rows.uptoBulkAll (l.map fun s => (DataW.lit (.string s.data.toList) : DataW H)) = wt l
  | [] => rfl
  | s :: l => by rw [List.map_cons, Rows.uptoBulkAll, Rows.uptoBulk, bulk_wt l, wt_cons, size_data]
theorem bulk_strs {H : Type} {ds : List (DataW H)} (h : Rows.uptoSmall H ds = true) {j n : Nat} {d : DataW H} {l : List ByteArray} (hd : ds[j]? = some d)
    (hx : d = .nil ∧ l = [] ∨ ∃ es sp, d = .slice es sp ∧ es = l.map (fun s => DataW.lit (.string s.data.toList)) ∧ es.length = n) : wt l ≤ 1048576 := by
  have h1 := bulk_at h hd
  rcases hx with ⟨_, rfl⟩ | ⟨es, sp, rfl, he, _⟩
  · exact Nat.zero_le _
  · rw [Rows.uptoBulk, he, bulk_wt] at h1
    omega
end Go.Proofs.YtijnlgmclaphhaaDoor
