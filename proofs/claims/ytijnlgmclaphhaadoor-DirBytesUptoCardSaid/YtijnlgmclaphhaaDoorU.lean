import Derived.Test.YtijnlgmclaphhaaDoorT
import Derived.RangeFuncBox
/-! Split. -/
namespace Go.Proofs.YtijnlgmclaphhaaDoor
open Go Go.RowKit Go.Shelf
attribute [local go_sem] Oper.semAt_some

def has0 (p : ByteArray) : Bool := decide (0 ≤ Lib.indexByte p.data.toList 0)
def badP (p : ByteArray) : Option Int := if has0 p = true then some 31 else if 32 < p.size then some 32 else none
def firstBad (ps : List ByteArray) : Option Int := ps.findSome? badP
def stepP (out : List ByteArray) (p : ByteArray) : List ByteArray :=
  if p.toList = [] ∨ p.toList = [46] then out else if p.toList = [46, 46] then out.dropLast else out ++ [p]
def outP (ps : List ByteArray) : List ByteArray := ps.foldl stepP []
def splitL (s : ByteArray) : List ByteArray × Int :=
  if 256 < s.size then ([], 32) else match firstBad (pieces s) with
    | some e => ([], e)
    | none => if 16 < (outP (pieces s)).length then ([], 32) else (outP (pieces s), 0)
def strs (l : List ByteArray) : List Value := l.map Value.string

theorem grown_none {W W' : World} (h : W.grownBy W' none) (B : Nat) (w : World) (hw : Below B w W) (hB : B ≤ W.heap.size) : Below B w W' := hw.trans ((Below.refl B W).grown h hB (fun _ e => by cases e))
theorem row_take {W : World} {B : Nat} {e : TypeId} {g n cap : Nat} {xs : List Value} (h : W.ownsRow B e 1 (.slice (some ⟨g, 0, none⟩) n cap) n xs) (k : Nat) (hk : k ≤ n) : W.ownsRow B e 1 (.slice (some ⟨g, 0, none⟩) k cap) k (xs.take k) := by
  obtain ⟨hl, h⟩ := h
  refine ⟨by rw [List.length_take, hl]; omega, ?_⟩
  rcases h with ⟨hv, _⟩ | ⟨g', cap', cur, hv, h1, h2, h3, h4, h5, h6⟩
  · cases hv
  · cases hv
    refine .inr ⟨g, cap, cur, rfl, h1, h2, by omega, h4, h5, ?_⟩
    rw [← h6, List.take_take]
    congr 1
    omega

/-- The caller's cells between two rounds. -/
def SplitI (w : World) (pre : List ByteArray) (W : World) : Prop :=
  firstBad pre = none ∧ Boxed W w.heap.size 33 (.slice none 0 0) ∧ Boxed W (w.heap.size + 1) 26 (.int .i64 0) ∧
  (∃ v, Boxed W (w.heap.size + 2) 33 v ∧ W.ownsRow (w.heap.size + 6) 9 1 v (outP pre).length (strs (outP pre))) ∧ Below w.heap.size w W ∧ w.heap.size + 6 ≤ W.heap.size
def SplitX (w : World) (c : Code) (pre : List ByteArray) (W : World) : Prop :=
  c = .ret ∧ (∃ e, firstBad pre = some e ∧ Boxed W w.heap.size 33 (.slice none 0 0) ∧ Boxed W (w.heap.size + 1) 26 (.int .i64 e)) ∧ Below w.heap.size w W ∧ w.heap.size + 6 ≤ W.heap.size
def RowFree (w W : World) (row : Option Nat) : Prop := ∀ r, row = some r → w.heap.size + 3 ≤ r ∧ (r < w.heap.size + 6 ∨ ∃ o : Obj, W.heap[r]? = some o ∧ o.isCells = false)
theorem SplitI.kept {w W W' : World} {pre : List ByteArray} {row : Option Nat} (h : SplitI w pre W) (hg : W.grownBy W' row) (hr : RowFree w W row) : SplitI w pre W' := by
  obtain ⟨h1, h2, h3, ⟨v, h4, h5⟩, h6, h7⟩ := h
  have ne : ∀ k, k < w.heap.size + 3 → some k ≠ row := fun k hk e => by have := (hr k e.symm).1; omega
  refine ⟨h1, h2.kept hg (ne _ (by omega)), h3.kept hg (ne _ (by omega)), ⟨v, h4.kept hg (ne _ (by omega)), h5.kept hg ?_⟩, h6.grown hg (by omega) (fun k e => by have := (hr k e).1; omega), Nat.le_trans h7 hg.size⟩
  rcases h5.2 with ⟨rfl, _⟩ | ⟨g, cap, cur, rfl, hb, hgb, _⟩
  · exact .inl rfl
  · refine .inr fun e' => ?_
    have e2 : row = some g := by rw [← e']; rfl
    obtain ⟨_, h8 | ⟨o, ho, hc⟩⟩ := hr g e2
    · omega
    · rw [hgb] at ho; cases ho; cases hc
theorem SplitX.kept {w W W' : World} {c : Code} {pre : List ByteArray} {row : Option Nat} (h : SplitX w c pre W) (hg : W.grownBy W' row) (hr : RowFree w W row) : SplitX w c pre W' := by
  obtain ⟨h0, ⟨e, h1, h2, h3⟩, h6, h7⟩ := h
  have ne : ∀ k, k < w.heap.size + 3 → some k ≠ row := fun k hk e => by have := (hr k e.symm).1; omega
  exact ⟨h0, ⟨e, h1, h2.kept hg (ne _ (by omega)), h3.kept hg (ne _ (by omega))⟩, h6.grown hg (by omega) (fun k e => by have := (hr k e).1; omega), Nat.le_trans h7 hg.size⟩
theorem stays_of {β : Type} (w : World) (I : β → World → Prop) (h : ∀ s W W' row, I s W → W.grownBy W' row → RowFree w W row → I s W') (hd : ∀ s W, I s W → I s W.drew) : Stays (w.heap.size + 3) (w.heap.size + 6) I :=
  ⟨⟨fun s W o hs => h s W _ none hs (World.grownBy_alloc W o none) (fun _ e => by cases e), hd, fun s W b v h1 h2 hs => h s W _ (some b) hs (grownBy_setCell' W b v) (fun r e => by cases e; exact ⟨h1, .inl h2⟩)⟩,
   fun s W l o o' hs hl ho hc => h s W _ (some l) hs (grownBy_putObj' W l o') (fun r e => by cases e; exact ⟨by omega, .inr ⟨o, ho, hc⟩⟩)⟩
theorem splitI_stays (w : World) : Stays (w.heap.size + 3) (w.heap.size + 6) (SplitI w) := stays_of w _ (fun _ _ _ _ hs hg hr => hs.kept hg hr) (fun _ _ ⟨h1, h2, h3, ⟨v, h4, h5⟩, h6, h7⟩ => ⟨h1, h2, h3, ⟨v, h4, h5⟩, h6.drew, h7⟩)
theorem splitX_stays (w : World) (c : Code) : Stays (w.heap.size + 3) (w.heap.size + 6) (SplitX w c) := stays_of w _ (fun _ _ _ _ hs hg hr => hs.kept hg hr) (fun _ _ ⟨h0, h1, h6, h7⟩ => ⟨h0, h1, h6.drew, h7⟩)

theorem firstBad_snoc (pre : List ByteArray) (x : ByteArray) (h : firstBad pre = none) : firstBad (pre ++ [x]) = badP x := by
  unfold firstBad at h ⊢
  rw [List.findSome?_append, h]
  simp
theorem firstBad_prefix {a b : List ByteArray} {e : Int} (h : a <+: b) (he : firstBad a = some e) : firstBad b = some e := by
  obtain ⟨t, rfl⟩ := h
  unfold firstBad at he ⊢
  rw [List.findSome?_append, he]; rfl
theorem outP_snoc (pre : List ByteArray) (x : ByteArray) : outP (pre ++ [x]) = stepP (outP pre) x := by unfold outP; rw [List.foldl_append]; rfl
theorem strs_snoc (l : List ByteArray) (x : ByteArray) : strs (l ++ [x]) = strs l ++ [.string x] := by simp [strs]
theorem outP_len (pre : List ByteArray) : (outP pre).length ≤ pre.length := by
  have : ∀ (l : List ByteArray) (acc : List ByteArray), (l.foldl stepP acc).length ≤ acc.length + l.length := by
    intro l
    induction l with
    | nil => intro acc; simp
    | cons a l ih =>
      intro acc
      rw [List.foldl_cons, List.length_cons]
      refine Nat.le_trans (ih _) ?_
      have : (stepP acc a).length ≤ acc.length + 1 := by
        unfold stepP
        split
        · omega
        · split
          · rw [List.length_dropLast]; omega
          · simp
      omega
  have := this pre []
  simpa [outP] using this
theorem cutAt_len (c : UInt8) : ∀ l, (cutAt c l).length ≤ l.length + 1
  | [] => by simp [cutAt]
  | b :: l => by
    have := cutAt_len c l
    unfold cutAt
    split
    · simp; omega
    · split
      · rename_i h; rw [h] at this; simp at this ⊢; omega
      · simp
theorem pieces_len (s : ByteArray) : (pieces s).length ≤ s.size + 1 := by
  unfold pieces
  rw [List.length_map]
  have := cutAt_len 47 s.data.toList
  rw [← Lib.size_eq] at this
  exact this
theorem info9e : (Tryd.prog.info? 9).map (fun i => (i.zero, i.size, i.bytes)) = some (some (.string ⟨#[]⟩), 1, 16) := by kernel_rfl
end Go.Proofs.YtijnlgmclaphhaaDoor
