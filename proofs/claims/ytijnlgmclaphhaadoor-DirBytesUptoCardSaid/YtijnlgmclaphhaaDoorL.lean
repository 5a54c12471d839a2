import Derived.RangeFuncNested
import Derived.RangeFuncBound
import Derived.RangeFuncCalls
import Derived.RangeFuncLeaves
import Derived.RangeFuncFrom
import Derived.Shelf.Abstract
import Derived.Shelf.RegionOpen
import Derived.WalkKit
import Derived.OwnWalkIn
import Derived.TacticsInMore
import Derived.LoopNIn
import Derived.LoopIn
import Derived.Maps.AppendAt
import Derived.Test.YtijnlgmclaphhaaDoorProg
/-! A range over a function whose iterator has state of its own in cells: blocks lo .. hi - 1 are the iterator's, all others the caller's. -/
namespace Go.Proofs.YtijnlgmclaphhaaDoor
open Go Go.RowKit

/-- An invariant abides what the iterator does between two rounds: new blocks, draws, stores into its own blocks. -/
structure Calm {β : Type} (lo hi : Nat) (J : β → World → Prop) : Prop where
  new : ∀ s W o, J s W → J s (W.alloc o)
  drew : ∀ s W, J s W → J s W.drew
  set : ∀ s W b v, lo ≤ b → b < hi → J s W → J s (W.setCell ⟨b, 0, none⟩ v)

/-- What a round keeps: the iterator's blocks. -/
def Keep (lo hi : Nat) (A B : World) : Prop := ∀ k, lo ≤ k → k < hi → B.heap[k]? = A.heap[k]?
theorem Keep.refl (lo hi : Nat) (A : World) : Keep lo hi A A := fun _ _ _ => rfl
theorem Keep.trans {lo hi : Nat} {A B C : World} (h : Keep lo hi A B) (k : Keep lo hi B C) : Keep lo hi A C := fun i h1 h2 => (k i h1 h2).trans (h i h1 h2)
theorem Keep.putObj {lo hi : Nat} (A : World) (l : Nat) (o : Obj) (h : hi ≤ l) : Keep lo hi A (A.putObj l o) := fun k _ h2 => World.putObj_heap_other (by omega)

/-- .. and what the law's own book-keeping does. -/
structure Stays {β : Type} (lo hi : Nat) (I : β → World → Prop) : Prop where
  calm : Calm lo hi I
  obj : ∀ s W l o o', I s W → hi ≤ l → W.heap[l]? = some o → o.isCells = false → I s (W.putObj l o')

/-- A block that holds no cells. -/
theorem calm_others {β : Type} (lo hi k : Nat) (o : Obj) (h : o.isCells = false) : Calm lo hi (fun (_ : β) W => W.heap[k]? = some o) :=
  ⟨fun _ W x hk => (KeepsOthers.alloc W x).same k o hk h, fun _ _ hk => hk, fun _ W b v _ _ hk => (KeepsOthers.setCell W ⟨b, 0, none⟩ v).same k o hk h⟩
theorem Calm.and {β : Type} {lo hi : Nat} {I J : β → World → Prop} (h : Calm lo hi I) (k : Calm lo hi J) : Calm lo hi (fun s W => I s W ∧ J s W) :=
  ⟨fun s W o x => ⟨h.new s W o x.1, k.new s W o x.2⟩, fun s W x => ⟨h.drew s W x.1, k.drew s W x.2⟩, fun s W b v h1 h2 x => ⟨h.set s W b v h1 h2 x.1, k.set s W b v h1 h2 x.2⟩⟩
theorem Calm.ex {β γ : Type} {lo hi : Nat} {I : γ → β → World → Prop} (h : ∀ c, Calm lo hi (I c)) : Calm lo hi (fun s W => ∃ c, I c s W) :=
  ⟨fun s W o ⟨c, x⟩ => ⟨c, (h c).new s W o x⟩, fun s W ⟨c, x⟩ => ⟨c, (h c).drew s W x⟩, fun s W b v h1 h2 ⟨c, x⟩ => ⟨c, (h c).set s W b v h1 h2 x⟩⟩

variable {F : Fence} {n : Nat} {P : Program}
/-- The iterator's contract. -/
def Gives {α : Type} (F : Fence) (n : Nat) (P : Program) (g : Nat) (lb : Array Value) (encs : α → Array Value) (lo hi : Nat) (ok : List α → α → Prop) (S Sp : List α → Prop) (w : World) : Prop :=
  ∀ (l : Nat) (J Jx : List α → World → Prop) (W : World), Below w.heap.size w W → Calm lo hi J → Calm lo hi Jx →
    (∀ pre x W1, J pre W1 → ok pre x → YieldAt F (n - 1) P l (encs x) W1 fun e W' =>
      (e = .returned (.bool true) ∧ J (pre ++ [x]) W' ∧ Keep lo hi W1 W') ∨ (e = .returned (.bool false) ∧ Jx (pre ++ [x]) W')) →
    J [] W →
    CallsIn F n P g (#[.func (.yield l) #[] #[]] ++ lb) W fun e W' => (∃ v, e = .returned v) ∧ ((∃ xs, S xs ∧ J xs W') ∨ (∃ pre, Sp pre ∧ Jx pre W'))

theorem range_own {α : Type} {g : Operand} {ps : Array Tmp} {assign body : Code} {Q : Exit → Act → World → Prop} {a : Act} {w : World}
    (hro : F.round = none) (h1 : 1 ≤ n) {gf : Nat} {lb : Array Value} (hg : a.eval g = .func (.func gf) #[] lb) (hFg : F.fn gf) (eg : ∀ args w, (callFunc gf args).run P w = .ok (.enter gf args) w)
    {encs : α → Array Value} {lo hi : Nat} {ok : List α → α → Prop} {S Sp : List α → Prop} (hseq : Gives F (n - 1) P gf lb encs lo hi ok S Sp w) (hhi : hi ≤ w.heap.size) (hps : ∀ x, (encs x).size = ps.size)
    (I : List α → World → Prop) (Ix : Code → List α → World → Prop) (hI : Stays lo hi I) (hIx : ∀ c, Stays lo hi (Ix c)) (h0 : I [] w)
    (Ax : List α → α → Act → World → Prop) (hAx : ∀ pre x a', Stays lo hi (fun (_ : Unit) W => Ax pre x a' W))
    (hassign : ∀ (l : Nat) (pre : List α) (x : α) (W : World) (K : Act → World → Prop), I pre W → ok pre x → (∀ a' W', KeepsOthers W W' → Keep lo hi W W' → Ax pre x a' W' → K a' W') →
      assign.wpIn (F.inRound l) (n - 1 - 1) P (Exit.then K (fun _ _ _ => False)) { tmps := (ps.zip (encs x)).foldl (fun t (p, v) => t.setIfInBounds p v) a.tmps, defers := [] } W)
    (hbody : ∀ (l : Nat) (pre : List α) (x : α) (a' : Act) (W : World), Ax pre x a' W → ok pre x → body.wpIn (F.inRound l) (n - 1 - 1) P (ownPostK (Keep lo hi) I Ix (pre ++ [x]) W) a' W)
    (hdone : ∀ (D : Nat) (xs : List α) (W : World), w.heap.size ≤ D → S xs → I xs W → W.heap[D]? = some (.deferred (some [])) → Q .normal { a with defers := { target := .collected D, args := #[] } :: a.defers } W)
    (hstop : ∀ (D : Nat) (c : Code) (pre : List α) (W : World), w.heap.size ≤ D → Sp pre → Ix c pre W → W.heap[D]? = some (.deferred (some [])) → c.wpIn F n P Q { a with defers := { target := .collected D, args := #[] } :: a.defers } W) :
    (Code.rangeFunc g ps assign body).wpIn F n P Q a w := by
  refine wpIn_rangeFunc fun fn hfn => ?_
  rw [hro]
  -- the loop's record R, by what it is at; the blocks D (deferred calls) and L (the record)
  obtain ⟨R, hR⟩ : ∃ R : LoopState → Option Code → Loop, R = fun st pe => { state := st, pending := pe, fn, tmps := a.tmps, params := ps, assign, body, defers := w.heap.size } := ⟨_, rfl⟩
  obtain ⟨V, hV⟩ : ∃ V, V = (w.alloc (.deferred (some []))).alloc (.loop (R .ready none)) := ⟨_, rfl⟩
  obtain ⟨D, hD⟩ : ∃ D, D = w.heap.size := ⟨_, rfl⟩
  obtain ⟨L, hL⟩ : ∃ L, L = w.heap.size + 1 := ⟨_, rfl⟩
  have hDL : D ≠ L := by omega
  have hiD : hi ≤ D := by omega
  have hiL : hi ≤ L := by omega
  have vL : V.heap[L]? = some (.loop (R .ready none)) := by
    have := World.alloc_heap_new (w.alloc (.deferred (some []))) (.loop (R .ready none))
    rw [World.size_alloc] at this
    rw [hV, hL]; exact this
  have vD : V.heap[D]? = some (.deferred (some [])) := by
    rw [hV, hD]; exact (Below.heap_alloc _ _ _ (by simp)).trans (World.alloc_heap_new w _)
  refine ⟨L, [{ target := .collected D, args := #[] }], V, { target := .fn (.func gf) lb, args := #[.func (.yield L) #[] #[]] }, V, gf, #[.func (.yield L) #[] #[]] ++ lb, V, ?_, ?_, ?_, ?_, fun _ => h1, ?_⟩
  · rw [hV, hR, hD, hL]; exact run_enterLoop_outer _ _ _ _ _
  · simp only [resolve, hg]; simp [go_sem]
  · intro f' hf'; simp [Target.leads] at hf'; subst hf'; exact hFg
  · simp [invoke, go_sem, eg]
  refine (hseq L (fun pre W => I pre W ∧ W.heap[L]? = some (.loop (R .ready none)) ∧ W.heap[D]? = some (.deferred (some [])))
    (fun pre W => ∃ c, Ix c pre W ∧ W.heap[L]? = some (.loop (R .done (some c))) ∧ W.heap[D]? = some (.deferred (some []))) V
    (by rw [hV]; exact ((Below.refl _ w).alloc (Nat.le_refl _) _).alloc (by simp) _)
    (hI.calm.and ((calm_others lo hi L _ rfl).and (calm_others lo hi D _ rfl)))
    (Calm.ex fun c => (hIx c).calm.and ((calm_others lo hi L _ rfl).and (calm_others lo hi D _ rfl)))
    ?round ⟨by rw [hV]; exact hI.calm.new _ _ _ (hI.calm.new _ _ _ h0), vL, vD⟩).mono ?behind
  case round =>
    rintro pre x W ⟨iW, wL, wD⟩ hok
    have hy := run_yield (P := P) (args := encs x) wL (by rw [hR]; exact hps x)
    rw [hR] at hy
    refine ⟨fn, _, assign, body, hy, roundIn_of_wpIn hfn (hassign _ pre x W _ iW hok fun a' X kX bX aX => ?_)⟩
    have xL := kX.same _ _ wL rfl
    have xD := kX.same _ _ wD rfl
    obtain ⟨B, hB⟩ : ∃ B : Loop, B = { R .ready none with state := .busy } := ⟨_, rfl⟩
    obtain ⟨Y, hY⟩ : ∃ Y, Y = X.putObj L (.loop B) := ⟨_, rfl⟩
    have yL : Y.heap[L]? = some (.loop B) := by rw [hY]; exact World.putObj_heap_same (Array.getElem?_eq_some_iff.1 xL).1
    have yD : Y.heap[D]? = some (.deferred (some [])) := by rw [hY]; exact (World.putObj_heap_other hDL).trans xD
    refine ⟨Y, by rw [hY, hB]; exact run_beginRound xL (by rw [hR]), wpIn_mono (hbody L pre x a' Y (by rw [hY]; exact (hAx pre x a').obj () X L _ _ aX hiL xL rfl) hok) ?_⟩
    -- the round's end, at a jump or none
    have fin : ∀ (j : Option Code) (Z : World), KeepsOthers Y Z → (Instr.endRound L j).run P Z = .ok (.bool j.isNone) (Z.putObj L (.loop (R (if j.isNone then .ready else .done) j))) ∧ Z.heap[L]? = some (.loop B) ∧
        (Z.putObj L (.loop (R (if j.isNone then .ready else .done) j))).heap[L]? = some (.loop (R (if j.isNone then .ready else .done) j)) ∧ (Z.putObj L (.loop (R (if j.isNone then .ready else .done) j))).heap[D]? = some (.deferred (some [])) := by
      intro j Z kZ
      have zL := kZ.same _ _ yL rfl
      refine ⟨?_, zL, World.putObj_heap_same (Array.getElem?_eq_some_iff.1 zL).1, (World.putObj_heap_other hDL).trans (kZ.same _ _ yD rfl)⟩
      have := run_endRound (P := P) j zL
      rw [hB, hR] at this
      rw [hR]; exact this
    intro e a3 Z hp
    cases e with
    | normal =>
      obtain ⟨kZ, bZ, iZ⟩ := hp
      obtain ⟨f1, f2, f3, f4⟩ := fin none Z kZ
      refine ⟨_, _, f1, .inl ⟨rfl, ⟨hI.obj _ _ _ _ _ iZ hiL f2 rfl, f3, f4⟩, ?_⟩⟩
      have k1 : Keep lo hi X Y := by rw [hY]; exact Keep.putObj _ _ _ hiL
      exact ((bX.trans k1).trans bZ).trans (Keep.putObj _ _ _ hiL)
    | ret =>
      obtain ⟨kZ, iZ⟩ := hp
      obtain ⟨f1, f2, f3, f4⟩ := fin (some .ret) Z kZ
      exact ⟨_, _, f1, .inr ⟨rfl, .ret, (hIx _).obj _ _ _ _ _ iZ hiL f2 rfl, f3, f4⟩⟩
    | exit id =>
      obtain ⟨kZ, iZ⟩ := hp
      obtain ⟨f1, f2, f3, f4⟩ := fin (some (.exit id)) Z kZ
      exact ⟨_, _, f1, .inr ⟨rfl, .exit id, (hIx _).obj _ _ _ _ _ iZ hiL f2 rfl, f3, f4⟩⟩
    | goto t =>
      obtain ⟨kZ, iZ⟩ := hp
      obtain ⟨f1, f2, f3, f4⟩ := fin (some (.goto t)) Z kZ
      exact ⟨_, _, f1, .inr ⟨rfl, .goto t, (hIx _).obj _ _ _ _ _ iZ hiL f2 rfl, f3, f4⟩⟩
    | panic ch => exact hp.elim
    | outgrown => exact hp.elim
  case behind =>
    have done : ∀ (W : World) (st : LoopState) (j : Option Code), st ≠ .busy → W.heap[L]? = some (.loop (R st j)) → (Instr.endLoop L).run P W = .ok j (W.putObj L (.loop { R st j with state := .exhausted })) := by
      intro W st j hst h
      have := run_endLoop (P := P) h (by rw [hR]; exact hst)
      rw [hR] at this ⊢
      exact this
    rintro e W ⟨⟨v, rfl⟩, (⟨xs, hS, iW, wL, wD⟩ | ⟨pre, hSp, c, iW, wL, wD⟩)⟩
    · exact ⟨none, _, done W _ _ (by simp) wL, hdone D xs _ (by omega) hS (hI.obj _ _ _ _ _ iW hiL wL rfl) ((World.putObj_heap_other hDL).trans wD)⟩
    · exact ⟨some c, _, done W _ _ (by simp) wL, hstop D c pre _ (by omega) hSp ((hIx c).obj _ _ _ _ _ iW hiL wL rfl) ((World.putObj_heap_other hDL).trans wD)⟩
end Go.Proofs.YtijnlgmclaphhaaDoor
