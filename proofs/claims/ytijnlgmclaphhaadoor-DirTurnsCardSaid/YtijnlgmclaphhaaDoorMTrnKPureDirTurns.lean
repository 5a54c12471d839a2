import Derived.Test.YtijnlgmclaphhaaDoorMTrnKTu
import Derived.Test.YtijnlgmclaphhaaDoorMTrnB
namespace Go.Proofs.YtijnlgmclaphhaaDoorZ
open Go.RowKit Go.Proofs.YtijnlgmclaphhaaDoor Go.Proofs.YtijnlgmclaphhaaDoorW.PrintWords
def gatehouselaw13_DirTurns.f (k : Nat) (l0 : List (S25)) (a1_0 : ByteArray) (a1_1 : Int) (a1_2 : Int) (a2 : ByteArray) : Option Bool := if l0.length ≤ 4398046511103 then some true else none
theorem gatehouselaw13_DirTurns.calls (k : Nat) (A0 : Option Addr) (c0 : Nat) (l0 : List (S25)) (a1_0 : ByteArray) (a1_1 : Int) (a1_2 : Int) (a2 : ByteArray) (r : Bool) (w : World) (hr0 : Kd.C k25 w A0 l0.length l0) (hc0 : l0.length ≤ c0) (h : gatehouselaw13_DirTurns.f k l0 a1_0 a1_1 a1_2 a2 = some r) :
    Calls Tryd.prog 6 #[.slice A0 l0.length c0, .agg #[.string a1_0, .int .i64 a1_1, .int .i64 a1_2], .string a2] w fun e w' => e = .returned (.bool r) ∧ Below w.heap.size w w' := by
  unfold gatehouselaw13_DirTurns.f at h
  split at h
  · rename_i hl
    injection h with h
    subst h
    have hp := putL_len l0 ⟨a1_0, a1_1, a1_2⟩
    have hq := cutL_len l0 a2
    have e1 : dir_Put.f l0 a1_0 a1_1 a1_2 = some ((putL l0 ⟨a1_0, a1_1, a1_2⟩).1, (putL l0 ⟨a1_0, a1_1, a1_2⟩).2) := by unfold dir_Put.f; exact if_pos (by omega)
    have e3 : dir_Cut.f l0 a2 = some ((cutL l0 a2).1, (cutL l0 a2).2) := by unfold dir_Cut.f; exact if_pos (by omega)
    have e5 : dir_Find.f l0 a2 = some ((findL l0 a2).1.f0, (findL l0 a2).1.f1, (findL l0 a2).1.f2, (findL l0 a2).2) := by unfold dir_Find.f; exact if_pos (by omega)
    exact turns_any (2 * l0.length + 3000) A0 c0 l0 ⟨a1_0, a1_1, a1_2⟩ a2 w (rows_of_C hr0 hc0) hl (by omega) (putL l0 ⟨a1_0, a1_1, a1_2⟩).1 (cutL l0 a2).1 (putL l0 ⟨a1_0, a1_1, a1_2⟩).2 (cutL l0 a2).2 (findL l0 a2).1 (findL l0 a2).2
      e1 (rPut_f l0 ⟨a1_0, a1_1, a1_2⟩ (by omega) _ (by omega)) e3 (rCut_f l0 a2 (by omega) _ (by omega)) e5 (rFind_f l0 a2 (by omega) _ (by omega))
      (same_self _ (by omega) _ (by omega)) (same_self _ (by omega) _ (by omega)) (same_self _ (by omega) _ (by omega))
  · cases h
end Go.Proofs.YtijnlgmclaphhaaDoorZ
namespace Go.Proofs.YtijnlgmclaphhaaDoor
open Go Go.RowKit Go.Proofs.YtijnlgmclaphhaaDoorZ
theorem dirTurns_pure (l : List Nm) (m : Nm) (s : ByteArray) (hl : l.length ≤ 4398046511103) : ∃ k, gatehouselaw13_DirTurns.f k l m.f0 m.f1 m.f2 s = some true := ⟨0, by unfold gatehouselaw13_DirTurns.f; rw [if_pos hl]⟩
end Go.Proofs.YtijnlgmclaphhaaDoor
