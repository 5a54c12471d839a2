import Derived.Test.YtijnlgmclaphhaaDoorN1
import Derived.Test.YtijnlgmclaphhaaDoorR0
namespace Go.Proofs.YtijnlgmclaphhaaDoorZ
open Go.RowKit Go.Proofs.YtijnlgmclaphhaaDoor Go.Proofs.YtijnlgmclaphhaaDoorW.PrintWords
def dir_Put.f (l0 : List (S25)) (a1_0 : ByteArray) (a1_1 : Int) (a1_2 : Int) : Option ((List (S25)) × Int) := if l0.length ≤ 4398046511104 then some (putL l0 ⟨a1_0, a1_1, a1_2⟩) else none
theorem dir_Put.calls (A0 : Option Addr) (c0 : Nat) (l0 : List (S25)) (a1_0 : ByteArray) (a1_1 : Int) (a1_2 : Int) (r1 : List (S25)) (r2 : Int) (w : World) (hr0 : Kd.C k25 w A0 l0.length l0) (hc0 : l0.length ≤ c0) (h : dir_Put.f l0 a1_0 a1_1 a1_2 = some (r1, r2)) :
    Calls Tryd.prog 11 #[.slice A0 l0.length c0, .agg #[.string a1_0, .int .i64 a1_1, .int .i64 a1_2]] w fun e w' => ∃ v0_ : Value, e = .returned (.tuple #[v0_, .int .i64 r2]) ∧ Kd.R k25 25 w' w.heap.size (fun _ => True) v0_ r1 ∧ Below w.heap.size w w' := by
  unfold dir_Put.f at h
  split at h
  · rename_i hl
    refine (put_any _ l0 ⟨a1_0, a1_1, a1_2⟩ w (rows_of_C hr0 hc0) hl).mono ?_
    injection h with h
    rw [h]
    rintro e w' ⟨v', rfl, ho, hb⟩
    exact ⟨v', rfl, R_of_row _ ho, hb⟩
  · cases h
end Go.Proofs.YtijnlgmclaphhaaDoorZ
