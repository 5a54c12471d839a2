import Derived.Test.YtijnlgmclaphhaaDoorE
namespace Go.Proofs.YtijnlgmclaphhaaDoorZ
open Go.RowKit Go.Proofs.YtijnlgmclaphhaaDoor Go.Proofs.YtijnlgmclaphhaaDoorW.PrintWords
def dir_Encode.f (l0 : List (S25)) : Option (ByteArray × Int) := if l0.length ≤ 4398046511104 then some (encodeL l0) else none
theorem dir_Encode.calls (A0 : Option Addr) (c0 : Nat) (l0 : List (S25)) (r1 : ByteArray) (r2 : Int) (w : World) (hr0 : Kd.C k25 w A0 l0.length l0) (hc0 : l0.length ≤ c0) (h : dir_Encode.f l0 = some (r1, r2)) :
    Calls Tryd.prog 15 #[.slice A0 l0.length c0] w fun e w' => e = .returned (.tuple #[.string r1, .int .i64 r2]) ∧ Below w.heap.size w w' := by
  unfold dir_Encode.f at h
  split at h
  · rename_i hl
    refine (encode_any A0 c0 l0 w (rows_of_C hr0 hc0) hl).mono ?_
    injection h with h
    rw [h]
    rintro e w' ⟨rfl, hb⟩
    exact ⟨rfl, hb⟩
  · cases h
end Go.Proofs.YtijnlgmclaphhaaDoorZ
