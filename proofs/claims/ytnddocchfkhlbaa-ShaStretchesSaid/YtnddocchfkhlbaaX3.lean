import Derived.Test.YtnddocchfkhlbaaH4
import Derived.Test.YtnddocchfkhlbaaX1
namespace Go.Proofs.Ytnddocchfkhlbaa
open Go.RowKit

/-- The sum of bytes. -/
def shaD (l : List UInt8) : List UInt8 := digestL (fullS (fullS FV l) (restS l ++ pad l.length)) 8
theorem restS_length (l : List UInt8) : (restS l).length < 64 := by
  induction hn : l.length using Nat.strongRecOn generalizing l with
  | _ n ih =>
    rw [restS]
    split
    · exact ih (l.drop 64).length (by rw [List.length_drop]; omega) _ rfl
    · omega
theorem okS_FV : okS FV := by
  intro j hj
  match j, hj with
  | 0, _ => decide
  | 1, _ => decide
  | 2, _ => decide
  | 3, _ => decide
  | 4, _ => decide
  | 5, _ => decide
  | 6, _ => decide
  | 7, _ => decide

set_option maxRecDepth 100000 in
theorem sum_any (s : ByteArray) (w : World) (hs : s.size ≤ 70368744177664) :
    Calls Try.prog 10 #[.string s] w fun e w' => e = .returned (.string (bstr (shaD s.data.toList))) ∧ Below w.heap.size w w' := by
  go_enter Try.func10, Try.ntmps10
  go_wp2_with fail
  refine (new_any w).mono ?_
  rintro e w1 ⟨p, rfl, hH, hb1⟩
  go_wp2_with fail
  refine (add_any w1 w.heap.size p FV [] 0 s hH (by simp; omega) (by omega)).mono ?_
  rintro e w2 ⟨rfl, hH2, hb2⟩
  go_wp2_with fail
  refine (hsum_any w2 w.heap.size p _ _ _ hH2 (by have := restS_length ([] ++ s.data.toList); omega) (by omega) (okS_full okS_FV _)).mono ?_
  rintro e w3 ⟨rfl, hb3⟩
  go_wp2
  go_ret
  refine ⟨?_, below_through (hb1.trans hb2) hb3⟩
  have e : s.size = s.data.toList.length := by simp
  rw [e]
  rfl
end Go.Proofs.Ytnddocchfkhlbaa
