import Derived.Test.YtnddocchfkhlbaaDg
import Derived.Test.YtnddocchfkhlbaaZ31
namespace Go.Proofs.YtnddocchfkhlbaaPure
open Go Go.RowKit Go.Proofs.YtnddocchfkhlbaaZ Go.Proofs.YtnddocchfkhlbaaW.PrintWords Go.Proofs.YtnddocchfkhlbaaW.PrintLast

theorem dec_odd : ∀ (n : Nat) (l : List Int), l.length = 2 * n + 1 → dec l = none := by
  intro n
  induction n with
  | zero =>
    intro l hl
    match l, hl with
    | [a], _ => rfl
  | succ n ih =>
    intro l hl
    match l, hl with
    | a :: b :: r, hl =>
      rw [dec, ih r (by simp at hl; omega)]
      split <;> rfl
theorem shaDigits_small (a0 a1 : ByteArray) (h0 : a0.size ≤ 1048576) (h1 : a1.size ≤ 1048576) : ∃ k, gatehouselaw15_ShaDigits.f k a0 a1 = some true := by
  refine ⟨10000000, ?_⟩
  generalize hK : 10000000 = K
  have hr : gatehouseref15_Unhex.f K a1 = some (told [] (dec (bytesOf a1))) := by
    unfold gatehouseref15_Unhex.f
    have := rUnhex a1 (by omega) a1.size K 0 [] (by omega) rfl rfl (by omega)
    exact this
  have hp : sha_Unhex.f K a1 = some (told [] (dec (bytesOf a1))) := by
    unfold sha_Unhex.f
    by_cases hodd : a1.size % 2 = 1
    · rw [if_pos (by omega), dec_odd (a1.size / 2) _ (by rw [bytesOf_length]; omega)]
      rfl
    · rw [if_neg (by omega)]
      exact sUnhex (a1.size / 2) K a1 [] (by omega) (by simp; omega) (by omega)
  have hs : sha_Hex.f K a0 = some (strOfNums ((bytesOf a0).flatMap hx2)) := by
    unfold sha_Hex.f
    have := sHex a0 (by omega) a0.size K 0 [] (by omega) rfl (by omega)
    simpa using this
  have ht : gatehouseref15_Hex.f K a0 = some (strOfNums ((bytesOf a0).flatMap hx2)) := by
    unfold gatehouseref15_Hex.f
    have := rHex a0 (by omega) a0.size K 0 [] (by omega) rfl (by omega)
    simpa using this
  have hsz : (strOfNums ((bytesOf a0).flatMap hx2)).size = 2 * a0.size := by rw [strOf_size, flat_len, bytesOf_length]
  have hb : sha_Unhex.f K (strOfNums ((bytesOf a0).flatMap hx2)) = some (a0, 0) := by
    unfold sha_Unhex.f
    rw [if_neg (by omega), sUnhex a0.size K _ [] hsz (by simp; omega) (by omega), bytes_strOf _ (flat_all _ (bytes_all a0)), dec_flat _ (bytes_all a0), told]
    simp [strOf_bytes]
  unfold gatehouselaw15_ShaDigits.f gatehouselaw15_lives.f
  rw [hr, hp, hs, ht]
  simp only [Option.bind_some, if_true, hb, hsz]
  rw [wrap_in (by omega) (by omega)]
  simp
end Go.Proofs.YtnddocchfkhlbaaPure
