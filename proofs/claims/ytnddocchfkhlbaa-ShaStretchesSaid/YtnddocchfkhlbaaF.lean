import Derived.Test.YtnddocchfkhlbaaE2
namespace Go.Proofs.Ytnddocchfkhlbaa
open Go.RowKit

theorem abc_str : bstr (hexL (shaD ({ data := #[97, 98, 99] } : ByteArray).data.toList)) = { data := #[98, 97, 55, 56, 49, 54, 98, 102, 56, 102, 48, 49, 99, 102, 101, 97, 52, 49, 52, 49, 52, 48, 100, 101, 53, 100, 97, 101, 50, 50, 50, 51, 98, 48, 48, 51, 54, 49, 97, 51, 57, 54, 49, 55, 55, 97, 57, 99, 98, 52, 49, 48, 102, 102, 54, 49, 102, 50, 48, 48, 49, 53, 97, 100] } := by
  show bstr (hexL (shaD abc)) = _
  rw [shaD_abc, abcD_hex]
  rfl
theorem bstr_toList (l : List UInt8) : (bstr l).data.toList = l := rfl
theorem shaD_length (l : List UInt8) : (shaD l).length = 32 := by unfold shaD; rw [digestL_length]

set_option maxRecDepth 100000 in
theorem lives_any (w : World) : Calls Try.prog 9 #[] w fun e w' => e = .returned (.bool true) ∧ Below w.heap.size w w' := by
  go_enter Try.func9, Try.ntmps9
  go_wp2_with fail
  refine (new_any w).mono ?_
  rintro e w1 ⟨p, rfl, hH, hb1⟩
  go_wp2_with fail
  refine (sum_any _ w1 (by decide)).mono ?_
  rintro e w2 ⟨rfl, hb2⟩
  go_wp2_with fail
  refine (hex_any _ w2 (by rw [bstr_size, shaD_length]; decide)).mono ?_
  rintro e w3 ⟨rfl, hb3⟩
  rw [bstr_toList, abc_str]
  go_wp2
  go_ret
  exact ⟨rfl, below_through (below_through hb1 hb2) hb3⟩

def bor (x y : Nat) : Nat := (x % 256) ||| (y % 256)
def bxor (x y : Nat) : Nat := (x % 256) ^^^ (y % 256)
theorem ofInt_nat8 (a : Nat) : (BitVec.ofInt IntKind.u8.bits (a : Int)).toNat = a % 256 := by
  show (BitVec.ofInt 8 (a : Int)).toNat = _
  rw [BitVec.toNat_ofInt]
  omega
theorem bits_o8 (a b : Nat) : bits .or .u8 (a : Int) (b : Int) = (bor a b : Int) := by
  show IntKind.u8.wrap (((BitVec.ofInt IntKind.u8.bits (a : Int)) ||| (BitVec.ofInt IntKind.u8.bits (b : Int))).toNat : Int) = _
  rw [BitVec.toNat_or, ofInt_nat8, ofInt_nat8]
  have h : bor a b < 2 ^ 8 := Nat.or_lt_two_pow (by omega) (by omega)
  unfold bor at *
  exact IntWalk.u8_in _ (by omega)
theorem bits_x8 (a b : Nat) : bits .xor .u8 (a : Int) (b : Int) = (bxor a b : Int) := by
  show IntKind.u8.wrap (((BitVec.ofInt IntKind.u8.bits (a : Int)) ^^^ (BitVec.ofInt IntKind.u8.bits (b : Int))).toNat : Int) = _
  rw [BitVec.toNat_xor, ofInt_nat8, ofInt_nat8]
  have h : bxor a b < 2 ^ 8 := Nat.xor_lt_two_pow (by omega) (by omega)
  unfold bxor at *
  exact IntWalk.u8_in _ (by omega)
theorem xor_zero_iff (x y : Nat) : x ^^^ y = 0 ↔ x = y := by
  constructor
  · intro h
    have := congrArg (· ^^^ y) h
    simpa [Nat.xor_assoc] using this
  · rintro rfl; simp
def diff (a b : ByteArray) : Nat → Nat
  | 0 => 0
  | k + 1 => bor (diff a b k) (bxor (a.data.toList.getD k 0).toNat (b.data.toList.getD k 0).toNat)
theorem diff_lt (a b : ByteArray) (k : Nat) : diff a b k < 256 := by
  cases k with
  | zero => simp [diff]
  | succ k => exact Nat.or_lt_two_pow (n := 8) (by omega) (by omega)
theorem diff_zero (a b : ByteArray) (k : Nat) : diff a b k = 0 ↔ ∀ j, j < k → a.data.toList.getD j 0 = b.data.toList.getD j 0 := by
  induction k with
  | zero => simp [diff]
  | succ k ih =>
    have h0 := diff_lt a b k
    have h1 := (a.data.toList.getD k 0).toNat_lt
    have h2 := (b.data.toList.getD k 0).toNat_lt
    have e : diff a b (k + 1) = 0 ↔ diff a b k = 0 ∧ a.data.toList.getD k 0 = b.data.toList.getD k 0 := by
      rw [diff, bor, bxor, Nat.or_eq_zero_iff, Nat.mod_eq_of_lt h0, Nat.mod_eq_of_lt (a := (a.data.toList.getD k 0).toNat) (by omega), Nat.mod_eq_of_lt (a := (b.data.toList.getD k 0).toNat) (by omega)]
      have h3 : (a.data.toList.getD k 0).toNat ^^^ (b.data.toList.getD k 0).toNat < 2 ^ 8 := Nat.xor_lt_two_pow (by omega) (by omega)
      rw [Nat.mod_eq_of_lt (by omega), xor_zero_iff, UInt8.toNat_inj]
    rw [e, ih]
    constructor
    · rintro ⟨h1, h2⟩ j hj
      rcases Nat.lt_or_ge j k with h | h
      · exact h1 j h
      · obtain rfl : j = k := by omega
        exact h2
    · intro h
      exact ⟨fun j hj => h j (by omega), h k (by omega)⟩
theorem diff_same (a b : ByteArray) (h : a.size = b.size) : diff a b a.size = 0 ↔ a = b := by
  rw [diff_zero]
  constructor
  · intro h1
    apply ByteArray.ext
    apply Array.toList_inj.1
    apply List.ext_getElem
    · simpa using h
    · intro i h2 h3
      have := h1 i (by simpa using h2)
      rw [List.getD_eq_getElem?_getD, List.getD_eq_getElem?_getD, List.getElem?_eq_getElem h2, List.getElem?_eq_getElem h3] at this
      exact this
  · rintro rfl j _; rfl

set_option maxRecDepth 100000 in
set_option maxHeartbeats 400000 in
theorem same_any (a b : ByteArray) (w : World) (ha : a.size ≤ maxLen) (hb : b.size ≤ maxLen) :
    Calls Try.prog 17 #[.string a, .string b] w fun e w' => e = .returned (.bool (decide (a = b))) ∧ Below w.heap.size w w' := by
  unfold maxLen at ha hb
  go_enter Try.func17, Try.ntmps17
  by_cases hl : a.size = b.size
  · go_wp2
    go_loopw [5, 6, 14] (fun u _ i wr => ∃ k : Nat, k ≤ a.size ∧ i = .int .i64 k ∧ u = .int .u8 (diff a b k) ∧ Below w.heap.size w wr) (fun _ _ i _ => (a.size - (intOf i).toNat))
    case atStart => exact ⟨0, by omega, by simp, rfl, Below.refl _ _⟩
    case round =>
      obtain ⟨k, hk, rfl, rfl, hbel⟩ := hrel
      by_cases hlt : k < a.size
      · have hlt2 : k < b.size := by omega
        have hd := diff_lt a b k
        have e2 : ((diff a b (k + 1) : Nat) : Int) = bits .or .u8 (diff a b k) (bits .xor .u8 ((a[k]'hlt).toNat : Int) ((b[k]'hlt2).toNat : Int)) := by
          rw [bits_x8, bits_o8]
          simp [diff, List.getD_eq_getElem?_getD, hlt, hlt2]
          rfl
        go_wp2
        go_quiet (fail)
        go_wp2
        go_roundw
        case rel => exact ⟨k + 1, by omega, by go_num, by rw [e2], ⟨hbel.os, hbel.tape, hbel.output, hbel.size, hbel.block⟩⟩
        case measure => simp [intOf]; omega
      · obtain rfl : k = a.size := by omega
        have hd := diff_lt a b a.size
        go_wp2
        go_ret
        refine ⟨?_, hbel⟩
        show Ending.returned (Value.bool ((diff a b b.size : Int) == 0)) = _
        have := diff_same a b hl
        rw [hl] at this
        congr 2
        by_cases h : a = b
        · rw [decide_eq_true h, this.2 h]; rfl
        · have h2 : diff a b b.size ≠ 0 := fun h3 => h (this.1 h3)
          rw [decide_eq_false h]
          simpa using h2
  · go_wp2
    go_ret
    refine ⟨?_, Below.refl _ _⟩
    have h2 : a ≠ b := by rintro rfl; exact hl rfl
    rw [decide_eq_false h2]
    rfl
end Go.Proofs.Ytnddocchfkhlbaa
