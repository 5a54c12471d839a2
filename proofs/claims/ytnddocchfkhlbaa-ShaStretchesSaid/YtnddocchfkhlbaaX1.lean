import Derived.Test.YtnddocchfkhlbaaH2
import Derived.Test.YtnddocchfkhlbaaR2
namespace Go.Proofs.Ytnddocchfkhlbaa
open Go.RowKit

set_option maxRecDepth 100000 in
theorem add_nil (s : ByteArray) (w : World) : Calls Try.prog 13 #[.pointer none, .string s] w fun e w' => e = .returned (.tuple #[]) ∧ w = w' := by
  go_enter Try.func13, Try.ntmps13
  go_wp2
  first | (go_end0; exact ⟨rfl, rfl⟩) | exact bodyPost_ret (results_none rfl _ _ _) rfl ⟨rfl, rfl⟩
theorem sum_nil (w : World) : Calls Try.prog 14 #[.pointer none] w fun e w' => e = .returned (.string ⟨#[]⟩) ∧ w = w' := by
  go_enter Try.func14, Try.ntmps14
  go_wp2
  go_ret
  exact ⟨rfl, rfl⟩
theorem len_nil (w : World) : Calls Try.prog 15 #[.pointer none] w fun e w' => e = .returned (.int .i64 0) ∧ w = w' := by
  go_enter Try.func15, Try.ntmps15
  go_wp2
  go_ret
  exact ⟨rfl, rfl⟩
theorem copy_nil (w : World) : Calls Try.prog 16 #[.pointer none] w fun e w' => e = .returned (.pointer none) ∧ w = w' := by
  go_enter Try.func16, Try.ntmps16
  go_wp2
  go_ret
  exact ⟨rfl, rfl⟩

def DIG : ByteArray := ⟨#[48, 49, 50, 51, 52, 53, 54, 55, 56, 57, 97, 98, 99, 100, 101, 102]⟩
def dgt (x : Nat) : UInt8 := DIG.data.toList.getD x 0
def hexL (l : List UInt8) : List UInt8 := l.flatMap fun b => [dgt (b.toNat / 16), dgt (b.toNat % 16)]
theorem hexL_length (l : List UInt8) : (hexL l).length = 2 * l.length := by
  induction l with
  | nil => rfl
  | cons b l ih =>
    have : hexL (b :: l) = [dgt (b.toNat / 16), dgt (b.toNat % 16)] ++ hexL l := rfl
    rw [this, List.length_append, ih]
    simp
    omega
theorem index_dig0 (x : Nat) (h : x < 16) (k : IntKind) (w : World) : (Instr.index 9 (.string { data := #[48, 49, 50, 51, 52, 53, 54, 55, 56, 57, 97, 98, 99, 100, 101, 102] }) (.int k (x : Int))).run Try.prog w = .ok (.int .u8 ((dgt x).toNat : Int)) w := by
  match x, h with
  | 0, _ => rfl
  | 1, _ => rfl
  | 2, _ => rfl
  | 3, _ => rfl
  | 4, _ => rfl
  | 5, _ => rfl
  | 6, _ => rfl
  | 7, _ => rfl
  | 8, _ => rfl
  | 9, _ => rfl
  | 10, _ => rfl
  | 11, _ => rfl
  | 12, _ => rfl
  | 13, _ => rfl
  | 14, _ => rfl
  | 15, _ => rfl
  | n + 16, h => exact absurd h (by omega)
theorem index_dig (X : Int) (x : Nat) (hX : X = x) (h : x < 16) (k : IntKind) (w : World) : (Instr.index 9 (.string { data := #[48, 49, 50, 51, 52, 53, 54, 55, 56, 57, 97, 98, 99, 100, 101, 102] }) (.int k X)).run Try.prog w = .ok (.int .u8 ((dgt x).toNat : Int)) w := by
  subst hX; exact index_dig0 x h k w

theorem src2 (W : World) (d1 d2 : Nat) : Src Try.prog 1 42 (.slice (some ⟨W.heap.size, 0, none⟩) 2 2) 2 [.int .u8 d1, .int .u8 d2] (W.alloc (.cells #[.int .u8 d1, .int .u8 d2] 5)).drew :=
  Src.ofSlice _ Try.underlying42 ⟨W.heap.size, 0, none⟩ 2 2 _ rfl (fun j u hj => by
    match j, hj with
    | 0, hj => simp at hj; subst hj; simp [Addr.add]
    | 1, hj => simp at hj; subst hj; simp [Addr.add]) (fun u hu => by simp at hu; rcases hu with rfl | rfl <;> rfl)
theorem hex_step {s : ByteArray} {w : World} {B k b d1 d2 : Nat} {v : Value} {hk : k < s.size} (hb : (s[k]'hk).toNat = b) (h1 : (dgt (b / 16)).toNat = d1) (h2 : (dgt (b % 16)).toNat = d2)
    (h : Own w B 5 1 v (2 * k + 2) (cells (hexL (s.data.toList.take k)) ++ [.int .u8 d1, .int .u8 d2])) : Own w B 5 1 v (2 * (k + 1)) (cells (hexL (s.data.toList.take (k + 1)))) := by
  subst h1 h2 hb
  have hk' : k < s.data.toList.length := by simpa using hk
  have e : hexL (s.data.toList.take (k + 1)) = hexL (s.data.toList.take k) ++ [dgt ((s[k]'hk).toNat / 16), dgt ((s[k]'hk).toNat % 16)] := by
    rw [List.take_succ_eq_append_getElem hk']
    unfold hexL
    rw [List.flatMap_append]
    rfl
  rw [e, show 2 * (k + 1) = 2 * k + 2 by omega]
  simpa [cells] using h

set_option maxRecDepth 100000 in
set_option maxHeartbeats 400000 in
theorem hex_any (s : ByteArray) (w : World) (hs : s.size ≤ 70368744177664) :
    Calls Try.prog 22 #[.string s] w fun e w' => e = .returned (.string (bstr (hexL s.data.toList))) ∧ Below w.heap.size w w' := by
  obtain ⟨i0, hi, hz0, hz1, hz2⟩ := info_parts info5
  have HI := Lib.hid (And.intro hi (And.intro hz0 (And.intro hz1 hz2)))
  clear hi hz0 hz1 hz2
  go_enter Try.func22, Try.ntmps22
  go_wp2
  go_loopw [3, 7] (fun v i wr => ∃ k : Nat, k ≤ s.size ∧ i = .int .i64 k ∧ Own wr w.heap.size 5 1 v (2 * k) (cells (hexL (s.data.toList.take k))) ∧ Below w.heap.size w wr) (fun _ i _ => (s.size - (intOf i).toNat))
  case atStart => exact ⟨0, by omega, by simp, Own.nil _ _ _ _, Below.refl _ _⟩
  case round =>
    obtain ⟨k, hk, rfl, hown, hbel⟩ := hrel
    by_cases hlt : k < s.size
    · generalize hb : s[k].toNat = b
      have HB := Lib.hid hb
      have hb256 : b < 256 := by have := s[k].toNat_lt; omega
      have i1 := index_dig ((b : Int) / 16) (b / 16) (by omega) (by omega) .u8
      have i2 := index_dig ((b : Int) % 16) (b % 16) (by omega) (by omega) .u8
      generalize hd1 : (dgt (b / 16)).toNat = d1 at i1
      generalize hd2 : (dgt (b % 16)).toNat = d2 at i2
      have HD := Lib.hid (And.intro hd1 hd2)
      clear hd1 hd2
      have ha15 : bits .and .u8 (b : Int) 15 = (b : Int) % 16 := u8_and15 _ (by omega) (by omega)
      go_wp2
      go_region_held3 (fun _ => True) (trivial) ((first | (refine step_append_Own (.tmp 10) (.tmp 21) 42 42 rfl w.heap.size 5 i0 (.int .u8 0) 1 1 Try.underlying42 HI.out.1 HI.out.2.1 HI.out.2.2.1 HI.out.2.2.2 rfl _ _ _ rfl (by exact hown.below ((Below.refl _ _).drew.alloc (Nat.le_refl _) _)) _ 2 [.int .u8 d1, .int .u8 d2] rfl (by exact src2 wr d1 d2) (by unfold maxLen; omega) (by omega) (by have := hbel.size; simp; omega) ?_; intro v' w1 hown1 hg1; have hb1 : Below w.heap.size w w1 := (hbel.drew.alloc hbel.size _).grown hg1 (by have := hbel.size; simp; omega) (fun q hq => (hown.block q hq).1))))
      all_goals
        have hown2 := hex_step HB.out HD.out.1 HD.out.2 hown1
        clear hg1 hown hbel hown1 i1 i2 ha15
        go_wp2
        go_roundw
        case rel => exact ⟨k + 1, by omega, by go_num, hown2, hb1⟩
        case measure => simp [intOf]; omega
    · obtain rfl : k = s.size := by omega
      have hs := own_string (by rw [hexL_length]; rw [List.take_of_length_le (by simp)] at hown; exact hown)
      go_wp2
      go_ret
      exact ⟨rfl, hbel⟩
end Go.Proofs.Ytnddocchfkhlbaa
