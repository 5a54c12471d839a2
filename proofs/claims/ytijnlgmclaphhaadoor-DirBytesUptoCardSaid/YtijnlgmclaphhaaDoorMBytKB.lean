import Derived.Test.YtijnlgmclaphhaaDoorA
import Derived.Test.YtijnlgmclaphhaaDoorMBytE
/-! What the printed right, size, Right come to. -/
namespace Go.Proofs.YtijnlgmclaphhaaDoor
open Go.RowKit Go.Proofs.YtijnlgmclaphhaaDoorZ Go.Proofs.YtijnlgmclaphhaaDoorW.PrintWords

theorem w64 {x : Int} (h0 : -9223372036854775808 ≤ x) (h1 : x ≤ 9223372036854775807) : wrap64 x = x := by unfold wrap64; omega
theorem rd_at (l : List Nm) (i : Nat) (h : i < l.length) : rd_T25 l (i : Int) = l[i] := by
  unfold rd_T25
  rw [Int.toNat_natCast, List.getD_eq_getElem?_getD, List.getElem?_eq_getElem h]
  rfl
theorem right_f (s : ByteArray) (k n : Int) : dir_right.f s k n = some (okN ⟨s, k, n⟩) := by
  unfold dir_right.f dir_fits.f okN kindOk idOk
  rw [Option.bind_some]
  cases fitsB s
  · rfl
  · simp only [if_true, Bool.true_and]
    by_cases h1 : k = 1
    · rw [if_pos h1]
      by_cases h2 : n ≥ 1
      · rw [if_pos h2]; simp [h1]; omega
      · rw [if_neg h2]; simp [h1]; omega
    · rw [if_neg h1]
      by_cases h2 : k = 2
      · rw [if_pos h2]
        by_cases h3 : n ≥ 1
        · rw [if_pos h3]; simp [h2]; omega
        · rw [if_neg h3]; simp [h2]; omega
      · rw [if_neg h2]; simp [h1, h2]
theorem sizeN_take (l : List Nm) (i : Nat) (h : i < l.length) : sizeN (l.take (i + 1)) = sizeN (l.take i) + (10 + (l[i]).f0.size) := by
  rw [List.take_succ_eq_append_getElem h, sizeN_append]
  simp [sizeN]
theorem size_loop (l : List Nm) (hs : ∀ x ∈ l, x.f0.size ≤ 32) (hl : l.length ≤ 4398046511104) (n : Nat) : ∀ (k i : Nat), l.length - i = n → i ≤ l.length → n < k → dir_size.l0 k (sizeN (l.take i) : Nat) l (l.length : Int) (i : Int) = some (sizeN l : Int) := by
  induction n with
  | zero =>
    intro k i h hi hk
    obtain ⟨k, rfl⟩ : ∃ q, k = q + 1 := ⟨k - 1, by omega⟩
    obtain rfl : i = l.length := by omega
    simp only [dir_size.l0]
    rw [if_neg (by omega), List.take_length]
  | succ n ih =>
    intro k i h hi hk
    obtain ⟨k, rfl⟩ : ∃ q, k = q + 1 := ⟨k - 1, by omega⟩
    have hlt : i < l.length := by omega
    have hT := sizeN_hi (l.take i) fun x hx => hs x (List.mem_of_mem_take hx)
    rw [List.length_take] at hT
    have hx := hs _ (List.getElem_mem hlt)
    simp only [dir_size.l0]
    rw [if_pos (by omega), if_pos (by omega), if_pos (by omega), rd_at l i hlt, w64 (x := 10 + _) (by omega) (by omega), w64 (x := (sizeN (l.take i) : Int) + _) (by omega) (by omega), w64 (x := (i : Int) + 1) (by omega) (by omega)]
    have := ih k (i + 1) (by omega) (by omega) (by omega)
    rw [sizeN_take l i hlt] at this
    push_cast at this
    exact this
theorem size_f (l : List Nm) (hs : ∀ x ∈ l, x.f0.size ≤ 32) (hl : l.length ≤ 4398046511104) (k : Nat) (hk : l.length < k) : dir_size.f k l = some (sizeN l : Int) := by
  unfold dir_size.f
  exact size_loop l hs hl l.length k 0 (by omega) (by omega) hk
theorem ordFrom_drop (l : List Nm) (i : Nat) (h : i < l.length) (b : ByteArray) : ordFrom b (l.drop i) = (okN l[i] && blt b (l[i]).f0 && ordFrom (l[i]).f0 (l.drop (i + 1))) := by
  rw [List.drop_eq_getElem_cons h]; rfl
theorem Right_loop (l : List Nm) (hl : l.length ≤ 4398046511104) (n : Nat) : ∀ (k i : Nat) (b : ByteArray), l.length - i = n → i ≤ l.length → n + l.length + 1 < k → (∀ x ∈ l.take i, okN x = true) → ordL l = ordFrom b (l.drop i) →
    dir_Right.l0 k l b l (l.length : Int) (i : Int) = some (rightL l) := by
  induction n with
  | zero =>
    intro k i b h hi hk ho he
    obtain ⟨k, rfl⟩ : ∃ q, k = q + 1 := ⟨k - 1, by omega⟩
    obtain rfl : i = l.length := by omega
    rw [List.drop_length] at he
    rw [List.take_length] at ho
    simp only [dir_Right.l0]
    rw [if_neg (by omega), size_f l (fun x hx => (okN_size (ho x hx)).2) hl k (by omega), Option.bind_some]
    unfold rightL
    rw [he]
    show some (decide ((sizeN l : Int) ≤ 4096)) = some (decide (sizeN l ≤ 4096))
    congr 1
    exact decide_eq_decide.2 (by omega)
  | succ n ih =>
    intro k i b h hi hk ho he
    obtain ⟨k, rfl⟩ : ∃ q, k = q + 1 := ⟨k - 1, by omega⟩
    have hlt : i < l.length := by omega
    rw [ordFrom_drop l i hlt] at he
    simp only [dir_Right.l0]
    rw [if_pos (by omega), if_pos (by omega), if_pos (by omega), rd_at l i hlt, right_f, Option.bind_some]
    have e : (⟨(l[i]).f0, (l[i]).f1, (l[i]).f2⟩ : S25) = l[i] := rfl
    rw [e]
    cases hk1 : okN l[i] with
    | false =>
      rw [if_neg (by simp)]
      rw [hk1] at he
      unfold rightL
      rw [he]; rfl
    | true =>
      rw [if_pos rfl]
      rw [hk1] at he
      cases hb : blt b (l[i]).f0 with
      | false =>
        rw [if_neg (by unfold blt at hb; rw [hb]; simp)]
        rw [hb] at he
        unfold rightL
        rw [he]; rfl
      | true =>
        rw [if_pos (show Op.bytesLess b.toList (l[i]).f0.toList = true from hb), w64 (x := (i : Int) + 1) (by omega) (by omega)]
        rw [hb] at he
        refine ih k (i + 1) (l[i]).f0 (by omega) (by omega) (by omega) ?_ (by rw [he]; rfl)
        intro x hx
        rw [List.take_succ_eq_append_getElem hlt, List.mem_append] at hx
        rcases hx with hx | hx
        · exact ho x hx
        · rw [List.mem_singleton.1 hx]; exact hk1
theorem Right_f (l : List Nm) (hl : l.length ≤ 4398046511104) (k : Nat) (hk : 2 * l.length + 1 < k) : dir_Right.f k l = some (rightL l) := by
  unfold dir_Right.f
  exact Right_loop l hl l.length k 0 _ (by omega) (by omega) (by omega) (by simp) rfl
end Go.Proofs.YtijnlgmclaphhaaDoor
