import Derived.Test.YtnddocchfkhlbaaG
import Derived.SliceStrings
namespace Go.Proofs.Ytnddocchfkhlbaa
open Go.RowKit

theorem split64 (l : List UInt8) (h : 64 ≤ l.length) (m : List UInt8) : bytesOf (l ++ m) = bytesOf (l ++ m) ∧ (l ++ m).drop 64 = l.drop 64 ++ m := by
  refine ⟨rfl, ?_⟩
  rw [List.drop_append, show 64 - l.length = 0 by omega]
  simp
/-- A block reads the first 64 bytes alone. -/
theorem w0_same {m m' : Nat → Int} (h : ∀ j, j < 64 → m j = m' j) (k : Nat) (hk : k < 16) : w0 m k = w0 m' k := by
  unfold w0
  rw [h _ (by omega), h (4 * k + 1) (by omega), h (4 * k + 2) (by omega), h (4 * k + 3) (by omega)]
theorem W_same {m m' : Nat → Int} (h : ∀ j, j < 64 → m j = m' j) (t : Nat) : W m t = W m' t := by
  induction t using Nat.strongRecOn with
  | _ t ih =>
    by_cases ht : t < 16
    · rw [W.eq_1 m t, W.eq_1 m' t, if_pos ht, if_pos ht]
      exact w0_same h t ht
    · have e1 := ih (t - 16) (by omega)
      have e2 := ih (t - 7) (by omega)
      have e3 := ih (t - 15) (by omega)
      have e4 := ih (t - 2) (by omega)
      rw [W.eq_1 m t, W.eq_1 m' t, if_neg ht, if_neg ht, e1, e2, e3, e4]
theorem stp_same {m m' : Nat → Int} (h : ∀ j, j < 64 → m j = m' j) (S : Nat → Int) (k : Nat) : stp m S k = stp m' S k := by
  induction k with
  | zero => rfl
  | succ k ih => rw [stp, stp, ih, W_same h]
theorem blk_same {m m' : Nat → Int} (h : ∀ j, j < 64 → m j = m' j) (S : Nat → Int) : blk m S = blk m' S := by
  funext j
  rw [blk, blk, stp_same h]
theorem full_append (S : Nat → Int) (l m : List UInt8) : fullS (fullS S l) (restS l ++ m) = fullS S (l ++ m) ∧ restS (restS l ++ m) = restS (l ++ m) := by
  induction hn : l.length using Nat.strongRecOn generalizing l S with
  | _ n ih =>
    by_cases h : 64 ≤ l.length
    · have h2 : 64 ≤ (l ++ m).length := by rw [List.length_append]; omega
      have hd : (l ++ m).drop 64 = l.drop 64 ++ m := (split64 l h m).2
      have hs : blk (bytesOf (l ++ m)) S = blk (bytesOf l) S := blk_same (fun j hj => by
        unfold bytesOf
        rw [List.getD_eq_getElem?_getD, List.getD_eq_getElem?_getD, List.getElem?_append_left (by omega)]) S
      rw [fullS.eq_1 S l, if_pos h, restS.eq_1 l, if_pos h, fullS.eq_1 S (l ++ m), if_pos h2, restS.eq_1 (l ++ m), if_pos h2, hd, hs]
      exact ih (l.drop 64).length (by rw [List.length_drop]; omega) _ _ rfl
    · rw [fullS.eq_1 S l, if_neg h, restS.eq_1 l, if_neg h]
      exact ⟨rfl, rfl⟩

/-- In block p lies the Hash of these bytes. -/
def HashOf (w : World) (B p : Nat) (l : List UInt8) : Prop := HashAt w B p (fullS FV l) (restS l) l.length
theorem HashOf.below {w w' : World} {B p : Nat} {l : List UInt8} (h : HashOf w B p l) (hb : Below w.heap.size w w') : HashOf w' B p l := HashAt.below h hb
theorem HashOf.mono {w : World} {B B' p : Nat} {l : List UInt8} (h : HashOf w B p l) (hB : B' ≤ B) : HashOf w B' p l := HashAt.mono h hB
theorem hnew_any (w : World) : Calls Try.prog 12 #[] w fun e w' => ∃ p, e = .returned (.pointer (some ⟨p, 0, none⟩)) ∧ HashOf w' w.heap.size p [] ∧ Below w.heap.size w w' := by
  refine (new_any w).mono ?_
  rintro e w1 ⟨p, rfl, hH, hb1⟩
  refine ⟨p, rfl, ?_, hb1⟩
  unfold HashOf
  rw [fullS.eq_1, if_neg (by simp), restS.eq_1, if_neg (by simp)]
  exact hH
theorem hadd_any (w : World) (B p : Nat) (l : List UInt8) (s : ByteArray) (hH : HashOf w B p l) (h : l.length + s.size ≤ 100000) :
    Calls Try.prog 13 #[.pointer (some ⟨p, 0, none⟩), .string s] w fun e w' => e = .returned (.tuple #[]) ∧ HashOf w' B p (l ++ s.data.toList) ∧ Below B w w' := by
  refine (add_any w B p _ _ _ s hH (by have := restS_length l; omega) (by omega)).mono ?_
  rintro e w1 ⟨rfl, hH, hb1⟩
  refine ⟨rfl, ?_, hb1⟩
  unfold HashOf
  rw [(full_append FV l _).1, (full_append FV l _).2] at hH
  have e : (l ++ s.data.toList).length = l.length + s.size := by simp
  rw [e]
  exact hH
theorem hsumOf_any (w : World) (B p : Nat) (l : List UInt8) (hH : HashOf w B p l) (h : l.length ≤ 100000) :
    Calls Try.prog 14 #[.pointer (some ⟨p, 0, none⟩)] w fun e w' => e = .returned (.string (bstr (shaD l))) ∧ Below w.heap.size w w' :=
  hsum_any w B p _ _ _ hH (by have := restS_length l; omega) (by omega) (okS_full okS_FV _)
theorem hcopy_any (w : World) (B p : Nat) (l : List UInt8) (hH : HashOf w B p l) :
    Calls Try.prog 16 #[.pointer (some ⟨p, 0, none⟩)] w fun e w' => ∃ q, e = .returned (.pointer (some ⟨q, 0, none⟩)) ∧ HashOf w' w.heap.size q l ∧ Below w.heap.size w w' :=
  copy_any w B p _ _ _ hH (by have := restS_length l; omega)
theorem hlen_any (w : World) (B p : Nat) (l : List UInt8) (hH : HashOf w B p l) :
    Calls Try.prog 15 #[.pointer (some ⟨p, 0, none⟩)] w fun e w' => e = .returned (.int .i64 l.length) ∧ w = w' := by
  have c9 := HashAt.cell9 hH
  go_enter Try.func15, Try.ntmps15
  go_wp2
  go_ret
  exact ⟨rfl, rfl⟩

/-- A slice that can be read: n places. -/
def ReadAt (w : World) (v : Value) (n : Nat) (f : Nat → Value) : Prop :=
  ∃ oa cap, v = .slice oa n cap ∧ n ≤ maxLen ∧ ∀ i, i < n → ∃ a : Addr, oa = some a ∧ (a.add i).block < w.heap.size ∧ w.cell? (a.add i) = some (f i)
theorem sum_of (s : ByteArray) (w : World) (h : s.size ≤ 100000) : Calls Try.prog 10 #[.string s] w fun e w' => e = .returned (.string (bstr (shaD s.data.toList))) ∧ Below w.heap.size w w' :=
  sum_any s w (by omega)
theorem beqs (x : List UInt8) : (x == x) = true := by simp
theorem cat_list (a b : ByteArray) : (a ++ b).data.toList = a.data.toList ++ b.data.toList := by simp [ByteArray.data_append]
end Go.Proofs.Ytnddocchfkhlbaa
