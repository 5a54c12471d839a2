import Derived.Test.YtnddocchfkhlbaaE
namespace Go.Proofs.Ytnddocchfkhlbaa
open Go.RowKit

def w16 (m : Nat → Nat) : List Nat := [w0N m 15, w0N m 14, w0N m 13, w0N m 12, w0N m 11, w0N m 10, w0N m 9, w0N m 8, w0N m 7, w0N m 6, w0N m 5, w0N m 4, w0N m 3, w0N m 2, w0N m 1, w0N m 0]
def blkN (m : Nat → Nat) (S : Nat → Nat) : List Nat := goN kL (wlN 48 (w16 m)).reverse (S 0) (S 1) (S 2) (S 3) (S 4) (S 5) (S 6) (S 7)
theorem W_16 (m : Nat → Nat) (t : Nat) (h : t < 16) : W (fun j => (m j : Int)) t = (w0N m t : Int) := by
  rw [W, if_pos h, w0_nat]
theorem list16_at (f : Nat → Nat) (j : Nat) (hj : j < 16) : [f 15, f 14, f 13, f 12, f 11, f 10, f 9, f 8, f 7, f 6, f 5, f 4, f 3, f 2, f 1, f 0].getD j 0 = f (15 - j) := by
  have h : j = 0 ∨ j = 1 ∨ j = 2 ∨ j = 3 ∨ j = 4 ∨ j = 5 ∨ j = 6 ∨ j = 7 ∨ j = 8 ∨ j = 9 ∨ j = 10 ∨ j = 11 ∨ j = 12 ∨ j = 13 ∨ j = 14 ∨ j = 15 := by omega
  rcases h with rfl | rfl | rfl | rfl | rfl | rfl | rfl | rfl | rfl | rfl | rfl | rfl | rfl | rfl | rfl | rfl <;> rfl
theorem w16_def (m : Nat → Nat) : w16 m = [w0N m 15, w0N m 14, w0N m 13, w0N m 12, w0N m 11, w0N m 10, w0N m 9, w0N m 8, w0N m 7, w0N m 6, w0N m 5, w0N m 4, w0N m 3, w0N m 2, w0N m 1, w0N m 0] := rfl
theorem w16_at (m : Nat → Nat) (j : Nat) (hj : j < 16) : (w16 m).getD j 0 = w0N m (15 - j) := by
  rw [w16_def]
  exact list16_at (w0N m) j hj
theorem eight_at (S : Nat → Nat) (j : Nat) (hj : j < 8) : [S 0, S 1, S 2, S 3, S 4, S 5, S 6, S 7].getD j 0 = S j := by
  match j, hj with
  | 0, _ => rfl
  | 1, _ => rfl
  | 2, _ => rfl
  | 3, _ => rfl
  | 4, _ => rfl
  | 5, _ => rfl
  | 6, _ => rfl
  | 7, _ => rfl
theorem wl48_at (m : Nat → Nat) : (wlN 48 (w16 m)).length = 64 ∧ ∀ j, j < 64 → ((wlN 48 (w16 m)).getD j 0 : Int) = W (fun j => (m j : Int)) (63 - j) := by
  have := wlN_at m 48 16 (w16 m) (by omega) rfl (fun j hj => by rw [w16_at m j hj, W_16 _ _ (by omega)])
  exact this
theorem go64_at (m S : Nat → Nat) (j : Nat) (hj : j < 8) : (((blkN m S).getD j 0 : Nat) : Int) = stp (fun j => (m j : Int)) (fun j => (S j : Int)) 64 j := by
  obtain ⟨hl, hw⟩ := wl48_at m
  have hk : kL.length = 64 := by decide
  have := goN_at (fun j => (m j : Int)) (fun j => (S j : Int)) kL (wlN 48 (w16 m)).reverse 0 (S 0) (S 1) (S 2) (S 3) (S 4) (S 5) (S 6) (S 7)
    (by rw [List.length_reverse, hl, hk]) (fun j _ => by rw [Nat.zero_add, KV])
    (fun j hj => by
      rw [List.length_reverse, hl] at hj
      rw [List.getD_eq_getElem?_getD, List.getElem?_reverse (by rw [hl]; exact hj), hl, ← List.getD_eq_getElem?_getD, hw _ (by omega)]
      congr 1
      omega)
    (fun j hj => by rw [eight_at S j hj, stp]) j hj
  rw [hk, Nat.zero_add] at this
  exact this
theorem blkN_at (m S : Nat → Nat) (j : Nat) (hj : j < 8) : blk (fun j => (m j : Int)) (fun j => (S j : Int)) j = (((S j + (blkN m S).getD j 0) % 4294967296 : Nat) : Int) := by
  have := go64_at m S j hj
  rw [blk, ← this]
  generalize (blkN m S).getD j 0 = x
  show (((S j : Nat) : Int) + (x : Int)) % 4294967296 = _
  generalize S j = y
  omega

def abc : List UInt8 := [97, 98, 99]
def abcM : List UInt8 := abc ++ pad 3
def abcD : List UInt8 := force ((((blkN (fun j => (abcM.getD j 0).toNat) (fun j => firstL.getD j 0)).getD 0 0) + firstL.getD 0 0) % 4294967296) fun _ =>
  (fun (l : List Nat) => (List.range 8).flatMap fun j => hiB ((firstL.getD j 0 + l.getD j 0) % 4294967296) 4) (blkN (fun j => (abcM.getD j 0).toNat) (fun j => firstL.getD j 0))

theorem flatMap_in {f g : Nat → List UInt8} (l : List Nat) (h : ∀ j ∈ l, f j = g j) : l.flatMap f = l.flatMap g := by
  induction l with
  | nil => rfl
  | cons a l ih => rw [List.flatMap_cons, List.flatMap_cons, h a (by simp), ih (fun j hj => h j (by simp [hj]))]
theorem shaD_abc : shaD abc = abcD := by
  unfold shaD abcD
  rw [force_eq, fullS.eq_1 FV abc, if_neg (by decide), restS.eq_1 abc, if_neg (by decide), show abc.length = 3 from rfl]
  show digestL (fullS FV abcM) 8 = _
  rw [fullS.eq_1 FV abcM, if_pos (by decide), fullS.eq_1 _ (abcM.drop 64), if_neg (by decide)]
  unfold digestL
  refine flatMap_in _ fun j hj => ?_
  have hj : j < 8 := List.mem_range.mp hj
  have := blkN_at (fun j => (abcM.getD j 0).toNat) (fun j => firstL.getD j 0) j hj
  show hiB (blk (fun j => (((fun j => (abcM.getD j 0).toNat) j : Nat) : Int)) (fun j => (((fun j => firstL.getD j 0) j : Nat) : Int)) j).toNat 4 = _
  rw [this, Int.toNat_natCast]
set_option maxRecDepth 100000 in
theorem abcD_hex : hexL abcD = [98, 97, 55, 56, 49, 54, 98, 102, 56, 102, 48, 49, 99, 102, 101, 97, 52, 49, 52, 49, 52, 48, 100, 101, 53, 100, 97, 101, 50, 50, 50, 51, 98, 48, 48, 51, 54, 49, 97, 51, 57, 54, 49, 55, 55, 97, 57, 99, 98, 52, 49, 48, 102, 102, 54, 49, 102, 50, 48, 48, 49, 53, 97, 100] := by
  decide +kernel
end Go.Proofs.Ytnddocchfkhlbaa
