import Derived.Test.YtnddocchfkhlbaaX3
/-! The chapter's example, reckoned: the same words over natural numbers, each forced as it is made. -/
namespace Go.Proofs.Ytnddocchfkhlbaa
open Go.RowKit

def force {α : Type} (n : Nat) (k : Nat → α) : α := Nat.casesOn n (k 0) (fun m => k (m + 1))
theorem force_eq {α : Type} (n : Nat) (k : Nat → α) : force n k = k n := by cases n <;> rfl

def xN (a b : Nat) : Nat := (a % 4294967296) ^^^ (b % 4294967296)
def aN (a b : Nat) : Nat := (a % 4294967296) &&& (b % 4294967296)
def oN (a b : Nat) : Nat := (a % 4294967296) ||| (b % 4294967296)
theorem ofInt_nat (a : Nat) : (BitVec.ofInt IntKind.u32.bits (a : Int)).toNat = a % 4294967296 := by
  show (BitVec.ofInt 32 (a : Int)).toNat = _
  rw [BitVec.toNat_ofInt]
  omega
theorem bits_x (a b : Nat) : bits .xor .u32 (a : Int) (b : Int) = (xN a b : Int) := by
  show IntKind.u32.wrap (((BitVec.ofInt IntKind.u32.bits (a : Int)) ^^^ (BitVec.ofInt IntKind.u32.bits (b : Int))).toNat : Int) = _
  rw [BitVec.toNat_xor, ofInt_nat, ofInt_nat]
  have h : xN a b < 2 ^ 32 := Nat.xor_lt_two_pow (by omega) (by omega)
  unfold xN at *
  exact IntWalk.u32_in _ (by omega)
theorem bits_a (a b : Nat) : bits .and .u32 (a : Int) (b : Int) = (aN a b : Int) := by
  show IntKind.u32.wrap (((BitVec.ofInt IntKind.u32.bits (a : Int)) &&& (BitVec.ofInt IntKind.u32.bits (b : Int))).toNat : Int) = _
  rw [BitVec.toNat_and, ofInt_nat, ofInt_nat]
  have h : aN a b < 2 ^ 32 := Nat.and_lt_two_pow _ (by omega)
  unfold aN at *
  exact IntWalk.u32_in _ (by omega)
theorem bits_o (a b : Nat) : bits .or .u32 (a : Int) (b : Int) = (oN a b : Int) := by
  show IntKind.u32.wrap (((BitVec.ofInt IntKind.u32.bits (a : Int)) ||| (BitVec.ofInt IntKind.u32.bits (b : Int))).toNat : Int) = _
  rw [BitVec.toNat_or, ofInt_nat, ofInt_nat]
  have h : oN a b < 2 ^ 32 := Nat.or_lt_two_pow (by omega) (by omega)
  unfold oN at *
  exact IntWalk.u32_in _ (by omega)

def rN (s x : Nat) : Nat := oN (x * 2 ^ s % 4294967296) (x / 2 ^ (32 - s))
theorem rl_nat (s x : Nat) (hs : s ≤ 32) : rl (s : Int) (x : Int) = (rN s x : Int) := by
  unfold rl rN
  have h1 : ((s : Int)).toNat = s := rfl
  have h2 : (32 - (s : Int)).toNat = 32 - s := by omega
  rw [h1, h2, ← bits_o]
  congr 1
theorem amts : amt (-7) = (25 : Nat) ∧ amt (-18) = (14 : Nat) ∧ amt (-17) = (15 : Nat) ∧ amt (-19) = (13 : Nat) ∧ amt (-6) = (26 : Nat) ∧ amt (-11) = (21 : Nat) ∧ amt (-25) = (7 : Nat) ∧ amt (-2) = (30 : Nat) ∧ amt (-13) = (19 : Nat) ∧ amt (-22) = (10 : Nat) := by decide +kernel

def w0N (m : Nat → Nat) (k : Nat) : Nat := oN (oN (oN (m (4 * k) * 16777216) (m (4 * k + 1) * 65536)) (m (4 * k + 2) * 256)) (m (4 * k + 3))
def sg0N (x : Nat) : Nat := xN (xN (rN 25 x) (rN 14 x)) (x / 8)
def sg1N (x : Nat) : Nat := xN (xN (rN 15 x) (rN 13 x)) (x / 1024)
def Sg1N (e : Nat) : Nat := xN (xN (rN 26 e) (rN 21 e)) (rN 7 e)
def Sg0N (a : Nat) : Nat := xN (xN (rN 30 a) (rN 19 a)) (rN 10 a)
def chN (e f g : Nat) : Nat := xN (aN e f) (aN (xN 4294967295 e) g)
def majN (a b c : Nat) : Nat := xN (xN (aN a b) (aN a c)) (aN b c)
theorem w0_nat (m : Nat → Nat) (k : Nat) : w0 (fun j => (m j : Int)) k = (w0N m k : Int) := by
  unfold w0 w0N
  have e1 (x : Nat) : ((x * 16777216 : Nat) : Int) = (x : Int) * 16777216 := by omega
  have e2 (x : Nat) : ((x * 65536 : Nat) : Int) = (x : Int) * 65536 := by omega
  have e3 (x : Nat) : ((x * 256 : Nat) : Int) = (x : Int) * 256 := by omega
  rw [← bits_o, ← bits_o, ← bits_o, e1, e2, e3]
theorem sg0_nat (x : Nat) : sg0 (x : Int) = (sg0N x : Int) := by
  unfold sg0 sg0N
  rw [amts.1, amts.2.1, rl_nat _ _ (by omega), rl_nat _ _ (by omega), ← bits_x, ← bits_x]
  rfl
theorem sg1_nat (x : Nat) : sg1 (x : Int) = (sg1N x : Int) := by
  unfold sg1 sg1N
  rw [amts.2.2.1, amts.2.2.2.1, rl_nat _ _ (by omega), rl_nat _ _ (by omega), ← bits_x, ← bits_x]
  rfl
theorem Sg1_nat (x : Nat) : Sg1 (x : Int) = (Sg1N x : Int) := by
  unfold Sg1 Sg1N
  rw [amts.2.2.2.2.1, amts.2.2.2.2.2.1, amts.2.2.2.2.2.2.1, rl_nat _ _ (by omega), rl_nat _ _ (by omega), rl_nat _ _ (by omega), ← bits_x, ← bits_x]
theorem Sg0_nat (x : Nat) : Sg0 (x : Int) = (Sg0N x : Int) := by
  unfold Sg0 Sg0N
  rw [amts.2.2.2.2.2.2.2.1, amts.2.2.2.2.2.2.2.2.1, amts.2.2.2.2.2.2.2.2.2, rl_nat _ _ (by omega), rl_nat _ _ (by omega), rl_nat _ _ (by omega), ← bits_x, ← bits_x]
theorem ch_nat (e f g : Nat) : ch (e : Int) f g = (chN e f g : Int) := by
  unfold ch chN
  rw [← bits_x, ← bits_a, ← bits_a, ← bits_x]
  rfl
theorem maj_nat (a b c : Nat) : maj (a : Int) b c = (majN a b c : Int) := by
  unfold maj majN
  rw [← bits_x, ← bits_x, ← bits_a, ← bits_a, ← bits_a]

/-- The schedule's words, the last one first. -/
def wlN : Nat → List Nat → List Nat
  | 0, l => l
  | n + 1, l => force ((l.getD 15 0 + l.getD 6 0 + sg0N (l.getD 14 0) + sg1N (l.getD 1 0)) % 4294967296) fun x => wlN n (x :: l)
theorem wlN_at (m : Nat → Nat) : ∀ (n k : Nat) (l : List Nat), 16 ≤ k → l.length = k → (∀ j, j < k → (l.getD j 0 : Int) = W (fun j => (m j : Int)) (k - 1 - j)) →
    (wlN n l).length = n + k ∧ ∀ j, j < n + k → ((wlN n l).getD j 0 : Int) = W (fun j => (m j : Int)) (n + k - 1 - j) := by
  intro n
  induction n with
  | zero => intro k l _ hl h; exact ⟨by simp [wlN, hl], fun j hj => by have := h j (by omega); rw [show 0 + k - 1 - j = k - 1 - j by omega]; exact this⟩
  | succ n ih =>
    intro k l hk hl h
    simp only [wlN, force_eq]
    have := ih (k + 1) (((l.getD 15 0 + l.getD 6 0 + sg0N (l.getD 14 0) + sg1N (l.getD 1 0)) % 4294967296) :: l) (by omega) (by simp [hl]) (fun j hj => by
      cases j with
      | zero =>
        rw [show k + 1 - 1 - 0 = k by omega, W_next _ k (by omega), show k - 16 = k - 1 - 15 by omega, show k - 7 = k - 1 - 6 by omega, show k - 15 = k - 1 - 14 by omega, show k - 2 = k - 1 - 1 by omega,
          ← h 15 (by omega), ← h 6 (by omega), ← h 14 (by omega), ← h 1 (by omega)]
        unfold wN
        rw [sg0_nat, sg1_nat, List.getD_cons_zero]
        generalize sg0N (l.getD 14 0) = x1
        generalize sg1N (l.getD 1 0) = x2
        omega
      | succ j =>
        show ((l.getD j 0 : Nat) : Int) = _
        rw [h j (by omega)]
        congr 1
        omega)
    rw [show n + 1 + k = n + (k + 1) by omega]
    exact this

/-- Rounds: the numbers and the words are taken off their lists. -/
def goN : List Nat → List Nat → Nat → Nat → Nat → Nat → Nat → Nat → Nat → Nat → List Nat
  | k :: ks, w :: ws, a, b, c, d, e, f, g, h =>
    force (h + Sg1N e + chN e f g + k + w) fun t => force ((t + (Sg0N a + majN a b c)) % 4294967296) fun a' => force ((d + t) % 4294967296) fun e' => goN ks ws a' a b c e' e f g
  | _, _, a, b, c, d, e, f, g, h => [a, b, c, d, e, f, g, h]
theorem stp_succ (m S : Nat → Int) (i j : Nat) : stp m S (i + 1) j = rnd (KV i) (W m i) (stp m S i) j := rfl
theorem rnd_0 (K w : Int) (v : Nat → Int) : rnd K w v 0 = (tt K w v + uu v) % 4294967296 := rfl
theorem rnd_1 (K w : Int) (v : Nat → Int) : rnd K w v 1 = v 0 := rfl
theorem rnd_2 (K w : Int) (v : Nat → Int) : rnd K w v 2 = v 1 := rfl
theorem rnd_3 (K w : Int) (v : Nat → Int) : rnd K w v 3 = v 2 := rfl
theorem rnd_4 (K w : Int) (v : Nat → Int) : rnd K w v 4 = (v 3 + tt K w v) % 4294967296 := rfl
theorem rnd_5 (K w : Int) (v : Nat → Int) : rnd K w v 5 = v 4 := rfl
theorem rnd_6 (K w : Int) (v : Nat → Int) : rnd K w v 6 = v 5 := rfl
theorem rnd_7 (K w : Int) (v : Nat → Int) : rnd K w v 7 = v 6 := rfl
theorem goN_at (m S : Nat → Int) : ∀ (ks ws : List Nat) (i : Nat) (a b c d e f g h : Nat), ks.length = ws.length → (∀ j, j < ks.length → ((ks.getD j 0 : Nat) : Int) = KV (i + j)) → (∀ j, j < ws.length → ((ws.getD j 0 : Nat) : Int) = W m (i + j)) →
    (∀ j, j < 8 → (([a, b, c, d, e, f, g, h].getD j 0 : Nat) : Int) = stp m S i j) → ∀ j, j < 8 → (((goN ks ws a b c d e f g h).getD j 0 : Nat) : Int) = stp m S (i + ks.length) j := by
  intro ks
  induction ks with
  | nil => intro ws i a b c d e f g h _ _ _ hs; simpa [goN] using hs
  | cons k ks ih =>
    intro ws i a b c d e f g h hl hk hw hs
    cases ws with
    | nil => simp at hl
    | cons w ws =>
      simp only [goN, force_eq]
      have h0 := hs 0 (by omega)
      have h1 := hs 1 (by omega)
      have h2 := hs 2 (by omega)
      have h3 := hs 3 (by omega)
      have h4 := hs 4 (by omega)
      have h5 := hs 5 (by omega)
      have h6 := hs 6 (by omega)
      have h7 := hs 7 (by omega)
      have hk0 : ((k : Nat) : Int) = KV i := hk 0 (by simp)
      have hw0 : ((w : Nat) : Int) = W m i := hw 0 (by simp)
      simp only [List.getD_cons_zero, List.getD_cons_succ] at h0 h1 h2 h3 h4 h5 h6 h7
      have ht : ((h + Sg1N e + chN e f g + k + w : Nat) : Int) = tt (KV i) (W m i) (stp m S i) := by
        unfold tt
        rw [← h7, ← h4, ← h5, ← h6, ← hk0, ← hw0, Sg1_nat, ch_nat]
        generalize Sg1N e = x1
        generalize chN e f g = x2
        omega
      have hu : ((Sg0N a + majN a b c : Nat) : Int) = uu (stp m S i) := by
        unfold uu
        rw [← h0, ← h1, ← h2, Sg0_nat, maj_nat]
        generalize Sg0N a = x1
        generalize majN a b c = x2
        omega
      intro j hj
      rw [List.length_cons, show i + (ks.length + 1) = (i + 1) + ks.length by omega]
      refine ih ws (i + 1) _ _ _ _ _ _ _ _ (by simpa using hl) (fun j hj => ?_) (fun j hj => ?_) (fun j hj => ?_) j hj
      · have := hk (j + 1) (by simp; omega)
        rw [show i + 1 + j = i + (j + 1) by omega]; exact this
      · have := hw (j + 1) (by simp; omega)
        rw [show i + 1 + j = i + (j + 1) by omega]; exact this
      · match j, hj with
        | 0, _ =>
          rw [stp_succ, rnd_0, ← ht, ← hu, List.getD_cons_zero]; generalize (h + Sg1N e + chN e f g + k + w) = x1; generalize Sg0N a + majN a b c = x2; omega
        | 1, _ => rw [stp_succ, rnd_1]; exact h0
        | 2, _ => rw [stp_succ, rnd_2]; exact h1
        | 3, _ => rw [stp_succ, rnd_3]; exact h2
        | 4, _ =>
          rw [stp_succ, rnd_4, ← ht, ← h3]; simp only [List.getD_cons_zero, List.getD_cons_succ]; generalize (h + Sg1N e + chN e f g + k + w) = x1; omega
        | 5, _ => rw [stp_succ, rnd_5]; exact h4
        | 6, _ => rw [stp_succ, rnd_6]; exact h5
        | 7, _ => rw [stp_succ, rnd_7]; exact h6
end Go.Proofs.Ytnddocchfkhlbaa
