import Derived.Test.YtijnlgmclaphhaaDoorF
import Derived.Test.YtijnlgmclaphhaaDoorZ0
set_option linter.unusedVariables false
set_option linter.unusedSimpArgs false
/-! Names in order, and what a directory is. -/
namespace Go.Proofs.YtijnlgmclaphhaaDoor
open Go.RowKit

abbrev Nm := Go.Proofs.YtijnlgmclaphhaaDoorZ.S25
theorem lt_irr : ∀ a : List UInt8, Op.bytesLess a a = false
  | [] => rfl
  | a :: x => by
    unfold Op.bytesLess
    rw [lt_irr x]
    simp
theorem lt_tr : ∀ a b c : List UInt8, Op.bytesLess a b = true → Op.bytesLess b c = true → Op.bytesLess a c = true
  | _, _, [] => fun _ h => by simp [Op.bytesLess] at h
  | [], _, _ :: _ => fun _ _ => rfl
  | _ :: _, [], _ :: _ => fun h _ => by simp [Op.bytesLess] at h
  | a :: x, b :: y, c :: z => fun h1 h2 => by
    unfold Op.bytesLess at h1 h2 ⊢
    simp only [Bool.or_eq_true, Bool.and_eq_true, decide_eq_true_eq, beq_iff_eq] at h1 h2 ⊢
    rcases h1 with h1 | ⟨rfl, h1⟩
    · rcases h2 with h2 | ⟨rfl, h2⟩
      · exact .inl (UInt8.lt_trans h1 h2)
      · exact .inl h1
    · rcases h2 with h2 | ⟨rfl, h2⟩
      · exact .inl h2
      · exact .inr ⟨rfl, lt_tr x y z h1 h2⟩
theorem lt_tri : ∀ a b : List UInt8, Op.bytesLess a b = false → Op.bytesLess b a = false → a = b
  | [], [] => fun _ _ => rfl
  | [], _ :: _ => fun h _ => by simp [Op.bytesLess] at h
  | _ :: _, [] => fun _ h => by simp [Op.bytesLess] at h
  | a :: x, b :: y => fun h1 h2 => by
    unfold Op.bytesLess at h1 h2
    simp only [Bool.or_eq_false_iff, Bool.and_eq_false_iff, decide_eq_false_iff_not] at h1 h2
    have e : a = b := by
      have h3 := h1.1
      have h4 := h2.1
      rw [UInt8.lt_iff_toNat_lt] at h3 h4
      exact UInt8.toNat_inj.1 (by omega)
    subst e
    have h5 := h1.2.resolve_left (by simp)
    have h6 := h2.2.resolve_left (by simp)
    rw [lt_tri x y h5 h6]
theorem cmp_lt : ∀ a b : List UInt8, (Lib.compareBytes a b < 0) ↔ Op.bytesLess a b = true
  | [], [] => by simp [Lib.compareBytes, Op.bytesLess]
  | [], _ :: _ => by simp [Lib.compareBytes, Op.bytesLess]
  | _ :: _, [] => by simp [Lib.compareBytes, Op.bytesLess]
  | a :: x, b :: y => by
    unfold Lib.compareBytes Op.bytesLess
    have ih := cmp_lt x y
    by_cases h1 : a < b
    · rw [if_pos h1]; simp [h1]
    · rw [if_neg h1]
      by_cases h2 : b < a
      · rw [if_pos h2]
        have : ¬ a = b := by rintro rfl; exact h1 h2
        simp [h1, this]
      · rw [if_neg h2, ih]
        have : a = b := by
          rw [UInt8.lt_iff_toNat_lt] at h1 h2
          exact UInt8.toNat_inj.1 (by omega)
        simp [h1, this]
theorem cmp_eq : ∀ a b : List UInt8, (Lib.compareBytes a b = 0) ↔ a = b
  | [], [] => by simp [Lib.compareBytes]
  | [], _ :: _ => by simp [Lib.compareBytes]
  | _ :: _, [] => by simp [Lib.compareBytes]
  | a :: x, b :: y => by
    unfold Lib.compareBytes
    have ih := cmp_eq x y
    by_cases h1 : a < b
    · rw [if_pos h1]
      have : ¬ a = b := by rintro rfl; rw [UInt8.lt_iff_toNat_lt] at h1; omega
      simp [this]
    · rw [if_neg h1]
      by_cases h2 : b < a
      · rw [if_pos h2]
        have : ¬ a = b := by rintro rfl; exact h1 h2
        simp [this]
      · rw [if_neg h2, ih]
        have : a = b := by
          rw [UInt8.lt_iff_toNat_lt] at h1 h2
          exact UInt8.toNat_inj.1 (by omega)
        simp [this]

theorem leq_true {a b : List UInt8} (h : Op.bytesLess a b = true) : (Op.bytesLess b a || b == a) = false := by
  have h1 : Op.bytesLess b a = false := by
    cases k : Op.bytesLess b a with
    | false => rfl
    | true => have := lt_tr _ _ _ h k; rw [lt_irr] at this; cases this
  have h2 : (b == a) = false := by
    rw [beq_eq_false_iff_ne]
    rintro rfl
    rw [lt_irr] at h
    cases h
  rw [h1, h2]; rfl
theorem leq_false {a b : List UInt8} (h : Op.bytesLess a b = false) : (Op.bytesLess b a || b == a) = true := by
  cases k : Op.bytesLess b a with
  | true => rfl
  | false => rw [lt_tri _ _ k h]; simp
def blt (a b : ByteArray) : Bool := Op.bytesLess a.toList b.toList
theorem toList_inj {a b : ByteArray} (h : a.toList = b.toList) : a = b := by
  rw [Lib.toList_data, Lib.toList_data] at h
  cases a; cases b
  simp only at h
  rename_i x y
  have : x = y := Array.toList_inj.1 h
  rw [this]
theorem blt_irr (a : ByteArray) : blt a a = false := lt_irr _
theorem blt_tr {a b c : ByteArray} (h : blt a b = true) (k : blt b c = true) : blt a c = true := lt_tr _ _ _ h k
theorem blt_tri {a b : ByteArray} (h : blt a b = false) (k : blt b a = false) : a = b := toList_inj (lt_tri _ _ h k)
theorem blt_asym {a b : ByteArray} (h : blt a b = true) : blt b a = false := by
  cases k : blt b a with
  | false => rfl
  | true => have := blt_tr h k; rw [blt_irr] at this; cases this
theorem blt_empty {a : ByteArray} (h : 1 ≤ a.size) : blt ⟨#[]⟩ a = true := by
  unfold blt
  rw [Lib.toList_data, Lib.toList_data]
  cases hl : a.data.toList with
  | nil => have := Lib.size_eq a; rw [hl, List.length_nil] at this; omega
  | cons x l => rfl

def kindOk (k : Int) : Bool := k == 1 || k == 2
def idOk (n : Int) : Bool := decide (1 ≤ n) && decide (n ≤ 2305843009213693951)
def okN (x : Nm) : Bool := fitsB x.f0 && kindOk x.f1 && idOk x.f2
def sizeN (l : List Nm) : Nat := (l.map fun x => 10 + x.f0.size).sum
def ordFrom (last : ByteArray) : List Nm → Bool
  | [] => true
  | x :: l => okN x && blt last x.f0 && ordFrom x.f0 l
def ordL (l : List Nm) : Bool := ordFrom ⟨#[]⟩ l
def rightL (l : List Nm) : Bool := ordL l && decide (sizeN l ≤ 4096)

theorem fits_out {s : ByteArray} (h : fitsB s = true) : 1 ≤ s.size ∧ s.size ≤ 32 := by
  unfold fitsB at h
  simp only [Bool.and_eq_true, decide_eq_true_eq] at h
  exact ⟨h.1.1.1.1, h.1.1.1.2⟩
theorem okN_out {x : Nm} (h : okN x = true) : fitsB x.f0 = true ∧ (x.f1 = 1 ∨ x.f1 = 2) ∧ 1 ≤ x.f2 ∧ x.f2 ≤ 2305843009213693951 := by
  unfold okN kindOk idOk at h
  simp only [Bool.and_eq_true, Bool.or_eq_true, beq_iff_eq, decide_eq_true_eq] at h
  exact ⟨h.1.1, h.1.2, h.2.1, h.2.2⟩
theorem okN_size {x : Nm} (h : okN x = true) : 1 ≤ x.f0.size ∧ x.f0.size ≤ 32 := fits_out (okN_out h).1
theorem ord_ok : ∀ {l : List Nm} {b : ByteArray}, ordFrom b l = true → ∀ x ∈ l, okN x = true
  | [], _, _, x, hx => by simp at hx
  | a :: l, b, h, x, hx => by
    unfold ordFrom at h
    simp only [Bool.and_eq_true] at h
    rcases List.mem_cons.1 hx with rfl | hx
    · exact h.1.1
    · exact ord_ok h.2 x hx
theorem ord_gt : ∀ {l : List Nm} {b : ByteArray}, ordFrom b l = true → ∀ x ∈ l, blt b x.f0 = true
  | [], _, _, x, hx => by simp at hx
  | a :: l, b, h, x, hx => by
    unfold ordFrom at h
    simp only [Bool.and_eq_true] at h
    rcases List.mem_cons.1 hx with rfl | hx
    · exact h.1.2
    · exact blt_tr h.1.2 (ord_gt h.2 x hx)
theorem ord_lt : ∀ {l : List Nm} {b : ByteArray}, ordFrom b l = true → ∀ i j (hi : i < l.length) (hj : j < l.length), i < j → blt (l[i]).f0 (l[j]).f0 = true
  | [], _, _, i, _, hi, _, _ => by simp at hi
  | a :: l, b, h, i, j, hi, hj, hij => by
    unfold ordFrom at h
    simp only [Bool.and_eq_true] at h
    cases j with
    | zero => omega
    | succ j =>
      cases i with
      | zero => exact ord_gt h.2 _ (List.getElem_mem _)
      | succ i => exact ord_lt h.2 i j (by simpa using hi) (by simpa using hj) (by omega)
theorem sizeN_le : ∀ l : List Nm, 10 * l.length ≤ sizeN l
  | [] => by simp [sizeN]
  | a :: l => by
    have := sizeN_le l
    simp only [sizeN, List.map_cons, List.sum_cons, List.length_cons] at this ⊢
    omega
theorem sizeN_hi : ∀ l : List Nm, (∀ x ∈ l, x.f0.size ≤ 32) → sizeN l ≤ 42 * l.length
  | [] => by simp [sizeN]
  | a :: l => fun h => by
    have := sizeN_hi l fun x hx => h x (List.mem_cons_of_mem _ hx)
    have h2 := h a (by simp)
    simp only [sizeN, List.map_cons, List.sum_cons, List.length_cons] at this ⊢
    omega
theorem right_len {l : List Nm} (h : rightL l = true) : l.length ≤ 409 := by
  unfold rightL at h
  simp only [Bool.and_eq_true, decide_eq_true_eq] at h
  have := sizeN_le l
  omega
theorem right_ord {l : List Nm} (h : rightL l = true) : ordL l = true ∧ sizeN l ≤ 4096 := by
  unfold rightL at h
  simpa only [Bool.and_eq_true, decide_eq_true_eq] using h
theorem sizeN_append (a b : List Nm) : sizeN (a ++ b) = sizeN a + sizeN b := by simp [sizeN]
theorem sizeN_cons (x : Nm) (b : List Nm) : sizeN (x :: b) = 10 + x.f0.size + sizeN b := by simp [sizeN]

/-- Where a name stands, or would. -/
def atI (l : List Nm) (s : ByteArray) : Nat := (l.takeWhile fun x => blt x.f0 s).length
def hasN (l : List Nm) (s : ByteArray) : Bool := l.any fun x => x.f0.toList == s.toList
theorem atI_le (l : List Nm) (s : ByteArray) : atI l s ≤ l.length := by
  unfold atI
  induction l with
  | nil => simp
  | cons a l ih =>
    simp only [List.takeWhile_cons]
    split
    · simp only [List.length_cons]; omega
    · simp
theorem takeWhile_at {α : Type} (q : α → Bool) : ∀ (l : List α) (i : Nat), i ≤ l.length → (∀ k (h : k < l.length), k < i → q (l[k]) = true) → (∀ k (h : k < l.length), i ≤ k → q (l[k]) = false) → (l.takeWhile q).length = i
  | [], i, hi, _, _ => by simp at hi ⊢; omega
  | a :: l, 0, _, _, h2 => by
    have := h2 0 (by simp) (Nat.le_refl _)
    simp only [List.getElem_cons_zero] at this
    simp [List.takeWhile_cons, this]
  | a :: l, i + 1, hi, h1, h2 => by
    have h0 := h1 0 (by simp) (by omega)
    simp only [List.getElem_cons_zero] at h0
    rw [List.takeWhile_cons, if_pos h0, List.length_cons, takeWhile_at q l i (by simpa using hi) (fun k hk hki => h1 (k + 1) (Nat.succ_lt_succ hk) (by omega)) (fun k hk hki => h2 (k + 1) (Nat.succ_lt_succ hk) (by omega))]
theorem atI_lt {l : List Nm} {s : ByteArray} : ∀ k (h : k < l.length), k < atI l s → blt (l[k]).f0 s = true := by
  unfold atI
  induction l with
  | nil => intro k h; simp at h
  | cons a l ih =>
    intro k h hk
    rw [List.takeWhile_cons] at hk
    cases hq : blt a.f0 s with
    | false => rw [hq] at hk; simp at hk
    | true =>
      rw [hq] at hk
      cases k with
      | zero => exact hq
      | succ k => exact ih k (by simpa using h) (by simpa using hk)
theorem atI_stop {l : List Nm} {s : ByteArray} (h : atI l s < l.length) : blt (l[atI l s]).f0 s = false := by
  unfold atI at h ⊢
  induction l with
  | nil => simp at h
  | cons a l ih =>
    cases hq : blt a.f0 s with
    | false => simp [List.takeWhile_cons, hq]
    | true =>
      simp only [List.takeWhile_cons, hq, if_true, List.length_cons] at h ⊢
      simpa using ih (by simpa using h)
theorem atI_ge {l : List Nm} {s b : ByteArray} (ho : ordFrom b l = true) : ∀ k (h : k < l.length), atI l s ≤ k → blt (l[k]).f0 s = false := by
  intro k h hk
  have hs := atI_stop (l := l) (s := s) (by omega)
  rcases Nat.lt_or_ge (atI l s) k with h' | h'
  · cases hq : blt (l[k]).f0 s with
    | false => rfl
    | true =>
      have := blt_tr (ord_lt ho (atI l s) k (by omega) h h') hq
      rw [hs] at this; cases this
  · have e : k = atI l s := by omega
    subst e
    exact hs
theorem hasN_iff {l : List Nm} {s b : ByteArray} (ho : ordFrom b l = true) : hasN l s = true ↔ ∃ h : atI l s < l.length, (l[atI l s]).f0 = s := by
  unfold hasN
  rw [List.any_eq_true]
  constructor
  · rintro ⟨x, hx, h⟩
    obtain ⟨k, hk, rfl⟩ := List.getElem_of_mem hx
    have e : (l[k]).f0 = s := toList_inj (beq_iff_eq.1 h)
    have h1 : ¬ k < atI l s := fun h' => by
      have := atI_lt k hk h'
      rw [e, blt_irr] at this; cases this
    have h2 : atI l s < l.length := by omega
    rcases Nat.lt_or_ge (atI l s) k with h' | h'
    · have h3 := ord_lt ho (atI l s) k h2 hk h'
      rw [e, atI_stop h2] at h3
      cases h3
    · have e2 : k = atI l s := by omega
      subst e2
      exact ⟨hk, e⟩
  · rintro ⟨h, e⟩
    exact ⟨_, List.getElem_mem h, beq_iff_eq.2 (by rw [e])⟩
end Go.Proofs.YtijnlgmclaphhaaDoor
