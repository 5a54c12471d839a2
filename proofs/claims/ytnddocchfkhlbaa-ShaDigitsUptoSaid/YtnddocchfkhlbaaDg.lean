import Derived.Test.YtnddocchfkhlbaaZ8
import Derived.Test.YtnddocchfkhlbaaZ28
import Derived.Test.YtnddocchfkhlbaaZ30
import Derived.Test.YtnddocchfkhlbaaZ27
namespace Go.Proofs.YtnddocchfkhlbaaPure
open Go Go.RowKit Go.Proofs.YtnddocchfkhlbaaZ Go.Proofs.YtnddocchfkhlbaaW.PrintWords Go.Proofs.YtnddocchfkhlbaaW.PrintLast

def hx (n : Int) : Int := if n < 10 then 48 + n else 87 + n
def hx2 (b : Int) : List Int := [hx (b / 16), hx (b % 16)]
def dig (c : Int) : Option Int := if 48 ≤ c ∧ c ≤ 57 then some (c - 48) else if 97 ≤ c ∧ c ≤ 102 then some (c - 87) else none
def DG : ByteArray := ⟨#[48, 49, 50, 51, 52, 53, 54, 55, 56, 57, 97, 98, 99, 100, 101, 102]⟩

theorem fin256 {b : Int} (h0 : 0 ≤ b) (h1 : b ≤ 255) : ∃ n : Fin 256, b = ((n.val : Nat) : Int) := ⟨⟨b.toNat, by omega⟩, by simp; omega⟩
set_option maxRecDepth 100000 in
theorem hexd_all : ∀ n : Fin 256, bt DG (((n.val : Nat) : Int) / 16) = hx (((n.val : Nat) : Int) / 16) ∧ bt DG (Go.bits .and .u8 ((n.val : Nat) : Int) 15) = hx (((n.val : Nat) : Int) % 16) ∧
    Go.bits .and .u8 ((n.val : Nat) : Int) 15 = ((n.val : Nat) : Int) % 16 := by decide +kernel
theorem hexd {b : Int} (h0 : 0 ≤ b) (h1 : b ≤ 255) : bt DG (b / 16) = hx (b / 16) ∧ bt DG (Go.bits .and .u8 b 15) = hx (b % 16) ∧ Go.bits .and .u8 b 15 = b % 16 := by
  obtain ⟨n, rfl⟩ := fin256 h0 h1
  exact hexd_all n
set_option maxRecDepth 100000 in
theorem index_all : ∀ n : Fin 256, Lib.indexByte DG.data.toList (((n.val : Nat) : Int)).toNat.toUInt8 = (dig ((n.val : Nat) : Int)).getD (-1) := by decide +kernel
theorem index_dig {b : Int} (h0 : 0 ≤ b) (h1 : b ≤ 255) : Lib.indexByte DG.data.toList b.toNat.toUInt8 = (dig b).getD (-1) := by
  obtain ⟨n, rfl⟩ := fin256 h0 h1
  exact index_all n
theorem dig_range {c x : Int} (h : dig c = some x) : 0 ≤ x ∧ x ≤ 15 := by
  unfold dig at h
  split at h
  · cases h; omega
  · split at h
    · cases h; omega
    · cases h
theorem dig_hx {n : Int} (h0 : 0 ≤ n) (h1 : n < 16) : dig (hx n) = some n := by
  unfold dig hx
  split
  · rw [if_pos (by omega)]; congr 1; omega
  · rw [if_neg (by omega), if_pos (by omega)]; congr 1; omega

theorem bytes_drop (s : ByteArray) (i : Nat) (h : i < s.size) : (bytesOf s).drop i = bt s i :: (bytesOf s).drop (i + 1) := by
  have hl : i < (bytesOf s).length := by rw [bytesOf_length]; exact h
  rw [List.drop_eq_getElem_cons hl]
  congr 1
  rw [← rd_bytesOf, rd, List.getD_eq_getElem?_getD, Int.toNat_natCast, List.getElem?_eq_getElem hl]
  rfl
theorem bytes_all (s : ByteArray) : ∀ x ∈ bytesOf s, 0 ≤ x ∧ x ≤ 255 := by
  intro x hx
  simp only [bytesOf, List.mem_map] at hx
  obtain ⟨b, _, rfl⟩ := hx
  have := b.toNat_lt
  omega
theorem strOf_bytes (s : ByteArray) : strOfNums (bytesOf s) = s := by
  obtain ⟨⟨l⟩⟩ := s
  simp only [strOfNums, bytesOf, List.map_map]
  congr 1
  congr 1
  conv => rhs; rw [← List.map_id l]
  apply List.map_congr_left
  intro b _
  simp
theorem bytes_strOf (l : List Int) (h : ∀ x ∈ l, 0 ≤ x ∧ x ≤ 255) : bytesOf (strOfNums l) = l := by
  simp only [strOfNums, bytesOf, List.map_map]
  conv => rhs; rw [← List.map_id l]
  apply List.map_congr_left
  intro b hb
  have := h b hb
  simp only [Function.comp_apply, id_eq, UInt8.toNat_ofNat']
  omega
theorem strOf_size (l : List Int) : (strOfNums l).size = l.length := by simp [strOfNums, ByteArray.size]

theorem wrap_in {x : Int} (h0 : -9223372036854775808 ≤ x) (h1 : x ≤ 9223372036854775807) : wrap64 x = x := by unfold wrap64; omega

/-! The program's Hex. -/
theorem sHex (s : ByteArray) (hs : s.size ≤ 2097152) : ∀ (d k i : Nat) (acc : List Int), i + d = s.size → acc.length = 2 * i → d < k →
    sha_Hex.l0 k s acc s.size i = some (strOfNums (acc ++ ((bytesOf s).drop i).flatMap hx2)) := by
  intro d
  induction d with
  | zero =>
    intro k i acc hi ha hk
    obtain ⟨k, rfl⟩ : ∃ m, k = m + 1 := ⟨k - 1, by omega⟩
    simp only [sha_Hex.l0]
    rw [if_neg (by omega), List.drop_eq_nil_of_le (by rw [bytesOf_length]; omega)]
    simp
  | succ d ih =>
    intro k i acc hi ha hk
    obtain ⟨k, rfl⟩ : ∃ m, k = m + 1 := ⟨k - 1, by omega⟩
    obtain ⟨b0, b1⟩ := bt_range s i
    obtain ⟨e1, e2, e3⟩ := hexd b0 b1
    simp only [sha_Hex.l0]
    rw [if_pos (by omega), if_pos (by omega), if_pos (by omega), if_pos (by omega), if_pos (by omega), e3, if_pos (by omega), if_pos (by omega)]
    rw [show (⟨#[48, 49, 50, 51, 52, 53, 54, 55, 56, 57, 97, 98, 99, 100, 101, 102]⟩ : ByteArray) = DG from rfl, e1, show bt DG (bt s ↑i % 16) = hx (bt s i % 16) by rw [← e3]; rw [e3] at e2 ⊢; exact e2]
    simp only [Option.bind_some]
    rw [if_pos (by simp only [List.length_cons, List.length_nil]; omega), wrap_in (by omega) (by omega)]
    have := ih k (i + 1) (acc ++ [hx (bt s i / 16), hx (bt s i % 16)]) (by omega) (by simp; omega) (by omega)
    rw [show ((i : Int) + 1) = ((i + 1 : Nat) : Int) by omega, this, bytes_drop s i (by omega), List.flatMap_cons]
    simp [hx2]
theorem rdigit {n : Int} (h0 : 0 ≤ n) (h1 : n < 16) : gatehouseref15_digit.f n = some (hx n) := by
  unfold gatehouseref15_digit.f hx
  split
  · congr 1; omega
  · congr 1; omega
theorem rHex (s : ByteArray) (hs : s.size ≤ 2097152) : ∀ (d k i : Nat) (acc : List Int), i + d = s.size → acc.length = 2 * i → d < k →
    gatehouseref15_Hex.l0 k s acc i = some (strOfNums (acc ++ ((bytesOf s).drop i).flatMap hx2)) := by
  intro d
  induction d with
  | zero =>
    intro k i acc hi ha hk
    obtain ⟨k, rfl⟩ : ∃ m, k = m + 1 := ⟨k - 1, by omega⟩
    simp only [gatehouseref15_Hex.l0]
    rw [if_neg (by omega), List.drop_eq_nil_of_le (by rw [bytesOf_length]; omega)]
    simp
  | succ d ih =>
    intro k i acc hi ha hk
    obtain ⟨k, rfl⟩ : ∃ m, k = m + 1 := ⟨k - 1, by omega⟩
    obtain ⟨b0, b1⟩ := bt_range s i
    have q1 : (Int.tdiv (bt s i) 16) % 256 = bt s i / 16 := by rw [Int.tdiv_eq_ediv_of_nonneg b0]; omega
    have q2 : Int.tmod (bt s i) 16 = bt s i % 16 := Int.tmod_eq_emod_of_nonneg b0
    simp only [gatehouseref15_Hex.l0]
    rw [if_pos (by omega), if_pos (by omega), q1, q2, rdigit (by omega) (by omega), rdigit (by omega) (by omega)]
    simp only [Option.bind_some]
    rw [if_pos (by simp only [List.length_cons, List.length_nil]; omega), wrap_in (by omega) (by omega)]
    have := ih k (i + 1) (acc ++ [hx (bt s i / 16), hx (bt s i % 16)]) (by omega) (by simp; omega) (by omega)
    rw [show ((i : Int) + 1) = ((i + 1 : Nat) : Int) by omega, this, bytes_drop s i (by omega), List.flatMap_cons]
    simp [hx2]

/-! Reading digits. -/
def dec : List Int → Option (List Int)
  | [] => some []
  | [_] => none
  | a :: b :: r => match dig a, dig b with
    | some x, some y => (dec r).map ((16 * x + y) :: ·)
    | _, _ => none
def told : List Int → Option (List Int) → ByteArray × Int
  | acc, some l => (strOfNums (acc ++ l), 0)
  | _, none => (⟨#[]⟩, 2)
theorem dec_flat (l : List Int) (h : ∀ x ∈ l, 0 ≤ x ∧ x ≤ 255) : dec (l.flatMap hx2) = some l := by
  induction l with
  | nil => rfl
  | cons a l ih =>
    have ha := h a (by simp)
    rw [List.flatMap_cons, hx2]
    show dec (hx (a / 16) :: hx (a % 16) :: l.flatMap hx2) = _
    rw [dec, dig_hx (by omega) (by omega), dig_hx (by omega) (by omega), ih (fun x hx => h x (by simp [hx]))]
    simp
    omega
theorem flat_len (l : List Int) : (l.flatMap hx2).length = 2 * l.length := by
  induction l with
  | nil => rfl
  | cons a l ih => rw [List.flatMap_cons, List.length_append, ih]; simp [hx2]; omega
theorem flat_all (l : List Int) (h : ∀ x ∈ l, 0 ≤ x ∧ x ≤ 255) : ∀ x ∈ l.flatMap hx2, 0 ≤ x ∧ x ≤ 255 := by
  intro x hx
  rw [List.mem_flatMap] at hx
  obtain ⟨a, ha, hx⟩ := hx
  have := h a ha
  simp only [hx2, List.mem_cons, List.not_mem_nil, or_false] at hx
  rcases hx with rfl | rfl
  · unfold hx; split <;> omega
  · unfold hx; split <;> omega

theorem bytesOf_extract (s : ByteArray) (h : 2 ≤ s.size) : bytesOf (s.extract 2 s.size) = (bytesOf s).drop 2 := by
  simp [bytesOf, ByteArray.data_extract, List.map_drop]
  rw [List.take_of_length_le]
  simp
theorem toList_nil (s : ByteArray) : s.toList = ([] : List UInt8) ↔ s.size = 0 := by
  rw [Go.ByteArray.toList_eq]
  constructor
  · intro h
    have := congrArg List.length h
    simpa using this
  · intro h
    apply List.eq_nil_of_length_eq_zero
    simpa using h
theorem sUnhex : ∀ (d k : Nat) (s : ByteArray) (acc : List Int), s.size = 2 * d → acc.length + d ≤ 2097152 → d < k →
    sha_Unhex.l0 k s acc = some (told acc (dec (bytesOf s))) := by
  intro d
  induction d with
  | zero =>
    intro k s acc hs ha hk
    obtain ⟨k, rfl⟩ : ∃ m, k = m + 1 := ⟨k - 1, by omega⟩
    simp only [sha_Unhex.l0]
    rw [if_pos ((toList_nil s).2 (by omega))]
    have : bytesOf s = [] := List.eq_nil_of_length_eq_zero (by rw [bytesOf_length]; omega)
    rw [this, dec, told]
    simp
  | succ d ih =>
    intro k s acc hs ha hk
    obtain ⟨k, rfl⟩ : ∃ m, k = m + 1 := ⟨k - 1, by omega⟩
    have e0 := bytes_drop s 0 (by omega)
    have e1 := bytes_drop s 1 (by omega)
    rw [List.drop_zero] at e0
    rw [Nat.zero_add, e1] at e0
    obtain ⟨a0, a1⟩ := bt_range s ((0 : Nat) : Int)
    obtain ⟨b0, b1⟩ := bt_range s ((1 : Nat) : Int)
    simp only [sha_Unhex.l0, strings_IndexByte.f, Option.bind_some]
    rw [if_neg (by rw [toList_nil]; omega), if_pos (by omega), if_pos (by omega)]
    rw [show ([48, 49, 50, 51, 52, 53, 54, 55, 56, 57, 97, 98, 99, 100, 101, 102] : List UInt8) = DG.data.toList from rfl]
    rw [show bt s 0 = bt s ((0 : Nat) : Int) from rfl, show bt s 1 = bt s ((1 : Nat) : Int) from rfl, index_dig a0 a1, index_dig b0 b1, e0, dec]
    cases h1 : dig (bt s ((0 : Nat) : Int)) with
    | none => simp [told]
    | some x =>
      obtain ⟨x0, x1⟩ := dig_range h1
      cases h2 : dig (bt s ((1 : Nat) : Int)) with
      | none =>
        simp only [Option.getD_some, Option.getD_none]
        rw [if_neg (by omega), if_pos (by omega)]
        rfl
      | some y =>
        obtain ⟨y0, y1⟩ := dig_range h2
        simp only [Option.getD_some]
        rw [if_neg (by omega), if_neg (by omega), if_pos (by omega), if_pos (by omega)]
        rw [wrap_in (x := 16 * x) (by omega) (by omega), wrap_in (by omega) (by omega), show (16 * x + y) % 256 = 16 * x + y by omega]
        have hz : (s.extract 2 s.size).size = 2 * d := by simp; omega
        rw [ih k (s.extract 2 s.size) _ hz (by simp; omega) (by omega), bytesOf_extract s (by omega)]
        have e2 : (bytesOf s).drop 2 = (bytesOf s).drop (1 + 1) := rfl
        rw [e2]
        cases dec ((bytesOf s).drop (1 + 1)) with
        | none => rfl
        | some l => simp [told]

theorem drop_two (s : ByteArray) (i : Nat) (h : i + 1 < s.size) : (bytesOf s).drop i = bt s i :: bt s ((i + 1 : Nat) : Int) :: (bytesOf s).drop (i + 2) := by
  rw [bytes_drop s i (by omega), bytes_drop s (i + 1) h]
theorem dig_cases (c : Int) : (48 ≤ c ∧ c ≤ 57 ∧ dig c = some (c - 48)) ∨ ((c < 48 ∨ 57 < c) ∧ 97 ≤ c ∧ c ≤ 102 ∧ dig c = some (c - 87)) ∨ ((c < 48 ∨ 57 < c) ∧ (c < 97 ∨ 102 < c) ∧ dig c = none) := by
  unfold dig
  by_cases h1 : 48 ≤ c ∧ c ≤ 57
  · left; rw [if_pos h1]; exact ⟨h1.1, h1.2, rfl⟩
  · by_cases h2 : 97 ≤ c ∧ c ≤ 102
    · right; left; rw [if_neg h1, if_pos h2]; exact ⟨by omega, h2.1, h2.2, rfl⟩
    · right; right; rw [if_neg h1, if_neg h2]; exact ⟨by omega, by omega, rfl⟩
/-- One letter of the reference's reading. -/
theorem rStep (s : ByteArray) (k i : Nat) (n : Int) (acc : List Int) (hi : i < s.size) (hn : 0 ≤ n ∧ n ≤ 15) (hs : s.size ≤ 2097152) (ha : acc.length ≤ 2097152) :
    gatehouseref15_Unhex.l0 (k + 3) s acc n i = match dig (bt s i) with
      | none => some (⟨#[]⟩, 2)
      | some x => if i % 2 = 1 then gatehouseref15_Unhex.l0 (if 97 ≤ bt s i then k else k + 1) s (acc ++ [16 * n + x]) 0 ((i + 1 : Nat) : Int) else gatehouseref15_Unhex.l0 (if 97 ≤ bt s i then k else k + 1) s acc (16 * n + x) ((i + 1 : Nat) : Int) := by
  obtain ⟨b0, b1⟩ := bt_range s i
  generalize hc : bt s i = c at *
  have hm : Int.tmod (i : Int) 2 = ((i % 2 : Nat) : Int) := by rw [Int.tmod_eq_emod_of_nonneg (by omega)]; omega
  rw [gatehouseref15_Unhex.l0, if_pos (by omega), if_pos (by omega), hc, wrap_in (x := c) (by omega) (by omega)]
  have hd2 : ∀ d : Int, 0 ≤ d → d ≤ 15 → (wrap64 ((wrap64 (16 * n)) + (wrap64 d))) = 16 * n + d := fun d h0 h1 => by
    rw [wrap_in (x := 16 * n) (by omega) (by omega), wrap_in (x := d) (by omega) (by omega), wrap_in (by omega) (by omega)]
  rcases dig_cases c with ⟨h1, h2, e⟩ | ⟨h0, h1, h2, e⟩ | ⟨h1, h2, e⟩
  · rw [if_pos (by omega), decide_eq_true h2, gatehouseref15_Unhex.j1, if_pos rfl, e, hm, if_neg (show ¬ 97 ≤ c by omega)]
    simp only
    rw [hd2 _ (by omega) (by omega), wrap_in (x := (i : Int) + 1) (by omega) (by omega), show (16 * n + (c - 48)) % 256 = 16 * n + (c - 48) by omega]
    by_cases hp : i % 2 = 1
    · rw [if_pos hp, if_pos (by omega), if_pos (by omega)]; rfl
    · rw [if_neg hp, if_neg (by omega)]; rfl
  · have e1 : (if c ≥ 48 then gatehouseref15_Unhex.j1 (k + 2) s acc n i c (decide (c ≤ 57)) else gatehouseref15_Unhex.j1 (k + 2) s acc n i c false) = gatehouseref15_Unhex.j1 (k + 2) s acc n i c false := by
      split
      · rw [decide_eq_false (by omega)]
      · rfl
    rw [e1, gatehouseref15_Unhex.j1, if_neg (by simp), if_pos (by omega), decide_eq_true h2, gatehouseref15_Unhex.j2, if_pos rfl, e, hm, if_pos (show 97 ≤ c by omega)]
    simp only
    rw [hd2 _ (by omega) (by omega), wrap_in (x := (i : Int) + 1) (by omega) (by omega), show (16 * n + (c - 87)) % 256 = 16 * n + (c - 87) by omega]
    by_cases hp : i % 2 = 1
    · rw [if_pos hp, if_pos (by omega), if_pos (by omega)]; rfl
    · rw [if_neg hp, if_neg (by omega)]; rfl
  · have e1 : (if c ≥ 48 then gatehouseref15_Unhex.j1 (k + 2) s acc n i c (decide (c ≤ 57)) else gatehouseref15_Unhex.j1 (k + 2) s acc n i c false) = gatehouseref15_Unhex.j1 (k + 2) s acc n i c false := by
      split
      · rw [decide_eq_false (by omega)]
      · rfl
    have e2 : (if c ≥ 97 then gatehouseref15_Unhex.j2 (k + 1) s acc n i c (decide (c ≤ 102)) else gatehouseref15_Unhex.j2 (k + 1) s acc n i c false) = gatehouseref15_Unhex.j2 (k + 1) s acc n i c false := by
      split
      · rw [decide_eq_false (by omega)]
      · rfl
    rw [e1, gatehouseref15_Unhex.j1, if_neg (by simp), e2, gatehouseref15_Unhex.j2, if_neg (by simp), e]
theorem rUnhex (s : ByteArray) (hs : s.size ≤ 2097152) : ∀ (d k i : Nat) (acc : List Int), i + d = s.size → i % 2 = 0 → acc.length = i / 2 → 3 * d + 3 < k →
    gatehouseref15_Unhex.l0 k s acc 0 i = some (told acc (dec ((bytesOf s).drop i))) := by
  intro d
  induction d using Nat.strongRecOn with
  | _ d ih =>
    intro k i acc hi hp ha hk
    rcases Nat.lt_or_ge d 1 with h0 | h0
    · obtain ⟨k, rfl⟩ : ∃ m, k = m + 1 := ⟨k - 1, by omega⟩
      rw [gatehouseref15_Unhex.l0, if_neg (by omega), if_neg (by omega), List.drop_eq_nil_of_le (by rw [bytesOf_length]; omega), dec, told]
      simp
    · obtain ⟨k, rfl⟩ : ∃ m, k = m + 6 := ⟨k - 6, by omega⟩
      rw [show k + 6 = (k + 3) + 3 from rfl, rStep s (k + 3) i 0 acc (by omega) (by omega) hs (by omega)]
      rcases Nat.lt_or_ge d 2 with h1 | h1
      · rw [bytes_drop s i (by omega), List.drop_eq_nil_of_le (by rw [bytesOf_length]; omega), dec, told]
        cases dig (bt s i) with
        | none => rfl
        | some x =>
          simp only
          rw [if_neg (by omega)]
          have : ∀ q : Nat, gatehouseref15_Unhex.l0 (q + 1) s acc (16 * 0 + x) ((i + 1 : Nat) : Int) = some (⟨#[]⟩, 2) := fun q => by
            rw [gatehouseref15_Unhex.l0, if_neg (by omega), if_pos (by omega)]
          split
          · exact this (k + 2)
          · exact this (k + 3)
      · rw [drop_two s i (by omega), dec]
        cases h1 : dig (bt s i) with
        | none => rfl
        | some x =>
          obtain ⟨x0, x1⟩ := dig_range h1
          simp only
          rw [if_neg (by omega)]
          have hq : ∀ q, 3 * (d - 2) + 3 < q → gatehouseref15_Unhex.l0 (q + 3) s acc (16 * 0 + x) ((i + 1 : Nat) : Int) = some (told acc (match some x, dig (bt s ((i + 1 : Nat) : Int)) with
              | some x, some y => (dec ((bytesOf s).drop (i + 2))).map ((16 * x + y) :: ·)
              | _, _ => none)) := by
            intro q hq
            rw [rStep s q (i + 1) (16 * 0 + x) acc (by omega) (by omega) hs (by omega)]
            cases h2 : dig (bt s ((i + 1 : Nat) : Int)) with
            | none => rfl
            | some y =>
              simp only
              rw [if_pos (by omega)]
              have := fun q (h : 3 * (d - 2) + 3 < q) => ih (d - 2) (by omega) q (i + 2) (acc ++ [16 * (16 * 0 + x) + y]) (by omega) (by omega) (by simp; omega) h
              have e : gatehouseref15_Unhex.l0 (if 97 ≤ bt s ((i + 1 : Nat) : Int) then q else q + 1) s (acc ++ [16 * (16 * 0 + x) + y]) 0 ((i + 1 + 1 : Nat) : Int) = some (told (acc ++ [16 * (16 * 0 + x) + y]) (dec ((bytesOf s).drop (i + 2)))) := by
                split
                · exact this q (by omega)
                · exact this (q + 1) (by omega)
              rw [e]
              cases dec ((bytesOf s).drop (i + 2)) with
              | none => rfl
              | some l => simp [told]
          split
          · exact hq k (by omega)
          · exact hq (k + 1) (by omega)
end Go.Proofs.YtnddocchfkhlbaaPure
