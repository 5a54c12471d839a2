import Derived.Test.YtijnlgmclaphhaaDoorMTrnKGD
import Derived.Test.YtijnlgmclaphhaaDoorMTrnKE
import Derived.Test.YtijnlgmclaphhaaDoorMTrnKX
import Derived.Test.YtijnlgmclaphhaaDoorMTrnKN2
import Derived.Test.YtijnlgmclaphhaaDoorMTrnE
import Derived.Test.YtijnlgmclaphhaaDoorMTrnA
import Derived.Test.YtijnlgmclaphhaaDoorMTrnKN1
import Derived.Test.YtijnlgmclaphhaaDoorMTrnKZ56
/-! Plain laws of directories: a directory comes back from its bytes; what was put in is found and cut out again. -/
namespace Go.Proofs.YtijnlgmclaphhaaDoor
open Go Go.RowKit Go.Proofs.YtijnlgmclaphhaaDoorZ Go.Proofs.YtijnlgmclaphhaaDoorW.PrintWords

/-- The byte at i, or 0. -/
def byN (s : ByteArray) (i : Nat) : Nat := (s.data.toList[i]?.getD 0).toNat
theorem byN_lt (s : ByteArray) (i : Nat) : byN s i < 256 := UInt8.toNat_lt _
theorem bt_byN (s : ByteArray) (i : Nat) : bt s (i : Int) = (byN s i : Int) := by
  unfold bt byN
  rw [Int.toNat_natCast]
  split
  · rename_i h
    have e : s.size = s.data.toList.length := (Array.length_toList (xs := s.data)).symm
    have h2 : i < s.data.toList.length := by omega
    rw [List.getElem?_eq_getElem h2]
    rfl
  · rename_i h
    have e : s.size = s.data.toList.length := (Array.length_toList (xs := s.data)).symm
    have h2 : ¬ i < s.data.toList.length := by omega
    rw [List.getElem?_eq_none (by omega)]
    rfl
/-- A number of i bytes, the least first. -/
def leN (s : ByteArray) (o : Nat) : Nat → Nat
  | 0 => 0
  | i + 1 => leN s o i + byN s (o + i) * 2 ^ (8 * i)
theorem leN_lt (s : ByteArray) (o : Nat) : ∀ i, leN s o i < 2 ^ (8 * i)
  | 0 => by simp [leN]
  | i + 1 => by
    have h := leN_lt s o i
    have hb := byN_lt s (o + i)
    have e : (2 : Nat) ^ (8 * (i + 1)) = 256 * 2 ^ (8 * i) := by rw [Nat.mul_add, Nat.pow_add]; omega
    unfold leN
    rw [e]
    have : (byN s (o + i) + 1) * 2 ^ (8 * i) ≤ 256 * 2 ^ (8 * i) := Nat.mul_le_mul_right _ (by omega)
    rw [Nat.add_mul] at this
    omega
theorem or_add (a b k : Nat) (ha : a < 2 ^ k) (hb : b * 2 ^ k < 18446744073709551616) (ha2 : a < 18446744073709551616) : bits .or .i64 (a : Int) (wrap64 ((b : Int) * 2 ^ k)) = wrap64 ((a + b * 2 ^ k : Nat) : Int) := by
  have e1 : (b : Int) * 2 ^ k = ((b * 2 ^ k : Nat) : Int) := by push_cast; rfl
  rw [e1]
  have e2 : (b <<< k) ||| a = b * 2 ^ k + a := by rw [← Nat.shiftLeft_add_eq_or_of_lt ha, Nat.shiftLeft_eq]
  rw [Nat.shiftLeft_eq] at e2
  generalize b * 2 ^ k = z at *
  show IntKind.i64.wrap (((BitVec.ofInt 64 (a : Int) ||| BitVec.ofInt 64 (wrap64 (z : Int))).toNat : Nat) : Int) = _
  have t1 : (BitVec.ofInt 64 (a : Int)).toNat = a := by rw [BitVec.toNat_ofInt]; omega
  have t2 : (BitVec.ofInt 64 (wrap64 (z : Int))).toNat = z := by rw [BitVec.toNat_ofInt]; unfold wrap64; omega
  rw [BitVec.toNat_or, t1, t2, Nat.or_comm, e2, Nat.add_comm]
  unfold IntKind.wrap wrap64
  simp [IntKind.signed, IntKind.bits]
  split <;> omega
theorem idE_le (s : ByteArray) (o : Nat) : ∀ i, i ≤ 8 → idE s (o : Int) i = wrap64 (leN s o i : Int)
  | 0, _ => by
    show (0 : Int) = wrap64 ((0 : Nat) : Int)
    unfold wrap64; omega
  | i + 1, hi => by
    have ih := idE_le s o i (by omega)
    have hl := leN_lt s o i
    have h56 : (2 : Nat) ^ (8 * i) ≤ 2 ^ 56 := Nat.pow_le_pow_right (by omega) (by omega)
    have hb := byN_lt s (o + i)
    have hm : byN s (o + i) * 2 ^ (8 * i) ≤ 255 * 2 ^ 56 := Nat.mul_le_mul (by omega) h56
    have e0 : wrap64 (leN s o i : Int) = (leN s o i : Int) := by unfold wrap64; omega
    have eo : (o : Int) + (i : Int) = ((o + i : Nat) : Int) := by omega
    unfold idE leN
    rw [ih, e0, eo, bt_byN]
    exact or_add _ _ _ hl (by omega) (by omega)
theorem le_mod (s : ByteArray) (o n : Nat) (h : ∀ i, i < 8 → byN s (o + i) = n / 256 ^ i % 256) : ∀ i, i ≤ 8 → leN s o i = n % 256 ^ i
  | 0, _ => by simp [leN, Nat.mod_one]
  | i + 1, hi => by
    unfold leN
    rw [le_mod s o n h i (by omega), h i (by omega), Nat.pow_mul, show (2 : Nat) ^ 8 = 256 from rfl, Nat.pow_succ, Nat.mod_mul]
    rw [Nat.mul_comm (256 ^ i)]
theorem byN_of {s : ByteArray} {A B : List UInt8} (h : s.data.toList = A ++ B) (i : Nat) (hi : i < A.length) : byN s i = (A[i]).toNat := by
  unfold byN
  rw [h, List.getElem?_append_left hi, List.getElem?_eq_getElem hi]; rfl
theorem ext_data (s : ByteArray) (a b : Nat) : (s.extract a b).data.toList = (s.data.toList.drop a).take (b - a) := by
  simp [ByteArray.data_extract, Array.toList_extract, List.extract]
theorem encN_at (x : Nm) (hx : okN x = true) (i : Nat) (hi : i < 8) : ∃ h : 2 + x.f0.size + i < (encN x).length, ((encN x)[2 + x.f0.size + i]).toNat = x.f2.toNat / 256 ^ i % 256 := by
  have hl := encN_length x
  refine ⟨by omega, ?_⟩
  have e : (encN x)[2 + x.f0.size + i]? = some (idByte x.f2 i) := by
    unfold encN
    rw [List.getElem?_append_right (by rw [headN_length]; omega), headN_length]
    unfold idTo
    rw [List.getElem?_map, List.getElem?_range (by omega)]
    show some (idByte x.f2 _) = _
    rw [show 2 + x.f0.size + i - (2 + x.f0.size) = i by omega]
  rw [List.getElem?_eq_getElem (by omega)] at e
  rw [Option.some.inj e]
  unfold idByte
  rw [UInt8.toNat_ofNat', Nat.mod_mod]
theorem one_back {x : Nm} (hx : okN x = true) {s : ByteArray} {B : List UInt8} (h : s.data.toList = encN x ++ B) : hdE s = (x.f0.size : Int) ∧ nmE s = x ∧ (tlE s).data.toList = B ∧ s.size = 10 + x.f0.size + B.length := by
  obtain ⟨hf, hk, hi1, hi2⟩ := okN_out hx
  obtain ⟨hz1, hz2⟩ := fits_out hf
  have hl := encN_length x
  have hhl := headN_length x
  have hsz : s.size = 10 + x.f0.size + B.length := by
    have : s.size = s.data.toList.length := (Array.length_toList (xs := s.data)).symm
    rw [this, h, List.length_append, hl]
  have hd : hdE s = (x.f0.size : Int) := by
    have h0 := bt_byN s 0
    rw [byN_of h 0 (by omega)] at h0
    have e : ((encN x)[0]'(by omega)) = UInt8.ofNat x.f0.size := rfl
    rw [e, UInt8.toNat_ofNat', Nat.mod_eq_of_lt (by omega)] at h0
    exact h0
  have htake : (s.data.toList.drop 1).take x.f0.size = x.f0.data.toList := by
    rw [h]
    unfold encN headN
    simp only [List.cons_append, List.append_assoc, List.drop_succ_cons, List.drop_zero]
    have e : x.f0.size = x.f0.data.toList.length := (Array.length_toList (xs := x.f0.data)).symm
    rw [e, List.take_left']
    rfl
  have hname : s.extract 1 (1 + hdE s).toNat = x.f0 := by
    apply toList_inj
    rw [Lib.toList_data, Lib.toList_data, ext_data, hd, show (1 + (x.f0.size : Int)).toNat - 1 = x.f0.size by omega, htake]
  have hkind : bt s (1 + hdE s) = x.f1 := by
    rw [hd, show (1 : Int) + (x.f0.size : Int) = ((1 + x.f0.size : Nat) : Int) by omega, bt_byN]
    have hat : s.data.toList[1 + x.f0.size]? = some (UInt8.ofNat x.f1.toNat) := by
      rw [h]
      unfold encN headN
      simp only [List.cons_append, List.append_assoc]
      rw [show 1 + x.f0.size = x.f0.size + 1 by omega, List.getElem?_cons_succ]
      have e : x.f0.size = x.f0.data.toList.length := (Array.length_toList (xs := x.f0.data)).symm
      rw [e, List.getElem?_append_right (Nat.le_refl _), Nat.sub_self]
      rfl
    unfold byN
    rw [hat]
    show ((UInt8.ofNat x.f1.toNat).toNat : Int) = _
    rw [UInt8.toNat_ofNat']
    rcases hk with e | e <;> rw [e] <;> rfl
  have hid : idE s (2 + hdE s) 8 = x.f2 := by
    rw [hd, show (2 : Int) + (x.f0.size : Int) = ((2 + x.f0.size : Nat) : Int) by omega, idE_le _ _ 8 (Nat.le_refl _)]
    rw [le_mod s (2 + x.f0.size) x.f2.toNat (fun i hi => by
      obtain ⟨h1, h2⟩ := encN_at x hx i hi
      rw [byN_of h _ h1, h2]) 8 (Nat.le_refl _)]
    have : x.f2.toNat % 256 ^ 8 = x.f2.toNat := Nat.mod_eq_of_lt (by omega)
    rw [this]
    unfold wrap64; omega
  refine ⟨hd, ?_, ?_, hsz⟩
  · unfold nmE
    rw [hname, hkind, hid]
  · unfold tlE
    rw [ext_data, hd, h, show ((x.f0.size : Int) + 10).toNat = (encN x).length by omega, List.drop_left]
    exact List.take_of_length_le (by omega)
theorem lastR_cons (s : ByteArray) (x : Nm × ByteArray) (t : List (Nm × ByteArray)) : lastR s (x :: t) = lastR x.2 t := by
  unfold lastR
  cases t with
  | nil => rfl
  | cons y t =>
    obtain ⟨z, hz⟩ : ∃ z, (y :: t).getLast? = some z := ⟨_, List.getLast?_eq_some_getLast (by simp)⟩
    rw [List.getLast?_cons_cons, hz]
/-- A directory comes back from its bytes. -/
theorem ent_enc : ∀ (l : List Nm), (∀ x ∈ l, okN x = true) → ∀ s : ByteArray, s.data.toList = encL l → namesE (entL s) = l ∧ (lastR s (entL s)).toList = []
  | [], _, s, h => by
    have h0 : s.size = 0 := by
      have : s.size = s.data.toList.length := (Array.length_toList (xs := s.data)).symm
      rw [this, h]; rfl
    rw [entL_none (fun hh => by omega)]
    refine ⟨rfl, ?_⟩
    show s.toList = []
    rw [Lib.toList_data, h]; rfl
  | x :: l, hok, s, h => by
    have h' : s.data.toList = encN x ++ encL l := h
    obtain ⟨h1, h2, h3, h4⟩ := one_back (hok x (by simp)) h'
    obtain ⟨r1, r2⟩ := ent_enc l (fun y hy => hok y (List.mem_cons_of_mem _ hy)) _ h3
    rw [entL_some (by omega) (by omega), lastR_cons]
    refine ⟨?_, r2⟩
    show nmE s :: namesE (entL (tlE s)) = _
    rw [h2, r1]
theorem right_ok {l : List Nm} (h : rightL l = true) : ∀ x ∈ l, okN x = true := by
  have : ∀ (l : List Nm) (b : ByteArray), ordFrom b l = true → ∀ x ∈ l, okN x = true := by
    intro l
    induction l with
    | nil => intro b _ x hx; cases hx
    | cons y l ih =>
      intro b h x hx
      rw [ord_cons] at h
      rcases List.mem_cons.1 hx with rfl | hx
      · exact h.1
      · exact ih _ h.2.2 x hx
  exact this l _ (right_ord h).1
theorem decode_enc {l : List Nm} (h : rightL l = true) : decodeL (⟨(encL l).toArray⟩ : ByteArray) = (l, 0) := by
  obtain ⟨h1, h2⟩ := ent_enc l (right_ok h) ⟨(encL l).toArray⟩ (by simp)
  rw [decode_yes h2 (by rw [h1]; exact h), h1]
theorem enc_inj {l m : List Nm} (h : rightL l = true) (k : rightL m = true) (e : encL l = encL m) : l = m := by
  have h1 := decode_enc h
  rw [e, decode_enc k] at h1
  exact (congrArg Prod.fst h1).symm
theorem takeWhile_skip {α : Type} (q : α → Bool) : ∀ (P : List α) (x : α) (R : List α), (∀ y ∈ P, q y = true) → q x = false → ((P ++ x :: R).takeWhile q).length = P.length
  | [], x, R, _, h => by simp [List.takeWhile_cons, h]
  | a :: P, x, R, h1, h2 => by
    rw [List.cons_append, List.takeWhile_cons, if_pos (h1 a (by simp)), List.length_cons, List.length_cons, takeWhile_skip q P x R (fun y hy => h1 y (List.mem_cons_of_mem _ hy)) h2]
theorem mem_takeWhile {α : Type} (q : α → Bool) : ∀ (l : List α) (y : α), y ∈ l.takeWhile q → q y = true
  | [], _, h => by cases h
  | a :: l, y, h => by
    rw [List.takeWhile_cons] at h
    split at h
    · rcases List.mem_cons.1 h with rfl | h
      · assumption
      · exact mem_takeWhile q l y h
    · cases h
theorem take_atI {l : List Nm} {s : ByteArray} : l.take (atI l s) = l.takeWhile fun x => blt x.f0 s := by
  unfold atI
  exact (List.prefix_iff_eq_take.1 (List.takeWhile_prefix _)).symm
theorem before_lt {l : List Nm} {s : ByteArray} : ∀ y ∈ l.take (atI l s), blt y.f0 s = true := by
  rw [take_atI]; exact mem_takeWhile _ l
theorem atI_ins (l : List Nm) (m : Nm) : atI (insL l m) m.f0 = atI l m.f0 := by
  have e : (l.take (atI l m.f0)).length = atI l m.f0 := by rw [List.length_take]; have := atI_le l m.f0; omega
  have := takeWhile_skip (fun x : Nm => blt x.f0 m.f0) (l.take (atI l m.f0)) m (l.drop (atI l m.f0)) before_lt (blt_irr _)
  rw [e] at this
  exact this
theorem findI_ins (l : List Nm) (m : Nm) : findI (insL l m) m.f0 = atI l m.f0 := by
  have e : (l.take (atI l m.f0)).length = atI l m.f0 := by rw [List.length_take]; have := atI_le l m.f0; omega
  have := takeWhile_skip (fun x : Nm => x.f0.toList != m.f0.toList) (l.take (atI l m.f0)) m (l.drop (atI l m.f0)) (fun y hy => by
    have hy := before_lt y hy
    rw [bne_iff_ne]
    intro he
    rw [toList_inj he, blt_irr] at hy
    cases hy) (by simp)
  rw [e] at this
  exact this
theorem ins_at (l : List Nm) (m : Nm) : (insL l m)[atI l m.f0]? = some m := by
  have e : (l.take (atI l m.f0)).length = atI l m.f0 := by rw [List.length_take]; have := atI_le l m.f0; omega
  unfold insL
  rw [List.getElem?_append_right (by omega), e, Nat.sub_self]; rfl
theorem find_ins (l : List Nm) (m : Nm) : findL (insL l m) m.f0 = (m, true) := by
  have h := ins_at l m
  have hlt := (List.getElem?_eq_some_iff.1 h).1
  unfold findL
  have e := findI_ins l m
  rw [dif_pos (by rw [e]; exact hlt)]
  congr 1
  have h2 : (insL l m)[findI (insL l m) m.f0]? = some m := by rw [e]; exact h
  exact (List.getElem?_eq_some_iff.1 h2).2
theorem has_ins (l : List Nm) (m : Nm) : hasN (insL l m) m.f0 = true := (hasN_iff_mem _ _).2 ⟨m, (insL_perm l m).mem_iff.2 (by simp), rfl⟩
theorem cut_ins {l : List Nm} {m : Nm} (hr : rightL (insL l m) = true) : cutL (insL l m) m.f0 = (l, 0) := by
  have e : (l.take (atI l m.f0)).length = atI l m.f0 := by rw [List.length_take]; have := atI_le l m.f0; omega
  rw [cutL_yes hr, if_pos (has_ins l m), atI_ins]
  have e1 : (insL l m).take (atI l m.f0) = l.take (atI l m.f0) := List.take_left' e
  have e2 : (insL l m).drop (atI l m.f0 + 1) = l.drop (atI l m.f0) := by
    unfold insL
    rw [show l.take (atI l m.f0) ++ m :: l.drop (atI l m.f0) = (l.take (atI l m.f0) ++ [m]) ++ l.drop (atI l m.f0) by simp]
    exact List.drop_left' (by rw [List.length_append, e]; rfl)
  rw [e1, e2, List.take_append_drop]
end Go.Proofs.YtijnlgmclaphhaaDoor
/-! Plain laws of the reference: Named, Good, Size, Right are the directory's own. -/
namespace Go.Proofs.YtijnlgmclaphhaaDoor
open Go Go.RowKit Go.Proofs.YtijnlgmclaphhaaDoorZ Go.Proofs.YtijnlgmclaphhaaDoorW.PrintWords

theorem bt_at' (s : ByteArray) (i : Nat) (h : i < s.data.toList.length) : bt s (i : Int) = ((s.data.toList[i]).toNat : Int) := by
  have e : s.size = s.data.toList.length := (Array.length_toList (xs := s.data)).symm
  unfold bt
  rw [Int.toNat_natCast, dif_pos (by omega)]
  rfl
theorem named_l0 (s : ByteArray) (hs : s.size ≤ 1000) (n : Nat) : ∀ (k i : Nat), s.size - i = n → i ≤ s.size → n < k → gatehouseref13_Named.l0 k s (i : Int) = some (!((s.data.toList.drop i).any badB)) := by
  have hd : s.size = s.data.toList.length := (Array.length_toList (xs := s.data)).symm
  induction n with
  | zero =>
    intro k i h hi hk
    obtain ⟨k, rfl⟩ : ∃ q, k = q + 1 := ⟨k - 1, by omega⟩
    simp only [gatehouseref13_Named.l0]
    rw [if_neg (by omega), List.drop_of_length_le (by omega)]; rfl
  | succ n ih =>
    intro k i h hi hk
    obtain ⟨k, rfl⟩ : ∃ q, k = q + 1 := ⟨k - 1, by omega⟩
    have hlt : i < s.data.toList.length := by omega
    simp only [gatehouseref13_Named.l0]
    rw [if_pos (by omega), if_pos (by omega), bt_at' s i hlt, w64 (x := (i : Int) + 1) (by omega) (by omega), List.drop_eq_getElem_cons hlt, List.any_cons]
    have z0 : (0 : UInt8).toNat = 0 := rfl
    have z47 : (47 : UInt8).toNat = 47 := rfl
    by_cases h0 : s.data.toList[i] = 0
    · rw [if_pos (by rw [h0]; rfl), h0]; rfl
    · rw [if_neg (fun e => h0 (by apply UInt8.toNat_inj.1; rw [z0]; omega))]
      by_cases h47 : s.data.toList[i] = 47
      · rw [if_pos (by rw [h47]; rfl), h47]; rfl
      · rw [if_neg (fun e => h47 (by apply UInt8.toNat_inj.1; rw [z47]; omega))]
        have hb : badB s.data.toList[i] = false := by
          unfold badB
          rw [Bool.or_eq_false_iff, beq_eq_false_iff_ne, beq_eq_false_iff_ne]
          exact ⟨h47, h0⟩
        rw [hb, Bool.false_or]
        exact ih k (i + 1) (by omega) (by omega) (by omega)
theorem named_f (s : ByteArray) (k : Nat) (hk : 100 < k) : gatehouseref13_Named.f k s = some (fitsB s) := by
  have jt : gatehouseref13_Named.j0 k s true = some false := by
    obtain ⟨k, rfl⟩ : ∃ q, k = q + 1 := ⟨k - 1, by omega⟩
    rw [gatehouseref13_Named.j0, if_pos rfl]
  unfold gatehouseref13_Named.f fitsB
  by_cases h1 : 1 ≤ s.size
  · rw [if_neg (by omega), decide_eq_true h1]
    by_cases h2 : s.size ≤ 32
    · rw [if_neg (by omega), decide_eq_true h2]
      by_cases h3 : s.toList = [46]
      · rw [if_pos h3, jt, h3]; rfl
      · rw [if_neg h3]
        have e3 : (s.toList != [46]) = true := by rw [bne_iff_ne]; exact h3
        rw [e3]
        by_cases h4 : s.toList = [46, 46]
        · rw [h4]
          show gatehouseref13_Named.j0 k s true = _
          rw [jt]; rfl
        · have e4 : (s.toList == [46, 46]) = false := beq_eq_false_iff_ne.2 h4
          have e5 : (s.toList != [46, 46]) = true := by rw [bne_iff_ne]; exact h4
          rw [e4, e5]
          obtain ⟨k, rfl⟩ : ∃ q, k = q + 1 := ⟨k - 1, by omega⟩
          rw [gatehouseref13_Named.j0, if_neg (by simp)]
          exact named_l0 s (by omega) s.size k 0 (by omega) (by omega) (by omega)
    · rw [if_pos (by omega), jt, decide_eq_false h2]; simp
  · rw [if_pos (by omega), jt, decide_eq_false h1]; simp
theorem good_f (x : Nm) (k : Nat) (hk : 100 < k) : gatehouseref13_Good.f k x.f0 x.f1 x.f2 = some (okN x) := by
  have hc : gatehouseref01_Cat.f x.f2 = some (idOk x.f2) := by
    unfold gatehouseref01_Cat.f idOk
    by_cases h : x.f2 ≥ 1
    · rw [if_pos h, decide_eq_true (show 1 ≤ x.f2 from h), Bool.true_and]
    · rw [if_neg h, decide_eq_false (show ¬ 1 ≤ x.f2 from h), Bool.false_and]
  unfold gatehouseref13_Good.f okN kindOk
  rw [named_f _ k hk, Option.bind_some]
  cases fitsB x.f0 with
  | false => rfl
  | true =>
    rw [if_pos rfl]
    by_cases h1 : x.f1 = 1
    · rw [if_pos h1, hc, h1]; simp
    · rw [if_neg h1]
      by_cases h2 : x.f1 = 2
      · rw [if_pos h2, hc, h2]; simp
      · rw [if_neg h2]
        have e1 : (x.f1 == 1) = false := beq_eq_false_iff_ne.2 h1
        have e2 : (x.f1 == 2) = false := beq_eq_false_iff_ne.2 h2
        rw [e1, e2]; rfl
theorem rsize_loop (l : List Nm) (hs : ∀ x ∈ l, x.f0.size ≤ 32) (hl : l.length ≤ 4398046511104) (n : Nat) : ∀ (k i : Nat), l.length - i = n → i ≤ l.length → n < k → gatehouseref13_Size.l0 k (sizeN (l.take i) : Nat) l (l.length : Int) (i : Int) = some (sizeN l : Int) := by
  induction n with
  | zero =>
    intro k i h hi hk
    obtain ⟨k, rfl⟩ : ∃ q, k = q + 1 := ⟨k - 1, by omega⟩
    obtain rfl : i = l.length := by omega
    simp only [gatehouseref13_Size.l0]
    rw [if_neg (by omega), List.take_length]
  | succ n ih =>
    intro k i h hi hk
    obtain ⟨k, rfl⟩ : ∃ q, k = q + 1 := ⟨k - 1, by omega⟩
    have hlt : i < l.length := by omega
    have hT := sizeN_hi (l.take i) fun x hx => hs x (List.mem_of_mem_take hx)
    rw [List.length_take] at hT
    have hx := hs _ (List.getElem_mem hlt)
    simp only [gatehouseref13_Size.l0]
    rw [if_pos (by omega), if_pos (by omega), if_pos (by omega), rd_at l i hlt, w64 (x := 1 + _) (by omega) (by omega), w64 (x := 1 + ((l[i]).f0.size : Int) + 1) (by omega) (by omega), w64 (x := 1 + ((l[i]).f0.size : Int) + 1 + 8) (by omega) (by omega), w64 (x := (sizeN (l.take i) : Int) + _) (by omega) (by omega), w64 (x := (i : Int) + 1) (by omega) (by omega)]
    have := ih k (i + 1) (by omega) (by omega) (by omega)
    rw [sizeN_take l i hlt] at this
    push_cast at this
    rw [← this]
    congr 1
    omega
theorem rsize_f (l : List Nm) (hs : ∀ x ∈ l, x.f0.size ≤ 32) (hl : l.length ≤ 4398046511104) (k : Nat) (hk : l.length < k) : gatehouseref13_Size.f k l = some (sizeN l : Int) := by
  unfold gatehouseref13_Size.f
  exact rsize_loop l hs hl l.length k 0 (by omega) (by omega) hk
def lastN (l : List Nm) (i : Nat) : ByteArray := if h : 0 < i ∧ i ≤ l.length then (l[i - 1]'(by omega)).f0 else ⟨#[]⟩
theorem rRight_loop (l : List Nm) (hl : l.length ≤ 4398046511104) (n : Nat) : ∀ (k i : Nat), l.length - i = n → i ≤ l.length → n + l.length + 200 < k → (∀ x ∈ l.take i, okN x = true) → ordL l = ordFrom (lastN l i) (l.drop i) →
    gatehouseref13_Right.l0 k l l (l.length : Int) (i : Int) = some (rightL l) := by
  induction n with
  | zero =>
    intro k i h hi hk ho he
    obtain ⟨k, rfl⟩ : ∃ q, k = q + 1 := ⟨k - 1, by omega⟩
    obtain rfl : i = l.length := by omega
    rw [List.drop_length] at he
    rw [List.take_length] at ho
    simp only [gatehouseref13_Right.l0]
    rw [if_neg (by omega), rsize_f l (fun x hx => (okN_size (ho x hx)).2) hl k (by omega), Option.bind_some]
    unfold rightL
    rw [he]
    show some (decide ((sizeN l : Int) ≤ 4096)) = some (decide (sizeN l ≤ 4096))
    congr 1
    exact decide_eq_decide.2 (by omega)
  | succ n ih =>
    intro k i h hi hk ho he
    obtain ⟨k, rfl⟩ : ∃ q, k = q + 1 := ⟨k - 1, by omega⟩
    have hlt : i < l.length := by omega
    rw [ordFrom_drop l i hlt] at he
    simp only [gatehouseref13_Right.l0]
    rw [if_pos (by omega), if_pos (by omega), if_pos (by omega), rd_at l i hlt, good_f _ k (by omega), Option.bind_some]
    cases hk1 : okN l[i] with
    | false =>
      rw [if_neg (by simp)]
      rw [hk1] at he
      unfold rightL
      rw [he]; rfl
    | true =>
      rw [if_pos rfl, w64 (x := (i : Int) + 1) (by omega) (by omega)]
      rw [hk1] at he
      have hln : lastN l (i + 1) = (l[i]).f0 := by
        unfold lastN
        rw [dif_pos ⟨by omega, by omega⟩]; rfl
      have go : blt (lastN l i) (l[i]).f0 = true → gatehouseref13_Right.l0 k l l (l.length : Int) ((i : Int) + 1) = some (rightL l) := by
        intro hb
        rw [hb] at he
        refine ih k (i + 1) (by omega) (by omega) (by omega) ?_ (by rw [he, hln]; rfl)
        intro x hx
        rw [List.take_succ_eq_append_getElem hlt, List.mem_append] at hx
        rcases hx with hx | hx
        · exact ho x hx
        · rw [List.mem_singleton.1 hx]; exact hk1
      by_cases h0 : 0 < i
      · have hli : lastN l i = (l[i - 1]'(by omega)).f0 := by unfold lastN; rw [dif_pos ⟨h0, by omega⟩]
        have hidx : rd_T25 l ((i : Int) - 1) = l[i - 1]'(by omega) := by
          rw [show ((i : Int) - 1) = ((i - 1 : Nat) : Int) by omega]
          exact rd_at l (i - 1) (by omega)
        rw [if_pos (by omega), w64 (x := (i : Int) - 1) (by omega) (by omega), if_pos (by omega), if_pos (by omega), hidx, ← hli]
        cases hb : blt (lastN l i) (l[i]).f0 with
        | false =>
          rw [if_neg (by unfold blt at hb; rw [hb]; simp)]
          rw [hb] at he
          unfold rightL
          rw [he]; rfl
        | true =>
          rw [if_pos (show Op.bytesLess (lastN l i).toList (l[i]).f0.toList = true from hb)]
          exact go hb
      · rw [if_neg (by omega)]
        refine go ?_
        have : lastN l i = ⟨#[]⟩ := by unfold lastN; rw [dif_neg (by omega)]
        rw [this]
        exact blt_empty (okN_size hk1).1
theorem rRight_f (l : List Nm) (hl : l.length ≤ 4398046511104) (k : Nat) (hk : 2 * l.length + 300 < k) : gatehouseref13_Right.f k l = some (rightL l) := by
  unfold gatehouseref13_Right.f
  refine rRight_loop l hl l.length k 0 (by omega) (by omega) (by omega) (by simp) ?_
  unfold lastN
  rw [dif_neg (by omega)]; rfl
end Go.Proofs.YtijnlgmclaphhaaDoor
/-! Plain laws of the reference's Find, Put, Cut: they are the directory's own. -/
namespace Go.Proofs.YtijnlgmclaphhaaDoor
open Go Go.RowKit Go.Proofs.YtijnlgmclaphhaaDoorZ Go.Proofs.YtijnlgmclaphhaaDoorW.PrintWords

theorem tw_yes {α : Type} (q : α → Bool) : ∀ (l : List α) (i : Nat) (h : i < l.length), i ≤ (l.takeWhile q).length → q l[i] = true → i + 1 ≤ (l.takeWhile q).length
  | a :: l, 0, _, _, hq => by
    have hq : q a = true := hq
    rw [List.takeWhile_cons, if_pos hq, List.length_cons]; omega
  | a :: l, i + 1, h, hi, hq => by
    rw [List.takeWhile_cons] at hi ⊢
    split at hi
    · rename_i ha
      rw [if_pos ha, List.length_cons]
      rw [List.length_cons] at hi h
      have := tw_yes q l i (by omega) (by omega) hq
      omega
    · simp at hi
theorem tw_no {α : Type} (q : α → Bool) : ∀ (l : List α) (i : Nat) (h : i < l.length), i ≤ (l.takeWhile q).length → q l[i] = false → (l.takeWhile q).length = i
  | a :: l, 0, _, _, hq => by
    have hq : q a = false := hq
    rw [List.takeWhile_cons, if_neg (by rw [hq]; simp)]; rfl
  | a :: l, i + 1, h, hi, hq => by
    rw [List.takeWhile_cons] at hi ⊢
    split at hi
    · rename_i ha
      rw [if_pos ha, List.length_cons]
      rw [List.length_cons] at hi h
      have := tw_no q l i (by omega) (by omega) hq
      omega
    · simp at hi
theorem tw_le {α : Type} (q : α → Bool) (l : List α) : (l.takeWhile q).length ≤ l.length := (List.takeWhile_prefix q).length_le
theorem findL_some {l : List Nm} {s : ByteArray} (h : findI l s < l.length) : findL l s = (l[findI l s], true) := by unfold findL; rw [dif_pos h]
theorem findL_none {l : List Nm} {s : ByteArray} (h : ¬ findI l s < l.length) : findL l s = (nm0, false) := by unfold findL; rw [dif_neg h]
def out4 (p : Nm × Bool) : ByteArray × Int × Int × Bool := (p.1.f0, p.1.f1, p.1.f2, p.2)
theorem rFind_loop (l : List Nm) (s : ByteArray) (hl : l.length ≤ 4398046511104) (n : Nat) : ∀ k i : Nat, l.length - i = n → i ≤ l.length → n < k → i ≤ findI l s →
    gatehouseref13_Find.l0 k s l (l.length : Int) (i : Int) = some (out4 (findL l s)) := by
  induction n with
  | zero =>
    intro k i h hi hk hf
    obtain ⟨k, rfl⟩ : ∃ q, k = q + 1 := ⟨k - 1, by omega⟩
    simp only [gatehouseref13_Find.l0]
    rw [if_neg (by omega), findL_none (by omega)]; rfl
  | succ n ih =>
    intro k i h hi hk hf
    obtain ⟨k, rfl⟩ : ∃ q, k = q + 1 := ⟨k - 1, by omega⟩
    have hlt : i < l.length := by omega
    simp only [gatehouseref13_Find.l0]
    rw [if_pos (by omega), if_pos (by omega), if_pos (by omega), rd_at l i hlt, w64 (x := (i : Int) + 1) (by omega) (by omega)]
    by_cases he : (l[i]).f0.toList = s.toList
    · rw [if_pos he]
      have e : findI l s = i := tw_no _ l i hlt hf (by simpa using he)
      rw [findL_some (by omega)]
      have : l[findI l s]'(by omega) = l[i] := by congr 1
      rw [this]; rfl
    · rw [if_neg he]
      exact ih k (i + 1) (by omega) (by omega) (by omega) (tw_yes _ l i hlt hf (by simpa using he))
theorem rFind_f (l : List Nm) (s : ByteArray) (hl : l.length ≤ 4398046511104) (k : Nat) (hk : l.length < k) : gatehouseref13_Find.f k l s = some (out4 (findL l s)) := by
  unfold gatehouseref13_Find.f
  exact rFind_loop l s hl l.length k 0 (by omega) (by omega) hk (by omega)
theorem findI_cons (x : Nm) (l : List Nm) (s : ByteArray) : findI (x :: l) s = if (x.f0.toList == s.toList) = true then 0 else findI l s + 1 := by
  unfold findI
  rw [List.takeWhile_cons]
  by_cases h : x.f0.toList = s.toList
  · rw [if_neg (by simp [h]), if_pos (by simp [h])]; rfl
  · rw [if_pos (by simp [h]), if_neg (by simp [h]), List.length_cons]
theorem find_has (l : List Nm) (s : ByteArray) : (findL l s).2 = hasN l s := by
  have h : (findL l s).2 = decide (findI l s < l.length) := by
    by_cases h : findI l s < l.length
    · rw [findL_some h, decide_eq_true h]
    · rw [findL_none h, decide_eq_false h]
  rw [h]
  clear h
  induction l with
  | nil => rfl
  | cons x l ih =>
    unfold hasN at ih ⊢
    rw [List.any_cons, findI_cons, List.length_cons, ← ih]
    cases x.f0.toList == s.toList with
    | true => simp
    | false => simp
theorem sizeN_app (a b : List Nm) : sizeN (a ++ b) = sizeN a + sizeN b := by unfold sizeN; rw [List.map_append, List.sum_append]
theorem put_end (l : List Nm) (hr : rightL l = true) (m : Nm) (hok : okN m = true) (k : Nat) (hk : 500 < k) :
    ((gatehouseref13_Size.f k (insL l m)).bind fun t251 => (if t251 > 4096 then (some (([] : List (S25)), (27 : Int))) else (some (insL l m, 0)))) = some (if 4096 < sizeN l + (10 + m.f0.size) then ([], 27) else (insL l m, 0)) := by
  have hl := right_len hr
  have hil : (insL l m).length = l.length + 1 := (insL_perm l m).length_eq
  rw [rsize_f (insL l m) (fun x hx => by
    rcases List.mem_cons.1 ((insL_perm l m).mem_iff.1 hx) with rfl | hx
    · exact (okN_size hok).2
    · exact (okN_size (right_ok hr x hx)).2) (by omega) k (by omega), Option.bind_some, sizeN_ins]
  by_cases h : 4096 < sizeN l + (10 + m.f0.size)
  · rw [if_pos (by omega), if_pos h]
  · rw [if_neg (by omega), if_neg h]
theorem not_blt {l : List Nm} {m : Nm} (hn : hasN l m.f0 = false) {i : Nat} (h : i < l.length) (hb : blt m.f0 (l[i]).f0 = false) : blt (l[i]).f0 m.f0 = true := by
  cases h2 : blt (l[i]).f0 m.f0 with
  | true => rfl
  | false =>
    have := blt_tri h2 hb
    rw [(hasN_iff_mem l m.f0).2 ⟨_, List.getElem_mem h, this⟩] at hn
    cases hn
def InvP (l : List Nm) (m : Nm) (i : Nat) (out : List Nm) (laid : Bool) : Prop :=
  (laid = false ∧ out = l.take i ∧ i ≤ atI l m.f0) ∨ (laid = true ∧ out = l.take (atI l m.f0) ++ m :: (l.take i).drop (atI l m.f0) ∧ atI l m.f0 ≤ i)
theorem take_drop_snoc (l : List Nm) (a i : Nat) (h : i < l.length) (ha : a ≤ i) : (l.take (i + 1)).drop a = (l.take i).drop a ++ [l[i]] := by
  rw [List.take_succ_eq_append_getElem h, List.drop_append_of_le_length (by rw [List.length_take]; omega)]
theorem rPut_loop (l : List Nm) (hr : rightL l = true) (m : Nm) (hok : okN m = true) (hn : hasN l m.f0 = false) (n : Nat) : ∀ (k i : Nat) (out : List Nm) (laid : Bool), l.length - i = n → i ≤ l.length → n + 501 < k → InvP l m i out laid →
    gatehouseref13_Put.l0 k out laid l (l.length : Int) (i : Int) m.f0 m.f1 m.f2 = some (if 4096 < sizeN l + (10 + m.f0.size) then ([], 27) else (insL l m, 0)) := by
  have hl := right_len hr
  induction n with
  | zero =>
    intro k i out laid h hi hk hv
    obtain ⟨k, rfl⟩ : ∃ q, k = q + 1 := ⟨k - 1, by omega⟩
    obtain rfl : i = l.length := by omega
    simp only [gatehouseref13_Put.l0]
    rw [if_neg (by omega)]
    rcases hv with ⟨rfl, rfl, ha⟩ | ⟨rfl, rfl, ha⟩
    · rw [if_neg (by simp), if_pos (by rw [List.length_take]; omega), Option.bind_some]
      have e : l.take l.length ++ [(⟨m.f0, m.f1, m.f2⟩ : S25)] = insL l m := by
        have := atI_le l m.f0
        unfold insL
        rw [show atI l m.f0 = l.length by omega, List.drop_length]
      rw [e]
      exact put_end l hr m hok k (by omega)
    · rw [if_pos rfl, List.take_length]
      exact put_end l hr m hok k (by omega)
  | succ n ih =>
    intro k i out laid h hi hk hv
    obtain ⟨k, rfl⟩ : ∃ q, k = q + 1 := ⟨k - 1, by omega⟩
    have hlt : i < l.length := by omega
    have hol : out.length ≤ l.length + 1 := by
      rcases hv with ⟨_, rfl, _⟩ | ⟨_, rfl, _⟩
      · rw [List.length_take]; omega
      · rw [List.length_append, List.length_cons, List.length_take, List.length_drop, List.length_take]; omega
    simp only [gatehouseref13_Put.l0]
    rw [if_pos (by omega), if_pos (by omega), if_pos (by omega), rd_at l i hlt, w64 (x := (i : Int) + 1) (by omega) (by omega)]
    rcases hv with ⟨rfl, rfl, ha⟩ | ⟨rfl, rfl, ha⟩
    · rw [if_neg (by simp)]
      by_cases hb : blt m.f0 (l[i]).f0 = true
      · have e : atI l m.f0 = i := tw_no _ l i hlt ha (blt_asym hb)
        rw [if_pos (show (Op.bytesLess m.f0.toList (l[i]).f0.toList) = true from hb), if_pos (by omega), Option.bind_some, if_pos (by rw [List.length_append, List.length_take]; simp; omega)]
        refine ih k (i + 1) _ true (by omega) (by omega) (by omega) (.inr ⟨rfl, ?_, by omega⟩)
        rw [e, take_drop_snoc l i i hlt (Nat.le_refl _), List.drop_of_length_le (by rw [List.length_take]; omega)]
        simp
      · have hb : blt m.f0 (l[i]).f0 = false := by simpa using hb
        rw [if_neg (show ¬ (Op.bytesLess m.f0.toList (l[i]).f0.toList) = true by unfold blt at hb; rw [hb]; simp), if_pos (by omega)]
        refine ih k (i + 1) _ false (by omega) (by omega) (by omega) (.inl ⟨rfl, ?_, tw_yes _ l i hlt ha (not_blt hn hlt hb)⟩)
        rw [List.take_succ_eq_append_getElem hlt]
    · rw [if_pos rfl, if_pos (by omega)]
      refine ih k (i + 1) _ true (by omega) (by omega) (by omega) (.inr ⟨rfl, ?_, by omega⟩)
      rw [take_drop_snoc l _ i hlt ha]
      simp
theorem rPut_f (l : List Nm) (m : Nm) (hl : l.length ≤ 4398046511104) (k : Nat) (hk : 2 * l.length + 2000 < k) : gatehouseref13_Put.f k l m.f0 m.f1 m.f2 = some (putL l m) := by
  unfold gatehouseref13_Put.f putL
  rw [rRight_f l hl k (by omega), Option.bind_some]
  cases hr : rightL l with
  | false => rfl
  | true =>
    rw [if_pos rfl, if_pos rfl, show gatehouseref13_Good.f k m.f0 m.f1 m.f2 = some (okN m) from good_f m k (by omega), Option.bind_some]
    cases hok : okN m with
    | false => rfl
    | true =>
      rw [if_pos rfl, if_pos rfl, rFind_f l m.f0 hl k (by omega), Option.bind_some]
      have e : (out4 (findL l m.f0)).2.2.2 = hasN l m.f0 := find_has l m.f0
      rw [e]
      cases hn : hasN l m.f0 with
      | true => rfl
      | false =>
        rw [if_neg (by simp), if_neg (by simp)]
        have := right_len hr
        exact rPut_loop l hr m hok hn l.length k 0 [] false (by omega) (by omega) (by omega) (.inl ⟨rfl, rfl, by omega⟩)
def keepN (s : ByteArray) (x : Nm) : Bool := !(x.f0.toList == s.toList)
theorem rCut_loop (l : List Nm) (hl : l.length ≤ 409) (s : ByteArray) (n : Nat) : ∀ (k i : Nat) (out : List Nm), l.length - i = n → i ≤ l.length → n < k → out = (l.take i).filter (keepN s) →
    gatehouseref13_Cut.l0 k l s out l (l.length : Int) (i : Int) = some (if (l.filter (keepN s)).length = l.length then ([], 20) else (l.filter (keepN s), 0)) := by
  induction n with
  | zero =>
    intro k i out h hi hk ho
    obtain ⟨k, rfl⟩ : ∃ q, k = q + 1 := ⟨k - 1, by omega⟩
    obtain rfl : i = l.length := by omega
    rw [List.take_length] at ho
    subst ho
    simp only [gatehouseref13_Cut.l0]
    rw [if_neg (by omega)]
    by_cases h : (l.filter (keepN s)).length = l.length
    · rw [if_pos (by omega), if_pos h]
    · rw [if_neg (by omega), if_neg h]
  | succ n ih =>
    intro k i out h hi hk ho
    obtain ⟨k, rfl⟩ : ∃ q, k = q + 1 := ⟨k - 1, by omega⟩
    have hlt : i < l.length := by omega
    have hol : out.length ≤ 409 := by
      rw [ho]
      have := List.length_filter_le (keepN s) (l.take i)
      rw [List.length_take] at this; omega
    simp only [gatehouseref13_Cut.l0]
    rw [if_pos (by omega), if_pos (by omega), if_pos (by omega), rd_at l i hlt, w64 (x := (i : Int) + 1) (by omega) (by omega)]
    by_cases he : (l[i]).f0.toList = s.toList
    · rw [if_pos he]
      refine ih k (i + 1) _ (by omega) (by omega) (by omega) ?_
      rw [ho, List.take_succ_eq_append_getElem hlt, List.filter_append]
      simp [keepN, he]
    · rw [if_neg he, if_pos (by omega)]
      refine ih k (i + 1) _ (by omega) (by omega) (by omega) ?_
      rw [ho, List.take_succ_eq_append_getElem hlt, List.filter_append]
      have e1 : keepN s l[i] = true := by unfold keepN; simp [he]
      rw [List.filter_cons, if_pos e1]; rfl
theorem keep_all {l : List Nm} {s : ByteArray} (h : hasN l s = false) : l.filter (keepN s) = l := by
  rw [List.filter_eq_self]
  intro x hx
  unfold keepN
  cases he : x.f0.toList == s.toList with
  | false => rfl
  | true =>
    rw [(hasN_iff_mem l s).2 ⟨x, hx, toList_inj (beq_iff_eq.1 he)⟩] at h
    cases h
theorem keep_cut (s : ByteArray) : ∀ (l : List Nm) (b : ByteArray), ordFrom b l = true → hasN l s = true → l.filter (keepN s) = l.take (atI l s) ++ l.drop (atI l s + 1) ∧ (l.filter (keepN s)).length + 1 = l.length
  | [], _, _, h => by cases h
  | x :: l, b, ho, hh => by
    rw [ord_cons] at ho
    by_cases he : x.f0.toList = s.toList
    · have hes := toList_inj he
      have hno : hasN l s = false := by
        cases h : hasN l s with
        | false => rfl
        | true =>
          obtain ⟨y, hy, e⟩ := (hasN_iff_mem l s).1 h
          have := ord_gt ho.2.2 y hy
          rw [e, hes, blt_irr] at this
          cases this
      have e1 : keepN s x = false := by unfold keepN; simp [he]
      rw [List.filter_cons, if_neg (by rw [e1]; simp), keep_all hno, atI_cons, hes, blt_irr, if_neg (by simp)]
      exact ⟨rfl, rfl⟩
    · have hl : hasN l s = true := by
        unfold hasN at hh ⊢
        rw [List.any_cons] at hh
        simpa [he] using hh
      obtain ⟨y, hy, e⟩ := (hasN_iff_mem l s).1 hl
      have hb := ord_gt ho.2.2 y hy
      rw [e] at hb
      have e1 : keepN s x = true := by unfold keepN; simp [he]
      obtain ⟨ih1, ih2⟩ := keep_cut s l _ ho.2.2 hl
      rw [List.filter_cons, if_pos e1, atI_cons, if_pos hb]
      exact ⟨by rw [ih1]; rfl, by rw [List.length_cons, List.length_cons, ih2]⟩
theorem rCut_f (l : List Nm) (s : ByteArray) (hl : l.length ≤ 4398046511104) (k : Nat) (hk : 2 * l.length + 2000 < k) : gatehouseref13_Cut.f k l s = some (cutL l s) := by
  unfold gatehouseref13_Cut.f cutL
  rw [rRight_f l hl k (by omega), Option.bind_some]
  cases hr : rightL l with
  | false => rfl
  | true =>
    rw [if_pos rfl, if_pos rfl, show gatehouseref13_Cut.l0 k l s [] l (l.length : Int) 0 = _ from rCut_loop l (right_len hr) s l.length k 0 [] (by omega) (by omega) (by omega) rfl]
    cases hn : hasN l s with
    | false => rw [keep_all hn, if_pos rfl, if_neg (by simp)]
    | true =>
      obtain ⟨h1, h2⟩ := keep_cut s l _ (right_ord hr).1 hn
      rw [if_neg (by omega), if_pos rfl, h1]
theorem putL_len (l : List Nm) (m : Nm) : (putL l m).1.length ≤ l.length + 1 := by
  have hil : (insL l m).length = l.length + 1 := (insL_perm l m).length_eq
  unfold putL
  split <;> (try split) <;> (try split) <;> (try split) <;> simp <;> omega
theorem cutL_len (l : List Nm) (s : ByteArray) : (cutL l s).1.length ≤ l.length := by
  unfold cutL
  split <;> (try split) <;> simp <;> omega
theorem same_self (l : List Nm) (hl : l.length ≤ 4398046511104) (k : Nat) (hk : l.length < k) : gatehouseref13_Same.f k l l = some true := by rw [same_f l l hl k hk, sameL_self]
end Go.Proofs.YtijnlgmclaphhaaDoor
