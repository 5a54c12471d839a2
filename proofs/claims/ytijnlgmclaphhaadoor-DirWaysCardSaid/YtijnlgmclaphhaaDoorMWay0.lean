import Derived.Test.YtijnlgmclaphhaaDoorU
import Derived.Test.YtijnlgmclaphhaaDoorGJ
import Derived.Test.YtijnlgmclaphhaaDoorB
import Derived.Test.YtijnlgmclaphhaaDoorZ36
import Derived.Test.YtijnlgmclaphhaaDoorZ0
import Derived.Test.YtijnlgmclaphhaaDoorE
import Derived.Test.YtijnlgmclaphhaaDoorN1
import Derived.Test.YtijnlgmclaphhaaDoorU2
/-! Plain laws of paths: pieces of texts put together, what Split leaves, Join. -/
namespace Go.Proofs.YtijnlgmclaphhaaDoor
open Go Go.RowKit Go.Proofs.YtijnlgmclaphhaaDoorZ Go.Proofs.YtijnlgmclaphhaaDoorW.PrintWords

theorem cut_eq (c : UInt8) (l : List UInt8) : cutAt c (c :: l) = [] :: cutAt c l := by
  conv => lhs; unfold cutAt
  rw [if_pos rfl]
theorem cut_ne {c x : UInt8} {l p : List UInt8} {ps : List (List UInt8)} (h : ¬ x = c) (e : cutAt c l = p :: ps) : cutAt c (x :: l) = (x :: p) :: ps := by
  conv => lhs; unfold cutAt
  rw [if_neg h, e]
theorem cut_some (c : UInt8) (l : List UInt8) : ∃ p ps, cutAt c l = p :: ps := by
  cases e : cutAt c l with
  | nil => exact absurd e (cutAt_ne c l)
  | cons p ps => exact ⟨p, ps, rfl⟩
theorem cut_append (c : UInt8) : ∀ a b : List UInt8, cutAt c (a ++ c :: b) = cutAt c a ++ cutAt c b
  | [], b => by rw [List.nil_append, cut_eq]; rfl
  | x :: a, b => by
    rw [List.cons_append]
    have ih := cut_append c a b
    by_cases h : x = c
    · subst h; rw [cut_eq, cut_eq, ih]; rfl
    · obtain ⟨p, ps, e⟩ := cut_some c a
      rw [e, List.cons_append] at ih
      rw [cut_ne h ih, cut_ne h e]; rfl
theorem cut_mem (c : UInt8) : ∀ (l p : List UInt8), p ∈ cutAt c l → c ∉ p
  | [], p, h => by
    have : p = [] := by simpa [cutAt] using h
    rw [this]; simp
  | x :: l, p, h => by
    by_cases hx : x = c
    · subst hx
      rw [cut_eq] at h
      rcases List.mem_cons.1 h with rfl | h
      · simp
      · exact cut_mem _ l p h
    · obtain ⟨q, qs, e⟩ := cut_some c l
      rw [cut_ne hx e] at h
      rcases List.mem_cons.1 h with rfl | h
      · have := cut_mem c l q (by rw [e]; simp)
        rw [List.mem_cons]
        rintro (hq | hq)
        · exact hx hq.symm
        · exact this hq
      · exact cut_mem c l p (by rw [e]; exact List.mem_cons_of_mem _ h)
theorem cut_weight (c : UInt8) : ∀ l : List UInt8, ((cutAt c l).map fun p => p.length + 1).sum = l.length + 1
  | [] => rfl
  | x :: l => by
    have ih := cut_weight c l
    by_cases hx : x = c
    · subst hx; rw [cut_eq, List.map_cons, List.sum_cons, ih, List.length_cons, List.length_nil]; omega
    · obtain ⟨q, qs, e⟩ := cut_some c l
      rw [cut_ne hx e]
      rw [e] at ih
      simp only [List.map_cons, List.sum_cons, List.length_cons] at ih ⊢
      omega
theorem cut_free (c : UInt8) (l : List UInt8) (h : c ∉ l) : cutAt c l = [l] :=
  cutAt_none c l fun k hk => h (List.mem_of_getElem? hk)

def mkB (l : List UInt8) : ByteArray := ⟨l.toArray⟩
theorem mkB_data (s : ByteArray) : mkB s.data.toList = s := by unfold mkB; simp
theorem data_mkB (l : List UInt8) : (mkB l).data.toList = l := by unfold mkB; simp
theorem mkB_toList (l : List UInt8) : (mkB l).toList = l := by rw [Lib.toList_data, data_mkB]
theorem mkB_size (l : List UInt8) : (mkB l).size = l.length := by unfold mkB; simp [ByteArray.size]
theorem size_data (s : ByteArray) : s.size = s.data.toList.length := (Array.length_toList (xs := s.data)).symm
theorem app_data (a b : ByteArray) : (a ++ b).data.toList = a.data.toList ++ b.data.toList := by simp
theorem pieces_eq (s : ByteArray) : pieces s = (cutAt 47 s.data.toList).map mkB := rfl
theorem pieces_join (t : ByteArray) (r : List UInt8) (c : ByteArray) (hc : c.data.toList = 47 :: r) : pieces (t ++ c) = pieces t ++ (cutAt 47 r).map mkB := by
  rw [pieces_eq, app_data, hc, cut_append, List.map_append, ← pieces_eq]

/-- A name that a path can leave. -/
structure Okp (n : ByteArray) : Prop where
  zero : has0 n = false
  most : n.size ≤ 32
  some : n.toList ≠ []
  dot : n.toList ≠ [46]
  dots : n.toList ≠ [46, 46]
  free : (47 : UInt8) ∉ n.data.toList
theorem Okp.least {n : ByteArray} (h : Okp n) : 1 ≤ n.size := by
  have := h.some
  rw [Lib.toList_data] at this
  rw [size_data]
  cases e : n.data.toList with
  | nil => exact absurd e this
  | cons => simp
theorem badP_none {p : ByteArray} (h : badP p = none) : has0 p = false ∧ p.size ≤ 32 := by
  unfold badP at h
  split at h
  · cases h
  · split at h
    · cases h
    · exact ⟨by rename_i h1 _; simpa using h1, by omega⟩
theorem Okp.bad {p : ByteArray} (h : Okp p) : badP p = none := by
  unfold badP
  have := h.most
  rw [if_neg (by rw [h.zero]; simp), if_neg (by omega)]
theorem firstBad_none {ps : List ByteArray} : firstBad ps = none ↔ ∀ p ∈ ps, badP p = none := by
  unfold firstBad; rw [List.findSome?_eq_none_iff]
theorem badP_code {p : ByteArray} {e : Int} (h : badP p = some e) : e = 31 ∨ e = 32 := by
  unfold badP at h
  split at h
  · injection h with h; exact .inl h.symm
  · split at h
    · injection h with h; exact .inr h.symm
    · cases h
theorem firstBad_code {ps : List ByteArray} {e : Int} (h : firstBad ps = some e) : e = 31 ∨ e = 32 := by
  unfold firstBad at h
  obtain ⟨p, _, hp⟩ := List.exists_of_findSome?_eq_some h
  exact badP_code hp
theorem step_ok {n : ByteArray} (h : Okp n) (out : List ByteArray) : stepP out n = out ++ [n] := by
  unfold stepP
  rw [if_neg (by rintro (h1 | h1); exact h.some h1; exact h.dot h1), if_neg h.dots]
theorem fold_ok : ∀ (l out : List ByteArray), (∀ n ∈ l, Okp n) → l.foldl stepP out = out ++ l
  | [], out, _ => by simp
  | n :: l, out, h => by
    rw [List.foldl_cons, step_ok (h n (by simp)), fold_ok l _ fun m hm => h m (List.mem_cons_of_mem _ hm), List.append_assoc]; rfl
theorem fold_okp : ∀ (ps out : List ByteArray), (∀ p ∈ ps, badP p = none ∧ (47 : UInt8) ∉ p.data.toList) → (∀ n ∈ out, Okp n) → ∀ n ∈ ps.foldl stepP out, Okp n
  | [], out, _, h => h
  | p :: ps, out, hp, h => by
    rw [List.foldl_cons]
    refine fold_okp ps _ (fun q hq => hp q (List.mem_cons_of_mem _ hq)) ?_
    unfold stepP
    split
    · exact h
    · split
      · exact fun n hn => h n (List.dropLast_subset _ hn)
      · rename_i h1 h2
        intro n hn
        rcases List.mem_append.1 hn with hn | hn
        · exact h n hn
        · have e : n = p := by simpa using hn
          subst e
          obtain ⟨hb, hf⟩ := hp n (by simp)
          exact ⟨(badP_none hb).1, (badP_none hb).2, fun e => h1 (.inl e), fun e => h1 (.inr e), h2, hf⟩
def wt (ps : List ByteArray) : Nat := (ps.map fun p => p.size + 1).sum
theorem wt_append (a b : List ByteArray) : wt (a ++ b) = wt a + wt b := by simp [wt]
theorem wt_cons (a : ByteArray) (b : List ByteArray) : wt (a :: b) = a.size + 1 + wt b := by simp [wt]
theorem wt_dropLast : ∀ l : List ByteArray, wt l.dropLast ≤ wt l
  | [] => Nat.le_refl _
  | [a] => by simp [wt]
  | a :: b :: l => by
    rw [List.dropLast_cons_of_ne_nil (by simp), wt_cons, wt_cons]
    have := wt_dropLast (b :: l)
    omega
theorem fold_wt : ∀ ps out : List ByteArray, wt (ps.foldl stepP out) ≤ wt out + wt ps
  | [], out => by simp [wt]
  | p :: ps, out => by
    rw [List.foldl_cons, wt_cons]
    have h1 := fold_wt ps (stepP out p)
    have h2 : wt (stepP out p) ≤ wt out + (p.size + 1) := by
      unfold stepP
      split
      · omega
      · split
        · have := wt_dropLast out; omega
        · rw [wt_append]; simp [wt]
    omega
theorem wt_pieces (s : ByteArray) : wt (pieces s) = s.size + 1 := by
  unfold wt
  rw [pieces_eq, List.map_map, size_data s, ← cut_weight 47]
  exact congrArg List.sum (List.map_congr_left fun p _ => congrArg (· + 1) (mkB_size p))
theorem pieces_free {s p : ByteArray} (h : p ∈ pieces s) : (47 : UInt8) ∉ p.data.toList := by
  rw [pieces_eq] at h
  obtain ⟨q, hq, rfl⟩ := List.mem_map.1 h
  rw [data_mkB]
  exact cut_mem _ _ _ hq
/-- What Split answers: names, or a code. -/
theorem split_cases (s : ByteArray) : (splitL s).1 = [] ∧ ((splitL s).2 = 31 ∨ (splitL s).2 = 32) ∨ (splitL s).2 = 0 ∧ s.size ≤ 256 ∧ (splitL s).1 = outP (pieces s) ∧ (splitL s).1.length ≤ 16 ∧ ∀ n ∈ (splitL s).1, Okp n := by
  unfold splitL
  split
  · exact .inl ⟨rfl, .inr rfl⟩
  · rename_i h
    split
    · rename_i e he; exact .inl ⟨rfl, firstBad_code he⟩
    · rename_i he
      split
      · exact .inl ⟨rfl, .inr rfl⟩
      · rename_i h2
        refine .inr ⟨rfl, by omega, rfl, Nat.le_of_not_lt h2, ?_⟩
        exact fold_okp _ _ (fun p hp => ⟨firstBad_none.1 he p hp, pieces_free hp⟩) (fun n hn => nomatch hn)
theorem split_ok {s : ByteArray} {l : List ByteArray} (h : s.size ≤ 256) (hb : ∀ p ∈ pieces s, badP p = none) (ho : outP (pieces s) = l) (hl : l.length ≤ 16) : splitL s = (l, 0) := by
  unfold splitL
  rw [if_neg (by omega), firstBad_none.2 hb, ho]
  show (if 16 < l.length then _ else _) = _
  rw [if_neg (by omega)]

theorem joinB_cons (x : ByteArray) (r : List ByteArray) : joinB (x :: r) = x.data.toList ++ Lib.joinTail [47] (r.map (·.data.toList)) := by
  unfold joinB; rw [List.map_cons, Lib.join_cons]
theorem tail_cons (x : ByteArray) (r : List ByteArray) : Lib.joinTail [47] ((x :: r).map (·.data.toList)) = 47 :: joinB (x :: r) := by
  rw [joinB_cons]
  unfold Lib.joinTail
  simp only [List.map_cons, List.flatten_cons, List.cons_append, List.nil_append]
theorem joinB_len : ∀ (r : List ByteArray) (x : ByteArray), (joinB (x :: r)).length + 1 = wt (x :: r)
  | [], x => by
    rw [joinB_cons, wt_cons, List.length_append, size_data]
    simp [Lib.joinTail, wt]
  | y :: r, x => by
    have := joinB_len r y
    rw [joinB_cons, tail_cons, List.length_append, List.length_cons, wt_cons, size_data]
    omega
theorem joinB_cut : ∀ (r : List ByteArray) (x : ByteArray), (∀ n ∈ x :: r, (47 : UInt8) ∉ n.data.toList) → cutAt 47 (joinB (x :: r)) = (x :: r).map (·.data.toList)
  | [], x, h => by
    rw [joinB_cons]
    simp only [List.map_nil, Lib.joinTail, List.flatten_nil, List.append_nil, List.map_cons]
    exact cut_free _ _ (h x (by simp))
  | y :: r, x, h => by
    rw [joinB_cons, tail_cons, cut_append, joinB_cut r y fun n hn => h n (List.mem_cons_of_mem _ hn), cut_free _ _ (h x (by simp))]
    rfl
theorem joinL_data (l : List ByteArray) : (joinL l).data.toList = 47 :: joinB l := by
  unfold joinL; rw [app_data]; rfl
theorem joinL_size (l : List ByteArray) : (joinL l).size = 1 + (joinB l).length := by rw [size_data, joinL_data, List.length_cons]; omega
def restP : List ByteArray → List ByteArray
  | [] => [mkB []]
  | x :: r => x :: r
theorem has0_empty : has0 (mkB []) = false := by decide
theorem bad_empty : badP (mkB []) = none := by decide
/-- A path's names, put together, say themselves again. -/
theorem split_join {l : List ByteArray} (h : ∀ n ∈ l, Okp n) (hl : l.length ≤ 16) (hs : (joinL l).size ≤ 256) : splitL (joinL l) = (l, 0) := by
  have hp : pieces (joinL l) = mkB [] :: restP l := by
    rw [pieces_eq, joinL_data, cut_eq, List.map_cons]
    cases l with
    | nil => rfl
    | cons x r =>
      rw [joinB_cut r x fun n hn => (h n hn).free, List.map_map]
      have e : (x :: r).map (mkB ∘ fun n => n.data.toList) = x :: r := (List.map_congr_left (g := id) fun n _ => mkB_data n).trans (List.map_id _)
      rw [e]; rfl
  have he : stepP [] (mkB []) = [] := by unfold stepP; rw [if_pos (by rw [mkB_toList]; exact .inl rfl)]
  refine split_ok hs ?_ ?_ hl
  · rw [hp]
    intro p hp
    rcases List.mem_cons.1 hp with rfl | hp
    · exact bad_empty
    · cases l with
      | nil =>
        have e : p = mkB [] := by simpa [restP] using hp
        subst e; exact bad_empty
      | cons x r => exact (h p hp).bad
  · rw [hp]
    unfold outP
    rw [List.foldl_cons, he]
    cases l with
    | nil =>
      show List.foldl stepP [] [mkB []] = []
      rw [List.foldl_cons, he]; rfl
    | cons x r => exact fold_ok (x :: r) [] h
theorem rdB_at (l : List ByteArray) (i : Nat) (h : i < l.length) : rdOf ByteArray.empty l (i : Int) = l[i] := by
  unfold rdOf
  rw [Int.toNat_natCast, List.getD_eq_getElem?_getD, List.getElem?_eq_getElem h]; rfl
theorem texts_loop (l : List ByteArray) (hl : l.length ≤ 1000000) (n : Nat) : ∀ (k i : Nat), l.length - i = n → i ≤ l.length → n < k → gatehouseref13_SameTexts.l0 k l l (l.length : Int) (i : Int) = some true := by
  induction n with
  | zero =>
    intro k i h hi hk
    obtain ⟨k, rfl⟩ : ∃ q, k = q + 1 := ⟨k - 1, by omega⟩
    simp only [gatehouseref13_SameTexts.l0]
    rw [if_neg (by omega)]
  | succ n ih =>
    intro k i h hi hk
    obtain ⟨k, rfl⟩ : ∃ q, k = q + 1 := ⟨k - 1, by omega⟩
    simp only [gatehouseref13_SameTexts.l0]
    rw [if_pos (by omega), if_pos (by omega), if_pos (by omega), if_pos (by omega), if_true, w64 (x := (i : Int) + 1) (by omega) (by omega)]
    exact ih k (i + 1) (by omega) (by omega) (by omega)
theorem texts_self (l : List ByteArray) (hl : l.length ≤ 1000000) (k : Nat) (hk : l.length < k) : gatehouseref13_SameTexts.f k l l = some true := by
  unfold gatehouseref13_SameTexts.f
  rw [if_pos rfl]
  exact texts_loop l hl l.length k 0 (by omega) (by omega) hk
end Go.Proofs.YtijnlgmclaphhaaDoor
-- Written by a program of this session (gprint.py, over the kit's printer).
namespace Go.Proofs.YtijnlgmclaphhaaDoorZ
open Go.RowKit Go.Proofs.YtijnlgmclaphhaaDoorW.PrintWords Go.Proofs.YtijnlgmclaphhaaDoorW.PrintLast Go.Proofs.YtijnlgmclaphhaaDoorW.PrintMore
attribute [local go_sem] max2_int min2_int max_two min_two max_three min_three max_four min_four   -- for this text's walks alone
set_option linter.unusedVariables false
set_option linter.unusedSimpArgs false

/-! ### gatehouselaw13_lives: function 10 -/
def gatehouselaw13_lives.f (k : Nat)  : Option (Bool) := (dir_Put.f ([] : List (S25)) (⟨#[98]⟩ : ByteArray) 1 7).bind fun bt126 => ((dir_Put.f bt126.1 (⟨#[97]⟩ : ByteArray) 2 9).bind fun bt130 => ((dir_Encode.f bt130.1).bind fun bt134 => ((dir_Split.f (⟨#[47, 97, 47, 47, 46, 47, 98, 47, 46, 46, 47, 99]⟩ : ByteArray)).bind fun bt136 => (if bt126.2 = 0 then (if bt130.2 = 0 then (if bt134.2 = 0 then (if bt136.2 = 0 then (if bt134.1.toList = ([1, 97, 2, 9, 0, 0, 0, 0, 0, 0, 0, 1, 98, 1, 7, 0, 0, 0, 0, 0, 0, 0] : List UInt8) then ((gatehouseref13_SameTexts.f k bt136.1 (([(⟨#[97]⟩ : ByteArray), (⟨#[99]⟩ : ByteArray)] : List ByteArray))).bind fun t143 => (some t143)) else (some false)) else (some false)) else (some false)) else (some false)) else (some false)))))
theorem gatehouselaw13_lives.mono : ∀ k, LeO (gatehouselaw13_lives.f k ) (gatehouselaw13_lives.f (k + 1) ) := by
  intro  k
  unfold gatehouselaw13_lives.f
  repeat' first
      | (with_reducible exact gatehouseref13_SameTexts.mono _ _ _)
      | (with_reducible exact LeO.refl _)
      | (with_reducible exact LeO.none _)
      | (with_reducible refine LeO.ite ?_ ?_)
      | (with_reducible refine LeO.bind ?_ (fun _ => ?_))
      | exact gatehouseref13_SameTexts.mono _ _ _
      | exact LeO.none _
      | refine LeO.ite ?_ ?_
      | refine LeO.bind ?_ (fun _ => ?_)
set_option maxHeartbeats 8000000 in
set_option maxRecDepth 100000 in
theorem gatehouselaw13_lives.calls (k : Nat)  (r : Bool) (w : World) (h : gatehouselaw13_lives.f k  = some r) :
    Calls Tryd.prog 10 #[] w fun e w' => e = .returned (.bool r) ∧ Below w.heap.size w w' := by
  have hu25 := Tryd.underlying25
  have HB := Aside0.mk (Below.refl w.heap.size w)
  have H : ((dir_Put.f ([] : List (S25)) (⟨#[98]⟩ : ByteArray) 1 7).bind fun bt126 => ((dir_Put.f bt126.1 (⟨#[97]⟩ : ByteArray) 2 9).bind fun bt130 => ((dir_Encode.f bt130.1).bind fun bt134 => ((dir_Split.f (⟨#[47, 97, 47, 47, 46, 47, 98, 47, 46, 46, 47, 99]⟩ : ByteArray)).bind fun bt136 => (if bt126.2 = 0 then (if bt130.2 = 0 then (if bt134.2 = 0 then (if bt136.2 = 0 then (if bt134.1.toList = ([1, 97, 2, 9, 0, 0, 0, 0, 0, 0, 0, 1, 98, 1, 7, 0, 0, 0, 0, 0, 0, 0] : List UInt8) then ((gatehouseref13_SameTexts.f k bt136.1 (([(⟨#[97]⟩ : ByteArray), (⟨#[99]⟩ : ByteArray)] : List ByteArray))).bind fun t143 => (some t143)) else (some false)) else (some false)) else (some false)) else (some false)) else (some false)))))) = some r := h
  clear h
  replace H := Option.bind_eq_some_iff.mp H
  obtain ⟨⟨t126, t129⟩, A10, H⟩ := H
  replace H : ((dir_Put.f t126 (⟨#[97]⟩ : ByteArray) 2 9).bind fun bt130 => ((dir_Encode.f bt130.1).bind fun bt134 => ((dir_Split.f (⟨#[47, 97, 47, 47, 46, 47, 98, 47, 46, 46, 47, 99]⟩ : ByteArray)).bind fun bt136 => (if t129 = 0 then (if bt130.2 = 0 then (if bt134.2 = 0 then (if bt136.2 = 0 then (if bt134.1.toList = ([1, 97, 2, 9, 0, 0, 0, 0, 0, 0, 0, 1, 98, 1, 7, 0, 0, 0, 0, 0, 0, 0] : List UInt8) then ((gatehouseref13_SameTexts.f k bt136.1 (([(⟨#[97]⟩ : ByteArray), (⟨#[99]⟩ : ByteArray)] : List ByteArray))).bind fun t143 => (some t143)) else (some false)) else (some false)) else (some false)) else (some false)) else (some false))))) = some r := H
  have A1 := Aside0.mk A10
  clear A10
  replace H := Option.bind_eq_some_iff.mp H
  obtain ⟨⟨t130, t133⟩, A20, H⟩ := H
  replace H : ((dir_Encode.f t130).bind fun bt134 => ((dir_Split.f (⟨#[47, 97, 47, 47, 46, 47, 98, 47, 46, 46, 47, 99]⟩ : ByteArray)).bind fun bt136 => (if t129 = 0 then (if t133 = 0 then (if bt134.2 = 0 then (if bt136.2 = 0 then (if bt134.1.toList = ([1, 97, 2, 9, 0, 0, 0, 0, 0, 0, 0, 1, 98, 1, 7, 0, 0, 0, 0, 0, 0, 0] : List UInt8) then ((gatehouseref13_SameTexts.f k bt136.1 (([(⟨#[97]⟩ : ByteArray), (⟨#[99]⟩ : ByteArray)] : List ByteArray))).bind fun t143 => (some t143)) else (some false)) else (some false)) else (some false)) else (some false)) else (some false)))) = some r := H
  have A2 := Aside0.mk A20
  clear A20
  replace H := Option.bind_eq_some_iff.mp H
  obtain ⟨⟨t134, t135⟩, A30, H⟩ := H
  replace H : ((dir_Split.f (⟨#[47, 97, 47, 47, 46, 47, 98, 47, 46, 46, 47, 99]⟩ : ByteArray)).bind fun bt136 => (if t129 = 0 then (if t133 = 0 then (if t135 = 0 then (if bt136.2 = 0 then (if t134.toList = ([1, 97, 2, 9, 0, 0, 0, 0, 0, 0, 0, 1, 98, 1, 7, 0, 0, 0, 0, 0, 0, 0] : List UInt8) then ((gatehouseref13_SameTexts.f k bt136.1 (([(⟨#[97]⟩ : ByteArray), (⟨#[99]⟩ : ByteArray)] : List ByteArray))).bind fun t143 => (some t143)) else (some false)) else (some false)) else (some false)) else (some false)) else (some false))) = some r := H
  have A3 := Aside0.mk A30
  clear A30
  replace H := Option.bind_eq_some_iff.mp H
  obtain ⟨⟨t136, t137⟩, A40, H⟩ := H
  replace H : (if t129 = 0 then (if t133 = 0 then (if t135 = 0 then (if t137 = 0 then (if t134.toList = ([1, 97, 2, 9, 0, 0, 0, 0, 0, 0, 0, 1, 98, 1, 7, 0, 0, 0, 0, 0, 0, 0] : List UInt8) then ((gatehouseref13_SameTexts.f k t136 (([(⟨#[97]⟩ : ByteArray), (⟨#[99]⟩ : ByteArray)] : List ByteArray))).bind fun t143 => (some t143)) else (some false)) else (some false)) else (some false)) else (some false)) else (some false)) = some r := H
  have A4 := Aside0.mk A40
  clear A40
  by_cases c5 : t129 = 0
  · rw [if_pos c5] at H
    have c5b0 : (t129 == 0) = true := beq_iff_eq.mpr c5
    have c5b1 : (t129 != 0) = false := bne_eq_false_iff_eq.mpr c5
    clear c5
    by_cases c6 : t133 = 0
    · rw [if_pos c6] at H
      have c6b0 : (t133 == 0) = true := beq_iff_eq.mpr c6
      have c6b1 : (t133 != 0) = false := bne_eq_false_iff_eq.mpr c6
      clear c6
      by_cases c7 : t135 = 0
      · rw [if_pos c7] at H
        have c7b0 : (t135 == 0) = true := beq_iff_eq.mpr c7
        have c7b1 : (t135 != 0) = false := bne_eq_false_iff_eq.mpr c7
        clear c7
        by_cases c8 : t137 = 0
        · rw [if_pos c8] at H
          have c8b0 : (t137 == 0) = true := beq_iff_eq.mpr c8
          have c8b1 : (t137 != 0) = false := bne_eq_false_iff_eq.mpr c8
          clear c8
          by_cases c9 : t134.toList = ([1, 97, 2, 9, 0, 0, 0, 0, 0, 0, 0, 1, 98, 1, 7, 0, 0, 0, 0, 0, 0, 0] : List UInt8)
          · rw [if_pos c9] at H
            have c9b0 : (t134.toList == ([1, 97, 2, 9, 0, 0, 0, 0, 0, 0, 0, 1, 98, 1, 7, 0, 0, 0, 0, 0, 0, 0] : List UInt8)) = true := beq_iff_eq.mpr c9
            have c9b1 : (t134.toList != ([1, 97, 2, 9, 0, 0, 0, 0, 0, 0, 0, 1, 98, 1, 7, 0, 0, 0, 0, 0, 0, 0] : List UInt8)) = false := bne_eq_false_iff_eq.mpr c9
            clear c9
            obtain ⟨y140, hy140⟩ : ∃ y_ : List ByteArray, y_ = (([(⟨#[97]⟩ : ByteArray), (⟨#[99]⟩ : ByteArray)] : List ByteArray)) := ⟨_, rfl⟩
            replace H : ((gatehouseref13_SameTexts.f k t136 y140).bind fun t143 => (some t143)) = some r := by first | (rw [hy140]; with_reducible exact H) | (have H2_ := (Option.bind_some _ _).symm.trans H; rw [hy140]; with_reducible exact H2_) | (have H2_ := (Option.bind_some _ _).symm.trans H; with_reducible exact H2_) | with_reducible exact H | (rw [hy140]; exact H) | exact H
            have Ny140 := Aside0.mk hy140
            clear hy140
            replace H := Option.bind_eq_some_iff.mp H
            obtain ⟨t143, A100, H⟩ := H
            replace H : (some t143) = some r := H
            have A10 := Aside0.mk A100
            clear A100
            obtain rfl := Option.some.inj H
            go_enter Tryd.func10, Tryd.ntmps10
            go_wp2_with (first | ((with_reducible refine gate_callee (f := 11) rfl ?_); refine goesL_ (some 11) rfl rfl Tryd.func11 (by kernel_rfl) rfl #[.slice none 0 0, .agg #[.string (⟨#[98]⟩ : ByteArray), .int .i64 1, .int .i64 7]] rfl (by (try simp only [List.map_toArray, List.map_cons, List.map_nil]); first | done | rfl | (simp only [List.length_drop, List.length_take]; rfl)) ?_; (refine (dir_Put.calls _ _ ([] : List (S25)) (⟨#[98]⟩ : ByteArray) 1 7 t126 t129 _ ?side1 ?side2 A1.out).mono ?_); (case side1 => exact Kd.C_nil _ _); (case side2 => exact Nat.le_refl _); rintro e w11 ⟨v127, rfl, ho0, hb⟩; refine ⟨_, rfl, ?_⟩; have n0_ := Aside0.mk (Kd.R_lower ho0 (below_size (by repeat (first | (with_reducible first | exact HB.out | apply below_alloc | apply pw_below_drewN | apply below_drew1) | exact HB.out)))); have n1_ := Aside0.mk (below_step (by repeat (first | (with_reducible first | exact HB.out | apply below_alloc | apply pw_below_drewN | apply below_drew1) | exact HB.out)) hb); clear HB; have HO128 := n0_; have HB := n1_; clear n0_ n1_; (try clear hb); (try clear hb2); (try clear hk); (try clear hi); (try clear ho0); obtain ⟨Ao12, co12, eo12⟩ := Kd.R_slice HO128.out; subst eo12) | ((with_reducible refine gate_callee (f := 11) rfl ?_); refine goesL_ (some 17) rfl rfl Tryd.func11 (by kernel_rfl) rfl #[.slice Ao12 t126.length co12, .agg #[.string (⟨#[97]⟩ : ByteArray), .int .i64 2, .int .i64 9]] rfl (by (try simp only [List.map_toArray, List.map_cons, List.map_nil]); first | done | rfl | (simp only [List.length_drop, List.length_take]; rfl)) ?_; (with_reducible refine (dir_Put.calls _ _ t126 (⟨#[97]⟩ : ByteArray) 2 9 t130 t133 _ ?side1 ?side2 A2.out).mono ?_); (case side1 => repeat (first | exact (Kd.R_reads' HO128.out).2.2 | (with_reducible refine Kd.C_alloc ?_ _) | (with_reducible refine Kd.C_drewN ?_ _) | (with_reducible refine Kd.C_drew ?_))); (case side2 => exact (Kd.R_reads' HO128.out).2.1); rintro e w13 ⟨v131, rfl, ho0, hb⟩; refine ⟨_, rfl, ?_⟩; have n0_ := Aside0.mk (Kd.R_elder' (by (with_reducible repeat (first | apply Kd.R_alloc | apply Kd.R_drewN | apply Kd.R_drew)); exact HO128.out) (Kd.R_base ho0) hb); have n1_ := Aside0.mk (Kd.R_lower (Kd.R_new' ho0 (Kd.R_lt (by (with_reducible repeat (first | apply Kd.R_alloc | apply Kd.R_drewN | apply Kd.R_drew)); exact HO128.out))) (below_size (by repeat (first | (with_reducible first | exact HB.out | apply below_alloc | apply pw_below_drewN | apply below_drew1) | exact HB.out)))); have n2_ := Aside0.mk (below_step (by repeat (first | (with_reducible first | exact HB.out | apply below_alloc | apply pw_below_drewN | apply below_drew1) | exact HB.out)) hb); clear HO128; clear HB; have HO128 := n0_; have HO132 := n1_; have HB := n2_; clear n0_ n1_ n2_; (try clear hb); (try clear hb2); (try clear hk); (try clear hi); (try clear ho0); obtain ⟨Ao14, co14, eo14⟩ := Kd.R_slice HO132.out; subst eo14) | ((with_reducible refine gate_callee (f := 15) rfl ?_); refine goesL_ (some 22) rfl rfl Tryd.func15 (by kernel_rfl) rfl #[.slice Ao14 t130.length co14] rfl (by (try simp only [List.map_toArray, List.map_cons, List.map_nil]); first | done | rfl | (simp only [List.length_drop, List.length_take]; rfl)) ?_; (with_reducible refine (dir_Encode.calls _ _ t130 t134 t135 _ ?side1 ?side2 A3.out).mono ?_); (case side1 => repeat (first | exact (Kd.R_reads' HO132.out).2.2 | (with_reducible refine Kd.C_alloc ?_ _) | (with_reducible refine Kd.C_drewN ?_ _) | (with_reducible refine Kd.C_drew ?_))); (case side2 => exact (Kd.R_reads' HO132.out).2.1); rintro e w15 ⟨rfl, hb⟩; refine ⟨_, rfl, ?_⟩; have n0_ := Aside0.mk (Kd.R_below (by (with_reducible repeat (first | apply Kd.R_alloc | apply Kd.R_drewN | apply Kd.R_drew)); exact HO128.out) hb); have n1_ := Aside0.mk (Kd.R_below (by (with_reducible repeat (first | apply Kd.R_alloc | apply Kd.R_drewN | apply Kd.R_drew)); exact HO132.out) hb); have n2_ := Aside0.mk (below_step (by repeat (first | (with_reducible first | exact HB.out | apply below_alloc | apply pw_below_drewN | apply below_drew1) | exact HB.out)) hb); clear HO128; clear HO132; clear HB; have HO128 := n0_; have HO132 := n1_; have HB := n2_; clear n0_ n1_ n2_; (try clear hb); (try clear hb2); (try clear hk); (try clear hi)) | ((with_reducible refine gate_callee (f := 24) rfl ?_); refine goesL_ (some 26) rfl rfl Tryd.func24 (by kernel_rfl) rfl #[.string (⟨#[47, 97, 47, 47, 46, 47, 98, 47, 46, 46, 47, 99]⟩ : ByteArray)] rfl (by (try simp only [List.map_toArray, List.map_cons, List.map_nil]); first | done | rfl | (simp only [List.length_drop, List.length_take]; rfl)) ?_; (with_reducible refine (dir_Split.calls (⟨#[47, 97, 47, 47, 46, 47, 98, 47, 46, 46, 47, 99]⟩ : ByteArray) t136 t137 _ A4.out).mono ?_); rintro e w16 ⟨v138, rfl, ho0, hb⟩; refine ⟨_, rfl, ?_⟩; have n0_ := Aside0.mk (Kd.R_below (by (with_reducible repeat (first | apply Kd.R_alloc | apply Kd.R_drewN | apply Kd.R_drew)); exact HO128.out) hb); have n1_ := Aside0.mk (Kd.R_below (by (with_reducible repeat (first | apply Kd.R_alloc | apply Kd.R_drewN | apply Kd.R_drew)); exact HO132.out) hb); have n2_ := Aside0.mk (Kd.R_lower ho0 (below_size (by repeat (first | (with_reducible first | exact HB.out | apply below_alloc | apply pw_below_drewN | apply below_drew1) | exact HB.out)))); have n3_ := Aside0.mk (below_step (by repeat (first | (with_reducible first | exact HB.out | apply below_alloc | apply pw_below_drewN | apply below_drew1) | exact HB.out)) hb); clear HO128; clear HO132; clear HB; have HO128 := n0_; have HO132 := n1_; have HO139 := n2_; have HB := n3_; clear n0_ n1_ n2_ n3_; (try clear hb); (try clear hb2); (try clear hk); (try clear hi); (try clear ho0)) | ((with_reducible refine gate_dst (N := 49) rfl ?_); (try (refine gate_guard (by rfl) ?_; dsimp only)); refine Kd.R_lit Kd.string _ 9 ?hg (N := 49) ?hd (xs := ([(⟨#[97]⟩ : ByteArray), (⟨#[99]⟩ : ByteArray)] : List ByteArray)) (inner := [.string (⟨#[97]⟩ : ByteArray), .string (⟨#[99]⟩ : ByteArray)]) (ok := fun _ => True) (okp := fun _ => True) ?hr ?hp (fun _ hk => hk) trivial (Below.refl _ _) (Nat.le_refl _) (by simp) ?_; (case hd => rfl); (case hg => rfl); (case hr => first | (go_simp; done) | (go_simp; rfl)); (case hp => exact (Reps.one (show Kd.M Kd.string _ _ _ (⟨#[97]⟩ : ByteArray) [.string (⟨#[97]⟩ : ByteArray)] from rfl) (Reps.one (show Kd.M Kd.string _ _ _ (⟨#[99]⟩ : ByteArray) [.string (⟨#[99]⟩ : ByteArray)] from rfl) (Reps.none _ _)))); intro v141 w17 ho18 hb hg_ hnew_; clear hg_ hnew_; (first | rw [← Ny140.out] at ho18 | (simp only [Int.reduceToNat] at ho18; rw [← Ny140.out] at ho18)); have n0_ := Aside0.mk (Kd.R_below (by (with_reducible repeat (first | apply Kd.R_alloc | apply Kd.R_drewN | apply Kd.R_drew)); exact HO128.out) hb); have n1_ := Aside0.mk (Kd.R_below (by (with_reducible repeat (first | apply Kd.R_alloc | apply Kd.R_drewN | apply Kd.R_drew)); exact HO132.out) hb); have n2_ := Aside0.mk (Kd.R_elder' (by (with_reducible repeat (first | apply Kd.R_alloc | apply Kd.R_drewN | apply Kd.R_drew)); exact HO139.out) (Kd.R_base ho18) hb); have n3_ := Aside0.mk (Kd.R_lower (Kd.R_new' ho18 (Kd.R_lt (by (with_reducible repeat (first | apply Kd.R_alloc | apply Kd.R_drewN | apply Kd.R_drew)); exact HO139.out))) (below_size (by repeat (first | (with_reducible first | exact HB.out | apply below_alloc | apply pw_below_drewN | apply below_drew1) | exact HB.out)))); have n4_ := Aside0.mk (below_step (by repeat (first | (with_reducible first | exact HB.out | apply below_alloc | apply pw_below_drewN | apply below_drew1) | exact HB.out)) hb); clear HO128; clear HO132; clear HO139; clear HB; have HO128 := n0_; have HO132 := n1_; have HO139 := n2_; have HO142 := n3_; have HB := n4_; clear n0_ n1_ n2_ n3_ n4_; clear hb ho18; obtain ⟨Ao19, co19, eo19⟩ := Kd.R_slice HO139.out; subst eo19; obtain ⟨Ao20, co20, eo20⟩ := Kd.R_slice HO142.out; subst eo20) | (go_at_call 26; (with_reducible refine (gatehouseref13_SameTexts.calls k _ _ t136 _ _ y140 t143 _ ?side1 ?side2 ?side3 ?side4 A10.out).mono ?_); (case side1 => repeat (first | exact (Kd.R_reads' HO139.out).2.2 | (with_reducible refine Kd.C_alloc ?_ _) | (with_reducible refine Kd.C_drewN ?_ _) | (with_reducible refine Kd.C_drew ?_))); (case side2 => exact (Kd.R_reads' HO139.out).2.1); (case side3 => repeat (first | exact (Kd.R_reads' HO142.out).2.2 | (with_reducible refine Kd.C_alloc ?_ _) | (with_reducible refine Kd.C_drewN ?_ _) | (with_reducible refine Kd.C_drew ?_))); (case side4 => exact (Kd.R_reads' HO142.out).2.1); rintro e w' ⟨rfl, ⟨nd, rfl⟩⟩))
            go_ret
            exact ⟨by first | rfl | (simp [errW_none, errW_some] <;> rfl) | (simp [*, errW_none, errW_some] <;> rfl), by repeat (first | (with_reducible first | exact HB.out | apply below_alloc | apply pw_below_drewN | apply below_drew1) | exact HB.out)⟩
          · rw [if_neg c9] at H
            have c9b0 : (t134.toList == ([1, 97, 2, 9, 0, 0, 0, 0, 0, 0, 0, 1, 98, 1, 7, 0, 0, 0, 0, 0, 0, 0] : List UInt8)) = false := beq_eq_false_iff_ne.mpr c9
            have c9b1 : (t134.toList != ([1, 97, 2, 9, 0, 0, 0, 0, 0, 0, 0, 1, 98, 1, 7, 0, 0, 0, 0, 0, 0, 0] : List UInt8)) = true := bne_iff_ne.mpr c9
            obtain rfl := Option.some.inj H
            go_enter Tryd.func10, Tryd.ntmps10
            go_wp2_with (first | ((with_reducible refine gate_callee (f := 11) rfl ?_); refine goesL_ (some 11) rfl rfl Tryd.func11 (by kernel_rfl) rfl #[.slice none 0 0, .agg #[.string (⟨#[98]⟩ : ByteArray), .int .i64 1, .int .i64 7]] rfl (by (try simp only [List.map_toArray, List.map_cons, List.map_nil]); first | done | rfl | (simp only [List.length_drop, List.length_take]; rfl)) ?_; (refine (dir_Put.calls _ _ ([] : List (S25)) (⟨#[98]⟩ : ByteArray) 1 7 t126 t129 _ ?side1 ?side2 A1.out).mono ?_); (case side1 => exact Kd.C_nil _ _); (case side2 => exact Nat.le_refl _); rintro e w21 ⟨v127, rfl, ho0, hb⟩; refine ⟨_, rfl, ?_⟩; have n0_ := Aside0.mk (Kd.R_lower ho0 (below_size (by repeat (first | (with_reducible first | exact HB.out | apply below_alloc | apply pw_below_drewN | apply below_drew1) | exact HB.out)))); have n1_ := Aside0.mk (below_step (by repeat (first | (with_reducible first | exact HB.out | apply below_alloc | apply pw_below_drewN | apply below_drew1) | exact HB.out)) hb); clear HB; have HO128 := n0_; have HB := n1_; clear n0_ n1_; (try clear hb); (try clear hb2); (try clear hk); (try clear hi); (try clear ho0); obtain ⟨Ao22, co22, eo22⟩ := Kd.R_slice HO128.out; subst eo22) | ((with_reducible refine gate_callee (f := 11) rfl ?_); refine goesL_ (some 17) rfl rfl Tryd.func11 (by kernel_rfl) rfl #[.slice Ao22 t126.length co22, .agg #[.string (⟨#[97]⟩ : ByteArray), .int .i64 2, .int .i64 9]] rfl (by (try simp only [List.map_toArray, List.map_cons, List.map_nil]); first | done | rfl | (simp only [List.length_drop, List.length_take]; rfl)) ?_; (with_reducible refine (dir_Put.calls _ _ t126 (⟨#[97]⟩ : ByteArray) 2 9 t130 t133 _ ?side1 ?side2 A2.out).mono ?_); (case side1 => repeat (first | exact (Kd.R_reads' HO128.out).2.2 | (with_reducible refine Kd.C_alloc ?_ _) | (with_reducible refine Kd.C_drewN ?_ _) | (with_reducible refine Kd.C_drew ?_))); (case side2 => exact (Kd.R_reads' HO128.out).2.1); rintro e w23 ⟨v131, rfl, ho0, hb⟩; refine ⟨_, rfl, ?_⟩; have n0_ := Aside0.mk (Kd.R_elder' (by (with_reducible repeat (first | apply Kd.R_alloc | apply Kd.R_drewN | apply Kd.R_drew)); exact HO128.out) (Kd.R_base ho0) hb); have n1_ := Aside0.mk (Kd.R_lower (Kd.R_new' ho0 (Kd.R_lt (by (with_reducible repeat (first | apply Kd.R_alloc | apply Kd.R_drewN | apply Kd.R_drew)); exact HO128.out))) (below_size (by repeat (first | (with_reducible first | exact HB.out | apply below_alloc | apply pw_below_drewN | apply below_drew1) | exact HB.out)))); have n2_ := Aside0.mk (below_step (by repeat (first | (with_reducible first | exact HB.out | apply below_alloc | apply pw_below_drewN | apply below_drew1) | exact HB.out)) hb); clear HO128; clear HB; have HO128 := n0_; have HO132 := n1_; have HB := n2_; clear n0_ n1_ n2_; (try clear hb); (try clear hb2); (try clear hk); (try clear hi); (try clear ho0); obtain ⟨Ao24, co24, eo24⟩ := Kd.R_slice HO132.out; subst eo24) | ((with_reducible refine gate_callee (f := 15) rfl ?_); refine goesL_ (some 22) rfl rfl Tryd.func15 (by kernel_rfl) rfl #[.slice Ao24 t130.length co24] rfl (by (try simp only [List.map_toArray, List.map_cons, List.map_nil]); first | done | rfl | (simp only [List.length_drop, List.length_take]; rfl)) ?_; (with_reducible refine (dir_Encode.calls _ _ t130 t134 t135 _ ?side1 ?side2 A3.out).mono ?_); (case side1 => repeat (first | exact (Kd.R_reads' HO132.out).2.2 | (with_reducible refine Kd.C_alloc ?_ _) | (with_reducible refine Kd.C_drewN ?_ _) | (with_reducible refine Kd.C_drew ?_))); (case side2 => exact (Kd.R_reads' HO132.out).2.1); rintro e w25 ⟨rfl, hb⟩; refine ⟨_, rfl, ?_⟩; have n0_ := Aside0.mk (Kd.R_below (by (with_reducible repeat (first | apply Kd.R_alloc | apply Kd.R_drewN | apply Kd.R_drew)); exact HO128.out) hb); have n1_ := Aside0.mk (Kd.R_below (by (with_reducible repeat (first | apply Kd.R_alloc | apply Kd.R_drewN | apply Kd.R_drew)); exact HO132.out) hb); have n2_ := Aside0.mk (below_step (by repeat (first | (with_reducible first | exact HB.out | apply below_alloc | apply pw_below_drewN | apply below_drew1) | exact HB.out)) hb); clear HO128; clear HO132; clear HB; have HO128 := n0_; have HO132 := n1_; have HB := n2_; clear n0_ n1_ n2_; (try clear hb); (try clear hb2); (try clear hk); (try clear hi)) | ((with_reducible refine gate_callee (f := 24) rfl ?_); refine goesL_ (some 26) rfl rfl Tryd.func24 (by kernel_rfl) rfl #[.string (⟨#[47, 97, 47, 47, 46, 47, 98, 47, 46, 46, 47, 99]⟩ : ByteArray)] rfl (by (try simp only [List.map_toArray, List.map_cons, List.map_nil]); first | done | rfl | (simp only [List.length_drop, List.length_take]; rfl)) ?_; (with_reducible refine (dir_Split.calls (⟨#[47, 97, 47, 47, 46, 47, 98, 47, 46, 46, 47, 99]⟩ : ByteArray) t136 t137 _ A4.out).mono ?_); rintro e w26 ⟨v138, rfl, ho0, hb⟩; refine ⟨_, rfl, ?_⟩; have n0_ := Aside0.mk (Kd.R_below (by (with_reducible repeat (first | apply Kd.R_alloc | apply Kd.R_drewN | apply Kd.R_drew)); exact HO128.out) hb); have n1_ := Aside0.mk (Kd.R_below (by (with_reducible repeat (first | apply Kd.R_alloc | apply Kd.R_drewN | apply Kd.R_drew)); exact HO132.out) hb); have n2_ := Aside0.mk (Kd.R_lower ho0 (below_size (by repeat (first | (with_reducible first | exact HB.out | apply below_alloc | apply pw_below_drewN | apply below_drew1) | exact HB.out)))); have n3_ := Aside0.mk (below_step (by repeat (first | (with_reducible first | exact HB.out | apply below_alloc | apply pw_below_drewN | apply below_drew1) | exact HB.out)) hb); clear HO128; clear HO132; clear HB; have HO128 := n0_; have HO132 := n1_; have HO139 := n2_; have HB := n3_; clear n0_ n1_ n2_ n3_; (try clear hb); (try clear hb2); (try clear hk); (try clear hi); (try clear ho0)))
            go_ret
            exact ⟨by first | rfl | (simp [errW_none, errW_some] <;> rfl) | (simp [*, errW_none, errW_some] <;> rfl), by repeat (first | (with_reducible first | exact HB.out | apply below_alloc | apply pw_below_drewN | apply below_drew1) | exact HB.out)⟩
        · rw [if_neg c8] at H
          have c8b0 : (t137 == 0) = false := beq_eq_false_iff_ne.mpr c8
          have c8b1 : (t137 != 0) = true := bne_iff_ne.mpr c8
          obtain rfl := Option.some.inj H
          go_enter Tryd.func10, Tryd.ntmps10
          go_wp2_with (first | ((with_reducible refine gate_callee (f := 11) rfl ?_); refine goesL_ (some 11) rfl rfl Tryd.func11 (by kernel_rfl) rfl #[.slice none 0 0, .agg #[.string (⟨#[98]⟩ : ByteArray), .int .i64 1, .int .i64 7]] rfl (by (try simp only [List.map_toArray, List.map_cons, List.map_nil]); first | done | rfl | (simp only [List.length_drop, List.length_take]; rfl)) ?_; (refine (dir_Put.calls _ _ ([] : List (S25)) (⟨#[98]⟩ : ByteArray) 1 7 t126 t129 _ ?side1 ?side2 A1.out).mono ?_); (case side1 => exact Kd.C_nil _ _); (case side2 => exact Nat.le_refl _); rintro e w27 ⟨v127, rfl, ho0, hb⟩; refine ⟨_, rfl, ?_⟩; have n0_ := Aside0.mk (Kd.R_lower ho0 (below_size (by repeat (first | (with_reducible first | exact HB.out | apply below_alloc | apply pw_below_drewN | apply below_drew1) | exact HB.out)))); have n1_ := Aside0.mk (below_step (by repeat (first | (with_reducible first | exact HB.out | apply below_alloc | apply pw_below_drewN | apply below_drew1) | exact HB.out)) hb); clear HB; have HO128 := n0_; have HB := n1_; clear n0_ n1_; (try clear hb); (try clear hb2); (try clear hk); (try clear hi); (try clear ho0); obtain ⟨Ao28, co28, eo28⟩ := Kd.R_slice HO128.out; subst eo28) | ((with_reducible refine gate_callee (f := 11) rfl ?_); refine goesL_ (some 17) rfl rfl Tryd.func11 (by kernel_rfl) rfl #[.slice Ao28 t126.length co28, .agg #[.string (⟨#[97]⟩ : ByteArray), .int .i64 2, .int .i64 9]] rfl (by (try simp only [List.map_toArray, List.map_cons, List.map_nil]); first | done | rfl | (simp only [List.length_drop, List.length_take]; rfl)) ?_; (with_reducible refine (dir_Put.calls _ _ t126 (⟨#[97]⟩ : ByteArray) 2 9 t130 t133 _ ?side1 ?side2 A2.out).mono ?_); (case side1 => repeat (first | exact (Kd.R_reads' HO128.out).2.2 | (with_reducible refine Kd.C_alloc ?_ _) | (with_reducible refine Kd.C_drewN ?_ _) | (with_reducible refine Kd.C_drew ?_))); (case side2 => exact (Kd.R_reads' HO128.out).2.1); rintro e w29 ⟨v131, rfl, ho0, hb⟩; refine ⟨_, rfl, ?_⟩; have n0_ := Aside0.mk (Kd.R_elder' (by (with_reducible repeat (first | apply Kd.R_alloc | apply Kd.R_drewN | apply Kd.R_drew)); exact HO128.out) (Kd.R_base ho0) hb); have n1_ := Aside0.mk (Kd.R_lower (Kd.R_new' ho0 (Kd.R_lt (by (with_reducible repeat (first | apply Kd.R_alloc | apply Kd.R_drewN | apply Kd.R_drew)); exact HO128.out))) (below_size (by repeat (first | (with_reducible first | exact HB.out | apply below_alloc | apply pw_below_drewN | apply below_drew1) | exact HB.out)))); have n2_ := Aside0.mk (below_step (by repeat (first | (with_reducible first | exact HB.out | apply below_alloc | apply pw_below_drewN | apply below_drew1) | exact HB.out)) hb); clear HO128; clear HB; have HO128 := n0_; have HO132 := n1_; have HB := n2_; clear n0_ n1_ n2_; (try clear hb); (try clear hb2); (try clear hk); (try clear hi); (try clear ho0); obtain ⟨Ao30, co30, eo30⟩ := Kd.R_slice HO132.out; subst eo30) | ((with_reducible refine gate_callee (f := 15) rfl ?_); refine goesL_ (some 22) rfl rfl Tryd.func15 (by kernel_rfl) rfl #[.slice Ao30 t130.length co30] rfl (by (try simp only [List.map_toArray, List.map_cons, List.map_nil]); first | done | rfl | (simp only [List.length_drop, List.length_take]; rfl)) ?_; (with_reducible refine (dir_Encode.calls _ _ t130 t134 t135 _ ?side1 ?side2 A3.out).mono ?_); (case side1 => repeat (first | exact (Kd.R_reads' HO132.out).2.2 | (with_reducible refine Kd.C_alloc ?_ _) | (with_reducible refine Kd.C_drewN ?_ _) | (with_reducible refine Kd.C_drew ?_))); (case side2 => exact (Kd.R_reads' HO132.out).2.1); rintro e w31 ⟨rfl, hb⟩; refine ⟨_, rfl, ?_⟩; have n0_ := Aside0.mk (Kd.R_below (by (with_reducible repeat (first | apply Kd.R_alloc | apply Kd.R_drewN | apply Kd.R_drew)); exact HO128.out) hb); have n1_ := Aside0.mk (Kd.R_below (by (with_reducible repeat (first | apply Kd.R_alloc | apply Kd.R_drewN | apply Kd.R_drew)); exact HO132.out) hb); have n2_ := Aside0.mk (below_step (by repeat (first | (with_reducible first | exact HB.out | apply below_alloc | apply pw_below_drewN | apply below_drew1) | exact HB.out)) hb); clear HO128; clear HO132; clear HB; have HO128 := n0_; have HO132 := n1_; have HB := n2_; clear n0_ n1_ n2_; (try clear hb); (try clear hb2); (try clear hk); (try clear hi)) | ((with_reducible refine gate_callee (f := 24) rfl ?_); refine goesL_ (some 26) rfl rfl Tryd.func24 (by kernel_rfl) rfl #[.string (⟨#[47, 97, 47, 47, 46, 47, 98, 47, 46, 46, 47, 99]⟩ : ByteArray)] rfl (by (try simp only [List.map_toArray, List.map_cons, List.map_nil]); first | done | rfl | (simp only [List.length_drop, List.length_take]; rfl)) ?_; (with_reducible refine (dir_Split.calls (⟨#[47, 97, 47, 47, 46, 47, 98, 47, 46, 46, 47, 99]⟩ : ByteArray) t136 t137 _ A4.out).mono ?_); rintro e w32 ⟨v138, rfl, ho0, hb⟩; refine ⟨_, rfl, ?_⟩; have n0_ := Aside0.mk (Kd.R_below (by (with_reducible repeat (first | apply Kd.R_alloc | apply Kd.R_drewN | apply Kd.R_drew)); exact HO128.out) hb); have n1_ := Aside0.mk (Kd.R_below (by (with_reducible repeat (first | apply Kd.R_alloc | apply Kd.R_drewN | apply Kd.R_drew)); exact HO132.out) hb); have n2_ := Aside0.mk (Kd.R_lower ho0 (below_size (by repeat (first | (with_reducible first | exact HB.out | apply below_alloc | apply pw_below_drewN | apply below_drew1) | exact HB.out)))); have n3_ := Aside0.mk (below_step (by repeat (first | (with_reducible first | exact HB.out | apply below_alloc | apply pw_below_drewN | apply below_drew1) | exact HB.out)) hb); clear HO128; clear HO132; clear HB; have HO128 := n0_; have HO132 := n1_; have HO139 := n2_; have HB := n3_; clear n0_ n1_ n2_ n3_; (try clear hb); (try clear hb2); (try clear hk); (try clear hi); (try clear ho0)))
          go_ret
          exact ⟨by first | rfl | (simp [errW_none, errW_some] <;> rfl) | (simp [*, errW_none, errW_some] <;> rfl), by repeat (first | (with_reducible first | exact HB.out | apply below_alloc | apply pw_below_drewN | apply below_drew1) | exact HB.out)⟩
      · rw [if_neg c7] at H
        have c7b0 : (t135 == 0) = false := beq_eq_false_iff_ne.mpr c7
        have c7b1 : (t135 != 0) = true := bne_iff_ne.mpr c7
        obtain rfl := Option.some.inj H
        go_enter Tryd.func10, Tryd.ntmps10
        go_wp2_with (first | ((with_reducible refine gate_callee (f := 11) rfl ?_); refine goesL_ (some 11) rfl rfl Tryd.func11 (by kernel_rfl) rfl #[.slice none 0 0, .agg #[.string (⟨#[98]⟩ : ByteArray), .int .i64 1, .int .i64 7]] rfl (by (try simp only [List.map_toArray, List.map_cons, List.map_nil]); first | done | rfl | (simp only [List.length_drop, List.length_take]; rfl)) ?_; (refine (dir_Put.calls _ _ ([] : List (S25)) (⟨#[98]⟩ : ByteArray) 1 7 t126 t129 _ ?side1 ?side2 A1.out).mono ?_); (case side1 => exact Kd.C_nil _ _); (case side2 => exact Nat.le_refl _); rintro e w33 ⟨v127, rfl, ho0, hb⟩; refine ⟨_, rfl, ?_⟩; have n0_ := Aside0.mk (Kd.R_lower ho0 (below_size (by repeat (first | (with_reducible first | exact HB.out | apply below_alloc | apply pw_below_drewN | apply below_drew1) | exact HB.out)))); have n1_ := Aside0.mk (below_step (by repeat (first | (with_reducible first | exact HB.out | apply below_alloc | apply pw_below_drewN | apply below_drew1) | exact HB.out)) hb); clear HB; have HO128 := n0_; have HB := n1_; clear n0_ n1_; (try clear hb); (try clear hb2); (try clear hk); (try clear hi); (try clear ho0); obtain ⟨Ao34, co34, eo34⟩ := Kd.R_slice HO128.out; subst eo34) | ((with_reducible refine gate_callee (f := 11) rfl ?_); refine goesL_ (some 17) rfl rfl Tryd.func11 (by kernel_rfl) rfl #[.slice Ao34 t126.length co34, .agg #[.string (⟨#[97]⟩ : ByteArray), .int .i64 2, .int .i64 9]] rfl (by (try simp only [List.map_toArray, List.map_cons, List.map_nil]); first | done | rfl | (simp only [List.length_drop, List.length_take]; rfl)) ?_; (with_reducible refine (dir_Put.calls _ _ t126 (⟨#[97]⟩ : ByteArray) 2 9 t130 t133 _ ?side1 ?side2 A2.out).mono ?_); (case side1 => repeat (first | exact (Kd.R_reads' HO128.out).2.2 | (with_reducible refine Kd.C_alloc ?_ _) | (with_reducible refine Kd.C_drewN ?_ _) | (with_reducible refine Kd.C_drew ?_))); (case side2 => exact (Kd.R_reads' HO128.out).2.1); rintro e w35 ⟨v131, rfl, ho0, hb⟩; refine ⟨_, rfl, ?_⟩; have n0_ := Aside0.mk (Kd.R_elder' (by (with_reducible repeat (first | apply Kd.R_alloc | apply Kd.R_drewN | apply Kd.R_drew)); exact HO128.out) (Kd.R_base ho0) hb); have n1_ := Aside0.mk (Kd.R_lower (Kd.R_new' ho0 (Kd.R_lt (by (with_reducible repeat (first | apply Kd.R_alloc | apply Kd.R_drewN | apply Kd.R_drew)); exact HO128.out))) (below_size (by repeat (first | (with_reducible first | exact HB.out | apply below_alloc | apply pw_below_drewN | apply below_drew1) | exact HB.out)))); have n2_ := Aside0.mk (below_step (by repeat (first | (with_reducible first | exact HB.out | apply below_alloc | apply pw_below_drewN | apply below_drew1) | exact HB.out)) hb); clear HO128; clear HB; have HO128 := n0_; have HO132 := n1_; have HB := n2_; clear n0_ n1_ n2_; (try clear hb); (try clear hb2); (try clear hk); (try clear hi); (try clear ho0); obtain ⟨Ao36, co36, eo36⟩ := Kd.R_slice HO132.out; subst eo36) | ((with_reducible refine gate_callee (f := 15) rfl ?_); refine goesL_ (some 22) rfl rfl Tryd.func15 (by kernel_rfl) rfl #[.slice Ao36 t130.length co36] rfl (by (try simp only [List.map_toArray, List.map_cons, List.map_nil]); first | done | rfl | (simp only [List.length_drop, List.length_take]; rfl)) ?_; (with_reducible refine (dir_Encode.calls _ _ t130 t134 t135 _ ?side1 ?side2 A3.out).mono ?_); (case side1 => repeat (first | exact (Kd.R_reads' HO132.out).2.2 | (with_reducible refine Kd.C_alloc ?_ _) | (with_reducible refine Kd.C_drewN ?_ _) | (with_reducible refine Kd.C_drew ?_))); (case side2 => exact (Kd.R_reads' HO132.out).2.1); rintro e w37 ⟨rfl, hb⟩; refine ⟨_, rfl, ?_⟩; have n0_ := Aside0.mk (Kd.R_below (by (with_reducible repeat (first | apply Kd.R_alloc | apply Kd.R_drewN | apply Kd.R_drew)); exact HO128.out) hb); have n1_ := Aside0.mk (Kd.R_below (by (with_reducible repeat (first | apply Kd.R_alloc | apply Kd.R_drewN | apply Kd.R_drew)); exact HO132.out) hb); have n2_ := Aside0.mk (below_step (by repeat (first | (with_reducible first | exact HB.out | apply below_alloc | apply pw_below_drewN | apply below_drew1) | exact HB.out)) hb); clear HO128; clear HO132; clear HB; have HO128 := n0_; have HO132 := n1_; have HB := n2_; clear n0_ n1_ n2_; (try clear hb); (try clear hb2); (try clear hk); (try clear hi)) | ((with_reducible refine gate_callee (f := 24) rfl ?_); refine goesL_ (some 26) rfl rfl Tryd.func24 (by kernel_rfl) rfl #[.string (⟨#[47, 97, 47, 47, 46, 47, 98, 47, 46, 46, 47, 99]⟩ : ByteArray)] rfl (by (try simp only [List.map_toArray, List.map_cons, List.map_nil]); first | done | rfl | (simp only [List.length_drop, List.length_take]; rfl)) ?_; (with_reducible refine (dir_Split.calls (⟨#[47, 97, 47, 47, 46, 47, 98, 47, 46, 46, 47, 99]⟩ : ByteArray) t136 t137 _ A4.out).mono ?_); rintro e w38 ⟨v138, rfl, ho0, hb⟩; refine ⟨_, rfl, ?_⟩; have n0_ := Aside0.mk (Kd.R_below (by (with_reducible repeat (first | apply Kd.R_alloc | apply Kd.R_drewN | apply Kd.R_drew)); exact HO128.out) hb); have n1_ := Aside0.mk (Kd.R_below (by (with_reducible repeat (first | apply Kd.R_alloc | apply Kd.R_drewN | apply Kd.R_drew)); exact HO132.out) hb); have n2_ := Aside0.mk (Kd.R_lower ho0 (below_size (by repeat (first | (with_reducible first | exact HB.out | apply below_alloc | apply pw_below_drewN | apply below_drew1) | exact HB.out)))); have n3_ := Aside0.mk (below_step (by repeat (first | (with_reducible first | exact HB.out | apply below_alloc | apply pw_below_drewN | apply below_drew1) | exact HB.out)) hb); clear HO128; clear HO132; clear HB; have HO128 := n0_; have HO132 := n1_; have HO139 := n2_; have HB := n3_; clear n0_ n1_ n2_ n3_; (try clear hb); (try clear hb2); (try clear hk); (try clear hi); (try clear ho0)))
        go_ret
        exact ⟨by first | rfl | (simp [errW_none, errW_some] <;> rfl) | (simp [*, errW_none, errW_some] <;> rfl), by repeat (first | (with_reducible first | exact HB.out | apply below_alloc | apply pw_below_drewN | apply below_drew1) | exact HB.out)⟩
    · rw [if_neg c6] at H
      have c6b0 : (t133 == 0) = false := beq_eq_false_iff_ne.mpr c6
      have c6b1 : (t133 != 0) = true := bne_iff_ne.mpr c6
      obtain rfl := Option.some.inj H
      go_enter Tryd.func10, Tryd.ntmps10
      go_wp2_with (first | ((with_reducible refine gate_callee (f := 11) rfl ?_); refine goesL_ (some 11) rfl rfl Tryd.func11 (by kernel_rfl) rfl #[.slice none 0 0, .agg #[.string (⟨#[98]⟩ : ByteArray), .int .i64 1, .int .i64 7]] rfl (by (try simp only [List.map_toArray, List.map_cons, List.map_nil]); first | done | rfl | (simp only [List.length_drop, List.length_take]; rfl)) ?_; (refine (dir_Put.calls _ _ ([] : List (S25)) (⟨#[98]⟩ : ByteArray) 1 7 t126 t129 _ ?side1 ?side2 A1.out).mono ?_); (case side1 => exact Kd.C_nil _ _); (case side2 => exact Nat.le_refl _); rintro e w39 ⟨v127, rfl, ho0, hb⟩; refine ⟨_, rfl, ?_⟩; have n0_ := Aside0.mk (Kd.R_lower ho0 (below_size (by repeat (first | (with_reducible first | exact HB.out | apply below_alloc | apply pw_below_drewN | apply below_drew1) | exact HB.out)))); have n1_ := Aside0.mk (below_step (by repeat (first | (with_reducible first | exact HB.out | apply below_alloc | apply pw_below_drewN | apply below_drew1) | exact HB.out)) hb); clear HB; have HO128 := n0_; have HB := n1_; clear n0_ n1_; (try clear hb); (try clear hb2); (try clear hk); (try clear hi); (try clear ho0); obtain ⟨Ao40, co40, eo40⟩ := Kd.R_slice HO128.out; subst eo40) | ((with_reducible refine gate_callee (f := 11) rfl ?_); refine goesL_ (some 17) rfl rfl Tryd.func11 (by kernel_rfl) rfl #[.slice Ao40 t126.length co40, .agg #[.string (⟨#[97]⟩ : ByteArray), .int .i64 2, .int .i64 9]] rfl (by (try simp only [List.map_toArray, List.map_cons, List.map_nil]); first | done | rfl | (simp only [List.length_drop, List.length_take]; rfl)) ?_; (with_reducible refine (dir_Put.calls _ _ t126 (⟨#[97]⟩ : ByteArray) 2 9 t130 t133 _ ?side1 ?side2 A2.out).mono ?_); (case side1 => repeat (first | exact (Kd.R_reads' HO128.out).2.2 | (with_reducible refine Kd.C_alloc ?_ _) | (with_reducible refine Kd.C_drewN ?_ _) | (with_reducible refine Kd.C_drew ?_))); (case side2 => exact (Kd.R_reads' HO128.out).2.1); rintro e w41 ⟨v131, rfl, ho0, hb⟩; refine ⟨_, rfl, ?_⟩; have n0_ := Aside0.mk (Kd.R_elder' (by (with_reducible repeat (first | apply Kd.R_alloc | apply Kd.R_drewN | apply Kd.R_drew)); exact HO128.out) (Kd.R_base ho0) hb); have n1_ := Aside0.mk (Kd.R_lower (Kd.R_new' ho0 (Kd.R_lt (by (with_reducible repeat (first | apply Kd.R_alloc | apply Kd.R_drewN | apply Kd.R_drew)); exact HO128.out))) (below_size (by repeat (first | (with_reducible first | exact HB.out | apply below_alloc | apply pw_below_drewN | apply below_drew1) | exact HB.out)))); have n2_ := Aside0.mk (below_step (by repeat (first | (with_reducible first | exact HB.out | apply below_alloc | apply pw_below_drewN | apply below_drew1) | exact HB.out)) hb); clear HO128; clear HB; have HO128 := n0_; have HO132 := n1_; have HB := n2_; clear n0_ n1_ n2_; (try clear hb); (try clear hb2); (try clear hk); (try clear hi); (try clear ho0); obtain ⟨Ao42, co42, eo42⟩ := Kd.R_slice HO132.out; subst eo42) | ((with_reducible refine gate_callee (f := 15) rfl ?_); refine goesL_ (some 22) rfl rfl Tryd.func15 (by kernel_rfl) rfl #[.slice Ao42 t130.length co42] rfl (by (try simp only [List.map_toArray, List.map_cons, List.map_nil]); first | done | rfl | (simp only [List.length_drop, List.length_take]; rfl)) ?_; (with_reducible refine (dir_Encode.calls _ _ t130 t134 t135 _ ?side1 ?side2 A3.out).mono ?_); (case side1 => repeat (first | exact (Kd.R_reads' HO132.out).2.2 | (with_reducible refine Kd.C_alloc ?_ _) | (with_reducible refine Kd.C_drewN ?_ _) | (with_reducible refine Kd.C_drew ?_))); (case side2 => exact (Kd.R_reads' HO132.out).2.1); rintro e w43 ⟨rfl, hb⟩; refine ⟨_, rfl, ?_⟩; have n0_ := Aside0.mk (Kd.R_below (by (with_reducible repeat (first | apply Kd.R_alloc | apply Kd.R_drewN | apply Kd.R_drew)); exact HO128.out) hb); have n1_ := Aside0.mk (Kd.R_below (by (with_reducible repeat (first | apply Kd.R_alloc | apply Kd.R_drewN | apply Kd.R_drew)); exact HO132.out) hb); have n2_ := Aside0.mk (below_step (by repeat (first | (with_reducible first | exact HB.out | apply below_alloc | apply pw_below_drewN | apply below_drew1) | exact HB.out)) hb); clear HO128; clear HO132; clear HB; have HO128 := n0_; have HO132 := n1_; have HB := n2_; clear n0_ n1_ n2_; (try clear hb); (try clear hb2); (try clear hk); (try clear hi)) | ((with_reducible refine gate_callee (f := 24) rfl ?_); refine goesL_ (some 26) rfl rfl Tryd.func24 (by kernel_rfl) rfl #[.string (⟨#[47, 97, 47, 47, 46, 47, 98, 47, 46, 46, 47, 99]⟩ : ByteArray)] rfl (by (try simp only [List.map_toArray, List.map_cons, List.map_nil]); first | done | rfl | (simp only [List.length_drop, List.length_take]; rfl)) ?_; (with_reducible refine (dir_Split.calls (⟨#[47, 97, 47, 47, 46, 47, 98, 47, 46, 46, 47, 99]⟩ : ByteArray) t136 t137 _ A4.out).mono ?_); rintro e w44 ⟨v138, rfl, ho0, hb⟩; refine ⟨_, rfl, ?_⟩; have n0_ := Aside0.mk (Kd.R_below (by (with_reducible repeat (first | apply Kd.R_alloc | apply Kd.R_drewN | apply Kd.R_drew)); exact HO128.out) hb); have n1_ := Aside0.mk (Kd.R_below (by (with_reducible repeat (first | apply Kd.R_alloc | apply Kd.R_drewN | apply Kd.R_drew)); exact HO132.out) hb); have n2_ := Aside0.mk (Kd.R_lower ho0 (below_size (by repeat (first | (with_reducible first | exact HB.out | apply below_alloc | apply pw_below_drewN | apply below_drew1) | exact HB.out)))); have n3_ := Aside0.mk (below_step (by repeat (first | (with_reducible first | exact HB.out | apply below_alloc | apply pw_below_drewN | apply below_drew1) | exact HB.out)) hb); clear HO128; clear HO132; clear HB; have HO128 := n0_; have HO132 := n1_; have HO139 := n2_; have HB := n3_; clear n0_ n1_ n2_ n3_; (try clear hb); (try clear hb2); (try clear hk); (try clear hi); (try clear ho0)))
      go_ret
      exact ⟨by first | rfl | (simp [errW_none, errW_some] <;> rfl) | (simp [*, errW_none, errW_some] <;> rfl), by repeat (first | (with_reducible first | exact HB.out | apply below_alloc | apply pw_below_drewN | apply below_drew1) | exact HB.out)⟩
  · rw [if_neg c5] at H
    have c5b0 : (t129 == 0) = false := beq_eq_false_iff_ne.mpr c5
    have c5b1 : (t129 != 0) = true := bne_iff_ne.mpr c5
    obtain rfl := Option.some.inj H
    go_enter Tryd.func10, Tryd.ntmps10
    go_wp2_with (first | ((with_reducible refine gate_callee (f := 11) rfl ?_); refine goesL_ (some 11) rfl rfl Tryd.func11 (by kernel_rfl) rfl #[.slice none 0 0, .agg #[.string (⟨#[98]⟩ : ByteArray), .int .i64 1, .int .i64 7]] rfl (by (try simp only [List.map_toArray, List.map_cons, List.map_nil]); first | done | rfl | (simp only [List.length_drop, List.length_take]; rfl)) ?_; (refine (dir_Put.calls _ _ ([] : List (S25)) (⟨#[98]⟩ : ByteArray) 1 7 t126 t129 _ ?side1 ?side2 A1.out).mono ?_); (case side1 => exact Kd.C_nil _ _); (case side2 => exact Nat.le_refl _); rintro e w45 ⟨v127, rfl, ho0, hb⟩; refine ⟨_, rfl, ?_⟩; have n0_ := Aside0.mk (Kd.R_lower ho0 (below_size (by repeat (first | (with_reducible first | exact HB.out | apply below_alloc | apply pw_below_drewN | apply below_drew1) | exact HB.out)))); have n1_ := Aside0.mk (below_step (by repeat (first | (with_reducible first | exact HB.out | apply below_alloc | apply pw_below_drewN | apply below_drew1) | exact HB.out)) hb); clear HB; have HO128 := n0_; have HB := n1_; clear n0_ n1_; (try clear hb); (try clear hb2); (try clear hk); (try clear hi); (try clear ho0); obtain ⟨Ao46, co46, eo46⟩ := Kd.R_slice HO128.out; subst eo46) | ((with_reducible refine gate_callee (f := 11) rfl ?_); refine goesL_ (some 17) rfl rfl Tryd.func11 (by kernel_rfl) rfl #[.slice Ao46 t126.length co46, .agg #[.string (⟨#[97]⟩ : ByteArray), .int .i64 2, .int .i64 9]] rfl (by (try simp only [List.map_toArray, List.map_cons, List.map_nil]); first | done | rfl | (simp only [List.length_drop, List.length_take]; rfl)) ?_; (with_reducible refine (dir_Put.calls _ _ t126 (⟨#[97]⟩ : ByteArray) 2 9 t130 t133 _ ?side1 ?side2 A2.out).mono ?_); (case side1 => repeat (first | exact (Kd.R_reads' HO128.out).2.2 | (with_reducible refine Kd.C_alloc ?_ _) | (with_reducible refine Kd.C_drewN ?_ _) | (with_reducible refine Kd.C_drew ?_))); (case side2 => exact (Kd.R_reads' HO128.out).2.1); rintro e w47 ⟨v131, rfl, ho0, hb⟩; refine ⟨_, rfl, ?_⟩; have n0_ := Aside0.mk (Kd.R_elder' (by (with_reducible repeat (first | apply Kd.R_alloc | apply Kd.R_drewN | apply Kd.R_drew)); exact HO128.out) (Kd.R_base ho0) hb); have n1_ := Aside0.mk (Kd.R_lower (Kd.R_new' ho0 (Kd.R_lt (by (with_reducible repeat (first | apply Kd.R_alloc | apply Kd.R_drewN | apply Kd.R_drew)); exact HO128.out))) (below_size (by repeat (first | (with_reducible first | exact HB.out | apply below_alloc | apply pw_below_drewN | apply below_drew1) | exact HB.out)))); have n2_ := Aside0.mk (below_step (by repeat (first | (with_reducible first | exact HB.out | apply below_alloc | apply pw_below_drewN | apply below_drew1) | exact HB.out)) hb); clear HO128; clear HB; have HO128 := n0_; have HO132 := n1_; have HB := n2_; clear n0_ n1_ n2_; (try clear hb); (try clear hb2); (try clear hk); (try clear hi); (try clear ho0); obtain ⟨Ao48, co48, eo48⟩ := Kd.R_slice HO132.out; subst eo48) | ((with_reducible refine gate_callee (f := 15) rfl ?_); refine goesL_ (some 22) rfl rfl Tryd.func15 (by kernel_rfl) rfl #[.slice Ao48 t130.length co48] rfl (by (try simp only [List.map_toArray, List.map_cons, List.map_nil]); first | done | rfl | (simp only [List.length_drop, List.length_take]; rfl)) ?_; (with_reducible refine (dir_Encode.calls _ _ t130 t134 t135 _ ?side1 ?side2 A3.out).mono ?_); (case side1 => repeat (first | exact (Kd.R_reads' HO132.out).2.2 | (with_reducible refine Kd.C_alloc ?_ _) | (with_reducible refine Kd.C_drewN ?_ _) | (with_reducible refine Kd.C_drew ?_))); (case side2 => exact (Kd.R_reads' HO132.out).2.1); rintro e w49 ⟨rfl, hb⟩; refine ⟨_, rfl, ?_⟩; have n0_ := Aside0.mk (Kd.R_below (by (with_reducible repeat (first | apply Kd.R_alloc | apply Kd.R_drewN | apply Kd.R_drew)); exact HO128.out) hb); have n1_ := Aside0.mk (Kd.R_below (by (with_reducible repeat (first | apply Kd.R_alloc | apply Kd.R_drewN | apply Kd.R_drew)); exact HO132.out) hb); have n2_ := Aside0.mk (below_step (by repeat (first | (with_reducible first | exact HB.out | apply below_alloc | apply pw_below_drewN | apply below_drew1) | exact HB.out)) hb); clear HO128; clear HO132; clear HB; have HO128 := n0_; have HO132 := n1_; have HB := n2_; clear n0_ n1_ n2_; (try clear hb); (try clear hb2); (try clear hk); (try clear hi)) | ((with_reducible refine gate_callee (f := 24) rfl ?_); refine goesL_ (some 26) rfl rfl Tryd.func24 (by kernel_rfl) rfl #[.string (⟨#[47, 97, 47, 47, 46, 47, 98, 47, 46, 46, 47, 99]⟩ : ByteArray)] rfl (by (try simp only [List.map_toArray, List.map_cons, List.map_nil]); first | done | rfl | (simp only [List.length_drop, List.length_take]; rfl)) ?_; (with_reducible refine (dir_Split.calls (⟨#[47, 97, 47, 47, 46, 47, 98, 47, 46, 46, 47, 99]⟩ : ByteArray) t136 t137 _ A4.out).mono ?_); rintro e w50 ⟨v138, rfl, ho0, hb⟩; refine ⟨_, rfl, ?_⟩; have n0_ := Aside0.mk (Kd.R_below (by (with_reducible repeat (first | apply Kd.R_alloc | apply Kd.R_drewN | apply Kd.R_drew)); exact HO128.out) hb); have n1_ := Aside0.mk (Kd.R_below (by (with_reducible repeat (first | apply Kd.R_alloc | apply Kd.R_drewN | apply Kd.R_drew)); exact HO132.out) hb); have n2_ := Aside0.mk (Kd.R_lower ho0 (below_size (by repeat (first | (with_reducible first | exact HB.out | apply below_alloc | apply pw_below_drewN | apply below_drew1) | exact HB.out)))); have n3_ := Aside0.mk (below_step (by repeat (first | (with_reducible first | exact HB.out | apply below_alloc | apply pw_below_drewN | apply below_drew1) | exact HB.out)) hb); clear HO128; clear HO132; clear HB; have HO128 := n0_; have HO132 := n1_; have HO139 := n2_; have HB := n3_; clear n0_ n1_ n2_ n3_; (try clear hb); (try clear hb2); (try clear hk); (try clear hi); (try clear ho0)))
    go_ret
    exact ⟨by first | rfl | (simp [errW_none, errW_some] <;> rfl) | (simp [*, errW_none, errW_some] <;> rfl), by repeat (first | (with_reducible first | exact HB.out | apply below_alloc | apply pw_below_drewN | apply below_drew1) | exact HB.out)⟩

end Go.Proofs.YtijnlgmclaphhaaDoorZ
-- Written by a program of this session (gprint.py, over the kit's printer).
namespace Go.Proofs.YtijnlgmclaphhaaDoorZ
open Go.RowKit Go.Proofs.YtijnlgmclaphhaaDoorW.PrintWords Go.Proofs.YtijnlgmclaphhaaDoorW.PrintLast Go.Proofs.YtijnlgmclaphhaaDoorW.PrintMore
attribute [local go_sem] max2_int min2_int max_two min_two max_three min_three max_four min_four   -- for this text's walks alone
set_option linter.unusedVariables false
set_option linter.unusedSimpArgs false

theorem eqA25 (d : Nat) (w : World) (x0 y0 : ByteArray) (x1 y1 : Int) (x2 y2 : Int) :
    (Op.equalIn (d + 2) 25 (.agg #[.string x0, .int .i64 x1, .int .i64 x2]) (.agg #[.string y0, .int .i64 y1, .int .i64 y2])).run Tryd.prog w = .ok (x0.toList == y0.toList && (x1 == y1 && (x2 == y2))) w := by
  refine eqA_of Tryd.underlying25 (by kernel_rfl) ?_
  refine eqf_cons (by rfl) (by go_simp; rfl) (by go_simp; rfl) (by go_simp) ?_
  refine eqf_cons (by rfl) (by go_simp; rfl) (by go_simp; rfl) (by go_simp) ?_
  exact eqf_last (by rfl) (by go_simp; rfl) (by go_simp; rfl) (by go_simp)
end Go.Proofs.YtijnlgmclaphhaaDoorZ
-- Written by a program of this session (gprint.py, over the kit's printer).
namespace Go.Proofs.YtijnlgmclaphhaaDoorZ
open Go.RowKit Go.Proofs.YtijnlgmclaphhaaDoorW.PrintWords Go.Proofs.YtijnlgmclaphhaaDoorW.PrintLast Go.Proofs.YtijnlgmclaphhaaDoorW.PrintMore
attribute [local go_sem] max2_int min2_int max_two min_two max_three min_three max_four min_four   -- for this text's walks alone
set_option linter.unusedVariables false
set_option linter.unusedSimpArgs false

attribute [local go_sem high] eqA25
/-! ### gatehouseref13_Same: function 12 -/
def gatehouseref13_Same.l0 : Nat → List (S25) → List (S25) → Int → Int → Option (Bool)
  | 0, _, _, _, _ => none
  | k + 1, x0, x1, x12, x13 => if x13 < x12 then (if 0 ≤ x13 then (if x13 < (x0.length : Int) then (if x13 < (x1.length : Int) then (if (!((((rd_T25 x0 x13).f0).toList) == (((rd_T25 x1 x13).f0).toList)) || (!(((rd_T25 x0 x13).f1) == ((rd_T25 x1 x13).f1)) || (!(((rd_T25 x0 x13).f2) == ((rd_T25 x1 x13).f2))))) = true then (some false) else (gatehouseref13_Same.l0 k x0 x1 x12 (wrap64 (x13 + 1)))) else (none)) else (none)) else (none)) else (some true)
def gatehouseref13_Same.f (k : Nat) (l0 : List (S25)) (l1 : List (S25)) : Option (Bool) := if (l0.length : Int) = (l1.length : Int) then (gatehouseref13_Same.l0 k l0 l1 (l0.length : Int) 0) else (some false)
theorem gatehouseref13_Same.mono_l : ∀ k, (∀ y0 y1 y2 y3, LeO (gatehouseref13_Same.l0 k y0 y1 y2 y3) (gatehouseref13_Same.l0 (k + 1) y0 y1 y2 y3))
  | 0 => fun _ _ _ _ r h => by simp [gatehouseref13_Same.l0] at h
  | k + 1 => by
    have ih0 := gatehouseref13_Same.mono_l k
    · intro y0 y1 y2 y3
      unfold gatehouseref13_Same.l0
      repeat' first
      | (with_reducible exact ih0 _ _ _ _)
      | (with_reducible exact LeO.refl _)
      | (with_reducible exact LeO.none _)
      | (with_reducible refine LeO.ite ?_ ?_)
      | (with_reducible refine LeO.bind ?_ (fun _ => ?_))
      | exact ih0 _ _ _ _
      | exact LeO.none _
      | refine LeO.ite ?_ ?_
      | refine LeO.bind ?_ (fun _ => ?_)
theorem gatehouseref13_Same.mono : ∀ a0 a1 k, LeO (gatehouseref13_Same.f k a0 a1) (gatehouseref13_Same.f (k + 1) a0 a1) := by
  intro a0 a1 k
  have ih0 := gatehouseref13_Same.mono_l k
  unfold gatehouseref13_Same.f
  repeat' first
      | (with_reducible exact ih0 _ _ _ _)
      | (with_reducible exact LeO.refl _)
      | (with_reducible exact LeO.none _)
      | (with_reducible refine LeO.ite ?_ ?_)
      | (with_reducible refine LeO.bind ?_ (fun _ => ?_))
      | exact ih0 _ _ _ _
      | exact LeO.none _
      | refine LeO.ite ?_ ?_
      | refine LeO.bind ?_ (fun _ => ?_)
set_option maxHeartbeats 8000000 in
set_option maxRecDepth 100000 in
theorem gatehouseref13_Same.calls (k : Nat) (A0 : Option Addr) (c0 : Nat) (l0 : List (S25)) (A1 : Option Addr) (c1 : Nat) (l1 : List (S25)) (r : Bool) (w : World) (hr0 : Kd.C k25 w A0 l0.length l0) (hc0 : l0.length ≤ c0) (hr1 : Kd.C k25 w A1 l1.length l1) (hc1 : l1.length ≤ c1) (h : gatehouseref13_Same.f k l0 l1 = some r) :
    Calls Tryd.prog 12 #[.slice A0 l0.length c0, .slice A1 l1.length c1] w fun e w' => e = .returned (.bool r) ∧ Drawn0 w w' := by
  have hu25 := Tryd.underlying25
  have HR0 := Aside0.mk hr0
  have HC0 := Aside0.mk hc0
  clear hr0 hc0
  have HR1 := Aside0.mk hr1
  have HC1 := Aside0.mk hc1
  clear hr1 hc1
  have H : (if (l0.length : Int) = (l1.length : Int) then (gatehouseref13_Same.l0 k l0 l1 (l0.length : Int) 0) else (some false)) = some r := h
  clear h
  by_cases c3 : (l0.length : Int) = (l1.length : Int)
  · rw [if_pos c3] at H
    have c3b0 : ((l0.length : Int) == (l1.length : Int)) = true := beq_iff_eq.mpr c3
    have c3b1 : ((l0.length : Int) != (l1.length : Int)) = false := bne_eq_false_iff_eq.mpr c3
    have c3b2 : (l0.length == l1.length) = true := by first | simpa using c3 | (simp at c3 ⊢; omega)
    clear c3
    have H' := Aside0.mk H
    clear H
    go_enter Tryd.func12, Tryd.ntmps12
    go_wp2
    repeat (go_quiet (fail); try go_wp2)
    go_loopg [13] k (fun kq v13 w' => ∃ (x13_1 : Int), v13 = .int .i64 x13_1 ∧ Aside0 (gatehouseref13_Same.l0 kq l0 l1 (l0.length : Int) x13_1 = some r) ∧ Aside0 (kq ≤ k) ∧ Drawn0 w w')
    case atStart => exact ⟨(0), (by first | rfl | (simp; done) | (simp [*]; done)), H', ⟨Nat.le_refl _⟩, by repeat (first | exact Drawn0.refl _ | apply Drawn0.step)⟩
    case round =>
      clear H'
      try clear c1
      try clear p2
      try clear c3
      try clear c3b0
      try clear c3b1
      try clear c3b2
      obtain ⟨x13_1, rfl, HA, HK1, ⟨m1, rfl⟩⟩ := hrel
      cases gk with
      | zero => exact absurd HA.out (by simp [gatehouseref13_Same.l0])
      | succ k1 =>
        have H := HA.out
        clear HA
        simp only [gatehouseref13_Same.l0] at H
        by_cases c4 : x13_1 < (l0.length : Int)
        · rw [if_pos c4] at H
          have c4b0 : decide (x13_1 < (l0.length : Int)) = true := decide_eq_true c4
          clear c4
          by_cases c5 : 0 ≤ x13_1
          · rw [if_pos c5] at H
            have c5b0 : decide (0 ≤ x13_1) = true := decide_eq_true c5
            clear c5
            by_cases c6 : x13_1 < (l0.length : Int)
            · rw [if_pos c6] at H
              have c6b0 : decide (x13_1 < (l0.length : Int)) = true := decide_eq_true c6
              clear c6
              by_cases c7 : x13_1 < (l1.length : Int)
              · rw [if_pos c7] at H
                have c7b0 : decide (x13_1 < (l1.length : Int)) = true := decide_eq_true c7
                clear c7
                by_cases c8 : (!((((rd_T25 l0 x13_1).f0).toList) == (((rd_T25 l1 x13_1).f0).toList)) || (!(((rd_T25 l0 x13_1).f1) == ((rd_T25 l1 x13_1).f1)) || (!(((rd_T25 l0 x13_1).f2) == ((rd_T25 l1 x13_1).f2))))) = true
                · rw [if_pos c8] at H
                  have c8b0 : (!((((rd_T25 l0 x13_1).f0).toList) == (((rd_T25 l1 x13_1).f0).toList)) || (!(((rd_T25 l0 x13_1).f1) == ((rd_T25 l1 x13_1).f1)) || (!(((rd_T25 l0 x13_1).f2) == ((rd_T25 l1 x13_1).f2))))) = true := c8
                  clear c8
                  obtain rfl := Option.some.inj H
                  have p144 : 0 ≤ (x13_1 : Int) := of_decide_eq_true (by first | (with_reducible assumption) | assumption)
                  have q144 : x13_1 < (l0.length : Int) := of_decide_eq_true (by first | (with_reducible assumption) | assumption)
                  obtain ⟨ad144, e144, hx144_0, hx144_1, hx144_2⟩ := at_T25 HR0.out x13_1 p144 q144
                  cases e144
                  replace p144 := eq_true p144
                  replace q144 := eq_true q144
                  have p145 : 0 ≤ (x13_1 : Int) := of_decide_eq_true (by first | (with_reducible assumption) | assumption)
                  have q145 : x13_1 < (l1.length : Int) := of_decide_eq_true (by first | (with_reducible assumption) | assumption)
                  obtain ⟨ad145, e145, hx145_0, hx145_1, hx145_2⟩ := at_T25 HR1.out x13_1 p145 q145
                  cases e145
                  replace p145 := eq_true p145
                  replace q145 := eq_true q145
                  go_wp2
                  repeat (go_quiet (fail); try go_wp2)
                  go_ret
                  exact ⟨by first | rfl | (simp; done) | (simp [*]; done), by repeat (first | exact Drawn0.refl _ | apply Drawn0.step)⟩
                · rw [if_neg c8] at H
                  have c8b0 : (!((((rd_T25 l0 x13_1).f0).toList) == (((rd_T25 l1 x13_1).f0).toList)) || (!(((rd_T25 l0 x13_1).f1) == ((rd_T25 l1 x13_1).f1)) || (!(((rd_T25 l0 x13_1).f2) == ((rd_T25 l1 x13_1).f2))))) = false := by simpa using c8
                  clear c8
                  have H' := Aside0.mk H
                  clear H
                  have p144 : 0 ≤ (x13_1 : Int) := of_decide_eq_true (by first | (with_reducible assumption) | assumption)
                  have q144 : x13_1 < (l0.length : Int) := of_decide_eq_true (by first | (with_reducible assumption) | assumption)
                  obtain ⟨ad144, e144, hx144_0, hx144_1, hx144_2⟩ := at_T25 HR0.out x13_1 p144 q144
                  cases e144
                  replace p144 := eq_true p144
                  replace q144 := eq_true q144
                  have p145 : 0 ≤ (x13_1 : Int) := of_decide_eq_true (by first | (with_reducible assumption) | assumption)
                  have q145 : x13_1 < (l1.length : Int) := of_decide_eq_true (by first | (with_reducible assumption) | assumption)
                  obtain ⟨ad145, e145, hx145_0, hx145_1, hx145_2⟩ := at_T25 HR1.out x13_1 p145 q145
                  cases e145
                  replace p145 := eq_true p145
                  replace q145 := eq_true q145
                  go_wp2
                  repeat (go_quiet (fail); try go_wp2)
                  go_roundg k1
                  case measure => have := HK1.out; omega
                  case rel => exact ⟨(wrap64 (x13_1 + 1)), (by first | rfl | (simp; done) | (simp [*]; done)), H', ⟨by have := HK1.out; omega⟩, by repeat (first | exact Drawn0.refl _ | apply Drawn0.step)⟩
              · rw [if_neg c7] at H
                exact absurd H (by simp)
            · rw [if_neg c6] at H
              exact absurd H (by simp)
          · rw [if_neg c5] at H
            exact absurd H (by simp)
        · rw [if_neg c4] at H
          have c4b0 : decide (x13_1 < (l0.length : Int)) = false := decide_eq_false c4
          clear c4
          obtain rfl := Option.some.inj H
          go_wp2
          repeat (go_quiet (fail); try go_wp2)
          go_ret
          exact ⟨by first | rfl | (simp; done) | (simp [*]; done), by repeat (first | exact Drawn0.refl _ | apply Drawn0.step)⟩
  · rw [if_neg c3] at H
    have c3b0 : ((l0.length : Int) == (l1.length : Int)) = false := beq_eq_false_iff_ne.mpr c3
    have c3b1 : ((l0.length : Int) != (l1.length : Int)) = true := bne_iff_ne.mpr c3
    have c3b2 : (l0.length == l1.length) = false := by first | simpa using c3 | (simp at c3 ⊢; omega)
    obtain rfl := Option.some.inj H
    go_enter Tryd.func12, Tryd.ntmps12
    go_wp2
    repeat (go_quiet (fail); try go_wp2)
    go_ret
    exact ⟨by first | rfl | (simp; done) | (simp [*]; done), by repeat (first | exact Drawn0.refl _ | apply Drawn0.step)⟩

end Go.Proofs.YtijnlgmclaphhaaDoorZ
set_option linter.unusedVariables false
set_option linter.unusedSimpArgs false
/-! Plain laws of directories: what Put leaves, one order alone, the example. -/
namespace Go.Proofs.YtijnlgmclaphhaaDoor
open Go Go.RowKit Go.Proofs.YtijnlgmclaphhaaDoorZ Go.Proofs.YtijnlgmclaphhaaDoorW.PrintWords

theorem lives_5 : gatehouselaw13_lives.f 5 = some true := by kernel_rfl
theorem lives_f (k : Nat) (h : 5 ≤ k) : gatehouselaw13_lives.f k = some true := at_rounds gatehouselaw13_lives.mono h lives_5

def eqN (x y : Nm) : Bool := x.f0.toList == y.f0.toList && (x.f1 == y.f1 && (x.f2 == y.f2))
theorem eqN_iff (x y : Nm) : eqN x y = true ↔ x = y := by
  unfold eqN
  simp only [Bool.and_eq_true, beq_iff_eq]
  constructor
  · rintro ⟨h1, h2, h3⟩
    cases x; cases y
    simp only at h1 h2 h3
    rw [toList_inj h1, h2, h3]
  · rintro rfl; exact ⟨rfl, rfl, rfl⟩
def sameL : List Nm → List Nm → Bool
  | [], [] => true
  | x :: l, y :: m => eqN x y && sameL l m
  | _, _ => false
theorem sameL_iff : ∀ l m : List Nm, sameL l m = true ↔ l = m
  | [], [] => by simp [sameL]
  | [], _ :: _ => by simp [sameL]
  | _ :: _, [] => by simp [sameL]
  | x :: l, y :: m => by
    unfold sameL
    rw [Bool.and_eq_true, eqN_iff, sameL_iff l m, List.cons.injEq]
theorem sameL_self (l : List Nm) : sameL l l = true := (sameL_iff l l).2 rfl
theorem sameL_len {l m : List Nm} (h : l.length ≠ m.length) : sameL l m = false := by
  cases hq : sameL l m with
  | false => rfl
  | true => exact absurd (congrArg List.length ((sameL_iff l m).1 hq)) h
theorem same_loop (l m : List Nm) (he : l.length = m.length) (hl : l.length ≤ 4398046511104) (n : Nat) : ∀ (k i : Nat), l.length - i = n → i ≤ l.length → n < k → gatehouseref13_Same.l0 k l m (l.length : Int) (i : Int) = some (sameL (l.drop i) (m.drop i)) := by
  induction n with
  | zero =>
    intro k i h hi hk
    obtain ⟨k, rfl⟩ : ∃ q, k = q + 1 := ⟨k - 1, by omega⟩
    obtain rfl : i = l.length := by omega
    simp only [gatehouseref13_Same.l0]
    rw [if_neg (by omega), List.drop_length, he, List.drop_length]; rfl
  | succ n ih =>
    intro k i h hi hk
    obtain ⟨k, rfl⟩ : ∃ q, k = q + 1 := ⟨k - 1, by omega⟩
    have hlt : i < l.length := by omega
    have hlm : i < m.length := by omega
    simp only [gatehouseref13_Same.l0]
    rw [if_pos (by omega), if_pos (by omega), if_pos (by omega), if_pos (by omega), rd_at l i hlt, rd_at m i hlm, List.drop_eq_getElem_cons hlt, List.drop_eq_getElem_cons hlm, w64 (x := (i : Int) + 1) (by omega) (by omega)]
    have e : sameL (l[i] :: l.drop (i + 1)) (m[i] :: m.drop (i + 1)) = (eqN l[i] m[i] && sameL (l.drop (i + 1)) (m.drop (i + 1))) := rfl
    rw [e]
    have e2 : (!((l[i]).f0.toList == (m[i]).f0.toList) || (!((l[i]).f1 == (m[i]).f1) || !((l[i]).f2 == (m[i]).f2))) = !eqN l[i] m[i] := by unfold eqN; simp only [Bool.not_and]
    rw [e2]
    cases eqN l[i] m[i] with
    | false => rw [if_pos (show (!false) = true from rfl)]; rfl
    | true => rw [if_neg (by simp), Bool.true_and]; exact ih k (i + 1) (by omega) (by omega) (by omega)
theorem same_f (l m : List Nm) (hl : l.length ≤ 4398046511104) (k : Nat) (hk : l.length < k) : gatehouseref13_Same.f k l m = some (sameL l m) := by
  unfold gatehouseref13_Same.f
  by_cases he : l.length = m.length
  · rw [if_pos (by omega)]
    exact same_loop l m he hl l.length k 0 (by omega) (by omega) hk
  · rw [if_neg (by omega), sameL_len he]

theorem ord_cons {x : Nm} {l : List Nm} {b : ByteArray} : ordFrom b (x :: l) = true ↔ okN x = true ∧ blt b x.f0 = true ∧ ordFrom x.f0 l = true := by
  show (okN x && blt b x.f0 && ordFrom x.f0 l) = true ↔ _
  rw [Bool.and_eq_true, Bool.and_eq_true, and_assoc]
theorem ord_weaken {l : List Nm} {b c : ByteArray} (h : ordFrom b l = true) (hc : blt c b = true) : ordFrom c l = true := by
  cases l with
  | nil => rfl
  | cons x l => rw [ord_cons] at h ⊢; exact ⟨h.1, blt_tr hc h.2.1, h.2.2⟩
/-- One order alone. -/
theorem ord_unique : ∀ (l m : List Nm) (b c : ByteArray), ordFrom b l = true → ordFrom c m = true → (∀ x, x ∈ l ↔ x ∈ m) → l = m
  | [], [], _, _, _, _, _ => rfl
  | [], y :: m, _, _, _, _, h => absurd ((h y).2 (by simp)) (by simp)
  | x :: l, [], _, _, _, _, h => absurd ((h x).1 (by simp)) (by simp)
  | x :: l, y :: m, b, c, hl, hm, h => by
    rw [ord_cons] at hl hm
    have gx : ∀ z ∈ l, blt x.f0 z.f0 = true := ord_gt hl.2.2
    have gy : ∀ z ∈ m, blt y.f0 z.f0 = true := ord_gt hm.2.2
    have e : x = y := by
      rcases List.mem_cons.1 ((h x).1 (by simp)) with rfl | hx
      · rfl
      · rcases List.mem_cons.1 ((h y).2 (by simp)) with rfl | hy
        · rfl
        · have := blt_tr (gy x hx) (gx y hy)
          rw [blt_irr] at this; cases this
    subst e
    rw [ord_unique l m _ _ hl.2.2 hm.2.2 fun z => ?_]
    constructor
    · intro hz
      rcases List.mem_cons.1 ((h z).1 (List.mem_cons_of_mem _ hz)) with rfl | h'
      · have := gx z hz; rw [blt_irr] at this; cases this
      · exact h'
    · intro hz
      rcases List.mem_cons.1 ((h z).2 (List.mem_cons_of_mem _ hz)) with rfl | h'
      · have := gy z hz; rw [blt_irr] at this; cases this
      · exact h'
theorem atI_cons (x : Nm) (l : List Nm) (s : ByteArray) : atI (x :: l) s = if blt x.f0 s = true then atI l s + 1 else 0 := by
  unfold atI
  rw [List.takeWhile_cons]
  split
  · rw [List.length_cons]
  · rfl
theorem insL_cons (x : Nm) (l : List Nm) (m : Nm) : insL (x :: l) m = if blt x.f0 m.f0 = true then x :: insL l m else m :: x :: l := by
  unfold insL
  rw [atI_cons]
  split <;> rfl
theorem insL_perm (l : List Nm) (m : Nm) : (insL l m).Perm (m :: l) := by
  unfold insL
  have := List.perm_middle (a := m) (l₁ := l.take (atI l m.f0)) (l₂ := l.drop (atI l m.f0))
  rwa [List.take_append_drop] at this
theorem insL_ord : ∀ (l : List Nm) (m : Nm) (b : ByteArray), ordFrom b l = true → okN m = true → blt b m.f0 = true → hasN l m.f0 = false → ordFrom b (insL l m) = true
  | [], m, b, _, hm, hb, _ => by
    show ordFrom b [m] = true
    rw [ord_cons]; exact ⟨hm, hb, rfl⟩
  | x :: l, m, b, hl, hm, hb, hn => by
    rw [ord_cons] at hl
    have hn' : (x.f0.toList == m.f0.toList) = false ∧ hasN l m.f0 = false := by
      unfold hasN at hn
      rw [List.any_cons, Bool.or_eq_false_iff] at hn
      exact hn
    rw [insL_cons]
    split
    · rename_i h
      rw [ord_cons]
      exact ⟨hl.1, hl.2.1, insL_ord l m _ hl.2.2 hm h hn'.2⟩
    · rename_i h
      have h1 : blt m.f0 x.f0 = true := by
        cases h2 : blt m.f0 x.f0 with
        | true => rfl
        | false =>
          have := blt_tri (by simpa using h) h2
          rw [this] at hn'
          simp at hn'
      rw [ord_cons, ord_cons]
      exact ⟨hm, hb, hl.1, h1, hl.2.2⟩
theorem sizeN_perm {l m : List Nm} (h : l.Perm m) : sizeN l = sizeN m := by
  unfold sizeN
  exact (h.map _).sum_nat
theorem sizeN_ins (l : List Nm) (m : Nm) : sizeN (insL l m) = sizeN l + (10 + m.f0.size) := by
  rw [sizeN_perm (insL_perm l m), sizeN_cons]; omega
theorem right_nil : rightL [] = true := rfl
theorem insL_right {l : List Nm} {m : Nm} (hr : rightL l = true) (hm : okN m = true) (hn : hasN l m.f0 = false) (hz : sizeN l + (10 + m.f0.size) ≤ 4096) : rightL (insL l m) = true := by
  unfold rightL ordL
  rw [insL_ord l m _ (right_ord hr).1 hm (blt_empty (okN_size hm).1) hn, sizeN_ins, decide_eq_true hz]; rfl
theorem putL_ok {l : List Nm} {m : Nm} (hr : rightL l = true) (hm : okN m = true) (hn : hasN l m.f0 = false) (hz : sizeN l + (10 + m.f0.size) ≤ 4096) : putL l m = (insL l m, 0) := by
  unfold putL
  rw [if_pos hr, if_pos hm, if_neg (by rw [hn]; simp), if_neg (by omega)]
theorem putL_zero {l : List Nm} {m : Nm} (h : (putL l m).2 = 0) : rightL l = true ∧ okN m = true ∧ hasN l m.f0 = false ∧ sizeN l + (10 + m.f0.size) ≤ 4096 ∧ putL l m = (insL l m, 0) := by
  unfold putL at h ⊢
  split at h
  · split at h
    · split at h
      · simp at h
      · split at h
        · simp at h
        · rename_i h1 h2 h3 h4
          rw [if_pos h1, if_pos h2, if_neg h3, if_neg h4]
          exact ⟨h1, h2, by simpa using h3, by omega, rfl⟩
    · simp at h
  · simp at h
theorem hasN_iff_mem (l : List Nm) (s : ByteArray) : hasN l s = true ↔ ∃ x ∈ l, x.f0 = s := by
  unfold hasN
  rw [List.any_eq_true]
  constructor
  · rintro ⟨x, hx, h⟩; exact ⟨x, hx, toList_inj (beq_iff_eq.1 h)⟩
  · rintro ⟨x, hx, rfl⟩; exact ⟨x, hx, by simp⟩
theorem hasN_perm {l m : List Nm} (h : l.Perm m) (s : ByteArray) : hasN l s = hasN m s := by
  cases h1 : hasN l s <;> cases h2 : hasN m s <;> try rfl
  · obtain ⟨x, hx, e⟩ := (hasN_iff_mem m s).1 h2
    rw [(hasN_iff_mem l s).2 ⟨x, h.mem_iff.2 hx, e⟩] at h1; cases h1
  · obtain ⟨x, hx, e⟩ := (hasN_iff_mem l s).1 h1
    rw [(hasN_iff_mem m s).2 ⟨x, h.mem_iff.1 hx, e⟩] at h2; cases h2
end Go.Proofs.YtijnlgmclaphhaaDoor
-- Written by a program of this session (gprint.py, over the kit's printer).
namespace Go.Proofs.YtijnlgmclaphhaaDoorZ
open Go.RowKit Go.Proofs.YtijnlgmclaphhaaDoorW.PrintWords Go.Proofs.YtijnlgmclaphhaaDoorW.PrintLast Go.Proofs.YtijnlgmclaphhaaDoorW.PrintMore
attribute [local go_sem] max2_int min2_int max_two min_two max_three min_three max_four min_four   -- for this text's walks alone
set_option linter.unusedVariables false
set_option linter.unusedSimpArgs false

/-! ### gatehouselaw13_DirWays: function 8 -/
mutual
def gatehouselaw13_DirWays.j0 : Nat → Int → List ByteArray → Bool → Option (Bool)
  | 0, _, _, _ => none
  | k + 1, x1, x5, x60 => if x60 = true then (some false) else (gatehouselaw13_DirWays.l0 k x1 x5 (⟨#[]⟩ : ByteArray) x5 (x5.length : Int) 0)
def gatehouselaw13_DirWays.l0 : Nat → Int → List ByteArray → ByteArray → List ByteArray → Int → Int → Option (Bool)
  | 0, _, _, _, _, _, _ => none
  | k + 1, x1, x5, x10, x61, x62, x63 => if x63 < x62 then (if 0 ≤ x63 then (if x63 < (x61.length : Int) then (if ((rdOf ByteArray.empty x61 x63).size : Int) < 1 then (gatehouselaw13_DirWays.j2 k x1 x5 x10 x63 (rdOf ByteArray.empty x61 x63) x61 x62 x63 true) else (gatehouselaw13_DirWays.j2 k x1 x5 x10 x63 (rdOf ByteArray.empty x61 x63) x61 x62 x63 (decide (((rdOf ByteArray.empty x61 x63).size : Int) > 32)))) else (none)) else (none)) else ((dir_Split.f x10).bind fun bt371 => (if (x10.size : Int) > 256 then (some true) else (if bt371.2 = 0 then ((gatehouseref13_SameTexts.f k bt371.1 x5).bind fun t375 => (some t375)) else (some false))))
def gatehouselaw13_DirWays.j2 : Nat → Int → List ByteArray → ByteArray → Int → ByteArray → List ByteArray → Int → Int → Bool → Option (Bool)
  | 0, _, _, _, _, _, _, _, _, _ => none
  | k + 1, x1, x5, x10, x11, x12, x61, x62, x63, x75 => if x75 = true then (some false) else (if 0 ≤ (IntKind.u64.wrap (Int.tmod (wrap64 (2 * x11)) 60)) then (if (Go.bits .and .i64 (shr .i64 x1 (IntKind.u64.wrap (Int.tmod (wrap64 (2 * x11)) 60))) 3) = 0 then (if 1 + x12.size ≤ 9223372036854775807 then (if x10.size + ((⟨#[47]⟩ : ByteArray) ++ x12).size ≤ 9223372036854775807 then (gatehouselaw13_DirWays.l0 k x1 x5 (x10 ++ ((⟨#[47]⟩ : ByteArray) ++ x12)) x61 x62 (wrap64 (x63 + 1))) else (none)) else (none)) else (if (Go.bits .and .i64 (shr .i64 x1 (IntKind.u64.wrap (Int.tmod (wrap64 (2 * x11)) 60))) 3) = 1 then (if 2 + x12.size ≤ 9223372036854775807 then (if ((⟨#[47, 47]⟩ : ByteArray) ++ x12).size + 2 ≤ 9223372036854775807 then (if x10.size + (((⟨#[47, 47]⟩ : ByteArray) ++ x12) ++ (⟨#[47, 46]⟩ : ByteArray)).size ≤ 9223372036854775807 then (gatehouselaw13_DirWays.l0 k x1 x5 (x10 ++ (((⟨#[47, 47]⟩ : ByteArray) ++ x12) ++ (⟨#[47, 46]⟩ : ByteArray))) x61 x62 (wrap64 (x63 + 1))) else (none)) else (none)) else (none)) else (if (Go.bits .and .i64 (shr .i64 x1 (IntKind.u64.wrap (Int.tmod (wrap64 (2 * x11)) 60))) 3) = 2 then (if 6 + x12.size ≤ 9223372036854775807 then (if x10.size + ((⟨#[47, 120, 47, 46, 46, 47]⟩ : ByteArray) ++ x12).size ≤ 9223372036854775807 then (gatehouselaw13_DirWays.l0 k x1 x5 (x10 ++ ((⟨#[47, 120, 47, 46, 46, 47]⟩ : ByteArray) ++ x12)) x61 x62 (wrap64 (x63 + 1))) else (none)) else (none)) else (if (Go.bits .and .i64 (shr .i64 x1 (IntKind.u64.wrap (Int.tmod (wrap64 (2 * x11)) 60))) 3) = 3 then (if 3 + x12.size ≤ 9223372036854775807 then (if ((⟨#[47, 46, 47]⟩ : ByteArray) ++ x12).size + 1 ≤ 9223372036854775807 then (if x10.size + (((⟨#[47, 46, 47]⟩ : ByteArray) ++ x12) ++ (⟨#[47]⟩ : ByteArray)).size ≤ 9223372036854775807 then (gatehouselaw13_DirWays.l0 k x1 x5 (x10 ++ (((⟨#[47, 46, 47]⟩ : ByteArray) ++ x12) ++ (⟨#[47]⟩ : ByteArray))) x61 x62 (wrap64 (x63 + 1))) else (none)) else (none)) else (none)) else (gatehouselaw13_DirWays.l0 k x1 x5 x10 x61 x62 (wrap64 (x63 + 1))))))) else (none))
end
def gatehouselaw13_DirWays.f (k : Nat) (a0 : ByteArray) (a1 : Int) : Option (Bool) := (gatehouselaw13_lives.f k).bind fun t360 => (if t360 = true then ((dir_Split.f a0).bind fun bt361 => (if bt361.2 = 0 then ((dir_Join.f bt361.1).bind fun t365 => (if (t365.size : Int) > 256 then (some ((t365.size : Int) == 257)) else ((dir_Split.f t365).bind fun bt366 => (if bt366.2 = 0 then ((gatehouseref13_SameTexts.f k bt366.1 bt361.1).bind fun t370 => (if t370 = true then (gatehouselaw13_DirWays.j0 k a1 bt361.1 (decide ((bt361.1.length : Int) > 16))) else (gatehouselaw13_DirWays.j0 k a1 bt361.1 true))) else (gatehouselaw13_DirWays.j0 k a1 bt361.1 true))))) else (if (bt361.1.length : Int) = 0 then (if bt361.2 = 32 then (some true) else (some (bt361.2 == 31))) else (some false)))) else (some false))
theorem gatehouselaw13_DirWays.mono_l : ∀ k, (∀ y0 y1 y2, LeO (gatehouselaw13_DirWays.j0 k y0 y1 y2) (gatehouselaw13_DirWays.j0 (k + 1) y0 y1 y2)) ∧ (∀ y0 y1 y2 y3 y4 y5, LeO (gatehouselaw13_DirWays.l0 k y0 y1 y2 y3 y4 y5) (gatehouselaw13_DirWays.l0 (k + 1) y0 y1 y2 y3 y4 y5)) ∧ (∀ y0 y1 y2 y3 y4 y5 y6 y7 y8, LeO (gatehouselaw13_DirWays.j2 k y0 y1 y2 y3 y4 y5 y6 y7 y8) (gatehouselaw13_DirWays.j2 (k + 1) y0 y1 y2 y3 y4 y5 y6 y7 y8))
  | 0 => ⟨fun _ _ _ r h => by simp [gatehouselaw13_DirWays.j0] at h, fun _ _ _ _ _ _ r h => by simp [gatehouselaw13_DirWays.l0] at h, fun _ _ _ _ _ _ _ _ _ r h => by simp [gatehouselaw13_DirWays.j2] at h⟩
  | k + 1 => by
    obtain ⟨ih0, ih1, ih2⟩ := gatehouselaw13_DirWays.mono_l k
    refine ⟨?_, ?_, ?_⟩
    · intro y0 y1 y2
      unfold gatehouselaw13_DirWays.j0
      repeat' first
      | (with_reducible exact ih0 _ _ _)
      | (with_reducible exact ih1 _ _ _ _ _ _)
      | (with_reducible exact ih2 _ _ _ _ _ _ _ _ _)
      | (with_reducible exact gatehouselaw13_lives.mono _)
      | (with_reducible exact gatehouseref13_SameTexts.mono _ _ _)
      | (with_reducible exact LeO.refl _)
      | (with_reducible exact LeO.none _)
      | (with_reducible refine LeO.ite ?_ ?_)
      | (with_reducible refine LeO.bind ?_ (fun _ => ?_))
      | exact ih0 _ _ _
      | exact ih1 _ _ _ _ _ _
      | exact ih2 _ _ _ _ _ _ _ _ _
      | exact gatehouselaw13_lives.mono _
      | exact gatehouseref13_SameTexts.mono _ _ _
      | exact LeO.none _
      | refine LeO.ite ?_ ?_
      | refine LeO.bind ?_ (fun _ => ?_)
    · intro y0 y1 y2 y3 y4 y5
      unfold gatehouselaw13_DirWays.l0
      repeat' first
      | (with_reducible exact ih0 _ _ _)
      | (with_reducible exact ih1 _ _ _ _ _ _)
      | (with_reducible exact ih2 _ _ _ _ _ _ _ _ _)
      | (with_reducible exact gatehouselaw13_lives.mono _)
      | (with_reducible exact gatehouseref13_SameTexts.mono _ _ _)
      | (with_reducible exact LeO.refl _)
      | (with_reducible exact LeO.none _)
      | (with_reducible refine LeO.ite ?_ ?_)
      | (with_reducible refine LeO.bind ?_ (fun _ => ?_))
      | exact ih0 _ _ _
      | exact ih1 _ _ _ _ _ _
      | exact ih2 _ _ _ _ _ _ _ _ _
      | exact gatehouselaw13_lives.mono _
      | exact gatehouseref13_SameTexts.mono _ _ _
      | exact LeO.none _
      | refine LeO.ite ?_ ?_
      | refine LeO.bind ?_ (fun _ => ?_)
    · intro y0 y1 y2 y3 y4 y5 y6 y7 y8
      unfold gatehouselaw13_DirWays.j2
      repeat' first
      | (with_reducible exact ih0 _ _ _)
      | (with_reducible exact ih1 _ _ _ _ _ _)
      | (with_reducible exact ih2 _ _ _ _ _ _ _ _ _)
      | (with_reducible exact gatehouselaw13_lives.mono _)
      | (with_reducible exact gatehouseref13_SameTexts.mono _ _ _)
      | (with_reducible exact LeO.refl _)
      | (with_reducible exact LeO.none _)
      | (with_reducible refine LeO.ite ?_ ?_)
      | (with_reducible refine LeO.bind ?_ (fun _ => ?_))
      | exact ih0 _ _ _
      | exact ih1 _ _ _ _ _ _
      | exact ih2 _ _ _ _ _ _ _ _ _
      | exact gatehouselaw13_lives.mono _
      | exact gatehouseref13_SameTexts.mono _ _ _
      | exact LeO.none _
      | refine LeO.ite ?_ ?_
      | refine LeO.bind ?_ (fun _ => ?_)
theorem gatehouselaw13_DirWays.mono : ∀ a0 a1 k, LeO (gatehouselaw13_DirWays.f k a0 a1) (gatehouselaw13_DirWays.f (k + 1) a0 a1) := by
  intro a0 a1 k
  obtain ⟨ih0, ih1, ih2⟩ := gatehouselaw13_DirWays.mono_l k
  unfold gatehouselaw13_DirWays.f
  repeat' first
      | (with_reducible exact ih0 _ _ _)
      | (with_reducible exact ih1 _ _ _ _ _ _)
      | (with_reducible exact ih2 _ _ _ _ _ _ _ _ _)
      | (with_reducible exact gatehouselaw13_lives.mono _)
      | (with_reducible exact gatehouseref13_SameTexts.mono _ _ _)
      | (with_reducible exact LeO.refl _)
      | (with_reducible exact LeO.none _)
      | (with_reducible refine LeO.ite ?_ ?_)
      | (with_reducible refine LeO.bind ?_ (fun _ => ?_))
      | exact ih0 _ _ _
      | exact ih1 _ _ _ _ _ _
      | exact ih2 _ _ _ _ _ _ _ _ _
      | exact gatehouselaw13_lives.mono _
      | exact gatehouseref13_SameTexts.mono _ _ _
      | exact LeO.none _
      | refine LeO.ite ?_ ?_
      | refine LeO.bind ?_ (fun _ => ?_)
set_option maxHeartbeats 8000000 in
set_option maxRecDepth 100000 in
theorem gatehouselaw13_DirWays.calls (k : Nat) (a0 : ByteArray) (a1 : Int) (r : Bool) (w : World) (h : gatehouselaw13_DirWays.f k a0 a1 = some r) :
    Calls Tryd.prog 8 #[.string a0, .int .i64 a1] w fun e w' => e = .returned (.bool r) ∧ Below w.heap.size w w' := by
  have HB := Aside0.mk (Below.refl w.heap.size w)
  have H : ((gatehouselaw13_lives.f k).bind fun t360 => (if t360 = true then ((dir_Split.f a0).bind fun bt361 => (if bt361.2 = 0 then ((dir_Join.f bt361.1).bind fun t365 => (if (t365.size : Int) > 256 then (some ((t365.size : Int) == 257)) else ((dir_Split.f t365).bind fun bt366 => (if bt366.2 = 0 then ((gatehouseref13_SameTexts.f k bt366.1 bt361.1).bind fun t370 => (if t370 = true then (gatehouselaw13_DirWays.j0 k a1 bt361.1 (decide ((bt361.1.length : Int) > 16))) else (gatehouselaw13_DirWays.j0 k a1 bt361.1 true))) else (gatehouselaw13_DirWays.j0 k a1 bt361.1 true))))) else (if (bt361.1.length : Int) = 0 then (if bt361.2 = 32 then (some true) else (some (bt361.2 == 31))) else (some false)))) else (some false))) = some r := h
  clear h
  replace H := Option.bind_eq_some_iff.mp H
  obtain ⟨t360, A30, H⟩ := H
  replace H : (if t360 = true then ((dir_Split.f a0).bind fun bt361 => (if bt361.2 = 0 then ((dir_Join.f bt361.1).bind fun t365 => (if (t365.size : Int) > 256 then (some ((t365.size : Int) == 257)) else ((dir_Split.f t365).bind fun bt366 => (if bt366.2 = 0 then ((gatehouseref13_SameTexts.f k bt366.1 bt361.1).bind fun t370 => (if t370 = true then (gatehouselaw13_DirWays.j0 k a1 bt361.1 (decide ((bt361.1.length : Int) > 16))) else (gatehouselaw13_DirWays.j0 k a1 bt361.1 true))) else (gatehouselaw13_DirWays.j0 k a1 bt361.1 true))))) else (if (bt361.1.length : Int) = 0 then (if bt361.2 = 32 then (some true) else (some (bt361.2 == 31))) else (some false)))) else (some false)) = some r := H
  have A3 := Aside0.mk A30
  clear A30
  by_cases c4 : t360 = true
  · subst c4
    have H1 : ((dir_Split.f a0).bind fun bt361 => (if bt361.2 = 0 then ((dir_Join.f bt361.1).bind fun t365 => (if (t365.size : Int) > 256 then (some ((t365.size : Int) == 257)) else ((dir_Split.f t365).bind fun bt366 => (if bt366.2 = 0 then ((gatehouseref13_SameTexts.f k bt366.1 bt361.1).bind fun t370 => (if t370 = true then (gatehouselaw13_DirWays.j0 k a1 bt361.1 (decide ((bt361.1.length : Int) > 16))) else (gatehouselaw13_DirWays.j0 k a1 bt361.1 true))) else (gatehouselaw13_DirWays.j0 k a1 bt361.1 true))))) else (if (bt361.1.length : Int) = 0 then (if bt361.2 = 32 then (some true) else (some (bt361.2 == 31))) else (some false)))) = some r := by rw [if_pos rfl] at H; exact H
    clear H
    have H := H1
    clear H1
    replace H := Option.bind_eq_some_iff.mp H
    obtain ⟨⟨t361, t362⟩, A50, H⟩ := H
    replace H : (if t362 = 0 then ((dir_Join.f t361).bind fun t365 => (if (t365.size : Int) > 256 then (some ((t365.size : Int) == 257)) else ((dir_Split.f t365).bind fun bt366 => (if bt366.2 = 0 then ((gatehouseref13_SameTexts.f k bt366.1 t361).bind fun t370 => (if t370 = true then (gatehouselaw13_DirWays.j0 k a1 t361 (decide ((t361.length : Int) > 16))) else (gatehouselaw13_DirWays.j0 k a1 t361 true))) else (gatehouselaw13_DirWays.j0 k a1 t361 true))))) else (if (t361.length : Int) = 0 then (if t362 = 32 then (some true) else (some (t362 == 31))) else (some false))) = some r := H
    have A5 := Aside0.mk A50
    clear A50
    by_cases c6 : t362 = 0
    · rw [if_pos c6] at H
      have c6b0 : (t362 == 0) = true := beq_iff_eq.mpr c6
      have c6b1 : (t362 != 0) = false := bne_eq_false_iff_eq.mpr c6
      clear c6
      replace H := Option.bind_eq_some_iff.mp H
      obtain ⟨t365, A70, H⟩ := H
      replace H : (if (t365.size : Int) > 256 then (some ((t365.size : Int) == 257)) else ((dir_Split.f t365).bind fun bt366 => (if bt366.2 = 0 then ((gatehouseref13_SameTexts.f k bt366.1 t361).bind fun t370 => (if t370 = true then (gatehouselaw13_DirWays.j0 k a1 t361 (decide ((t361.length : Int) > 16))) else (gatehouselaw13_DirWays.j0 k a1 t361 true))) else (gatehouselaw13_DirWays.j0 k a1 t361 true)))) = some r := H
      have A7 := Aside0.mk A70
      clear A70
      by_cases c8 : (t365.size : Int) > 256
      · rw [if_pos c8] at H
        have c8b0 : decide (256 < (t365.size : Int)) = true := decide_eq_true c8
        have c8b1 : decide (256 < t365.size) = true := decide_eq_true (by omega)
        clear c8
        obtain rfl := Option.some.inj H
        go_enter Tryd.func8, Tryd.ntmps8
        go_wp2_with (first | ((with_reducible refine gate_callee (f := 10) rfl ?_); refine goesL_ (some 15) rfl rfl Tryd.func10 (by kernel_rfl) rfl #[] rfl (by (try simp only [List.map_toArray, List.map_cons, List.map_nil]); first | done | rfl | (simp only [List.length_drop, List.length_take]; rfl)) ?_; (with_reducible refine (gatehouselaw13_lives.calls k  true _ A3.out).mono ?_); rintro e w9 ⟨rfl, hb⟩; refine ⟨_, rfl, ?_⟩; have n0_ := Aside0.mk (below_step (by repeat (first | (with_reducible first | exact HB.out | apply below_alloc | apply pw_below_drewN | apply below_drew1) | exact HB.out)) hb); clear HB; have HB := n0_; clear n0_; (try clear hb); (try clear hb2); (try clear hk); (try clear hi)) | ((with_reducible refine gate_callee (f := 24) rfl ?_); refine goesL_ (some 19) rfl rfl Tryd.func24 (by kernel_rfl) rfl #[.string a0] rfl (by (try simp only [List.map_toArray, List.map_cons, List.map_nil]); first | done | rfl | (simp only [List.length_drop, List.length_take]; rfl)) ?_; (with_reducible refine (dir_Split.calls a0 t361 t362 _ A5.out).mono ?_); rintro e w10 ⟨v363, rfl, ho0, hb⟩; refine ⟨_, rfl, ?_⟩; have n0_ := Aside0.mk (Kd.R_lower ho0 (below_size (by repeat (first | (with_reducible first | exact HB.out | apply below_alloc | apply pw_below_drewN | apply below_drew1) | exact HB.out)))); have n1_ := Aside0.mk (below_step (by repeat (first | (with_reducible first | exact HB.out | apply below_alloc | apply pw_below_drewN | apply below_drew1) | exact HB.out)) hb); clear HB; have HO364 := n0_; have HB := n1_; clear n0_ n1_; (try clear hb); (try clear hb2); (try clear hk); (try clear hi); (try clear ho0); obtain ⟨Ao11, co11, eo11⟩ := Kd.R_slice HO364.out; subst eo11) | ((with_reducible refine gate_callee (f := 27) rfl ?_); refine goesL_ (some 36) rfl rfl Tryd.func27 (by kernel_rfl) rfl #[.slice Ao11 t361.length co11] rfl (by (try simp only [List.map_toArray, List.map_cons, List.map_nil]); first | done | rfl | (simp only [List.length_drop, List.length_take]; rfl)) ?_; (with_reducible refine (dir_Join.calls _ _ t361 t365 _ ?side1 ?side2 A7.out).mono ?_); (case side1 => repeat (first | exact (Kd.R_reads' HO364.out).2.2 | (with_reducible refine Kd.C_alloc ?_ _) | (with_reducible refine Kd.C_drewN ?_ _) | (with_reducible refine Kd.C_drew ?_))); (case side2 => exact (Kd.R_reads' HO364.out).2.1); rintro e w12 ⟨rfl, hb⟩; refine ⟨_, rfl, ?_⟩; have n0_ := Aside0.mk (Kd.R_below (by (with_reducible repeat (first | apply Kd.R_alloc | apply Kd.R_drewN | apply Kd.R_drew)); exact HO364.out) hb); have n1_ := Aside0.mk (below_step (by repeat (first | (with_reducible first | exact HB.out | apply below_alloc | apply pw_below_drewN | apply below_drew1) | exact HB.out)) hb); clear HO364; clear HB; have HO364 := n0_; have HB := n1_; clear n0_ n1_; (try clear hb); (try clear hb2); (try clear hk); (try clear hi)))
        go_ret
        exact ⟨by first | rfl | (simp [errW_none, errW_some] <;> rfl) | (simp [*, errW_none, errW_some] <;> rfl), by repeat (first | (with_reducible first | exact HB.out | apply below_alloc | apply pw_below_drewN | apply below_drew1) | exact HB.out)⟩
      · rw [if_neg c8] at H
        have c8b0 : decide (256 < (t365.size : Int)) = false := decide_eq_false c8
        have c8b1 : decide (256 < t365.size) = false := decide_eq_false (by omega)
        clear c8
        replace H := Option.bind_eq_some_iff.mp H
        obtain ⟨⟨t366, t367⟩, A130, H⟩ := H
        replace H : (if t367 = 0 then ((gatehouseref13_SameTexts.f k t366 t361).bind fun t370 => (if t370 = true then (gatehouselaw13_DirWays.j0 k a1 t361 (decide ((t361.length : Int) > 16))) else (gatehouselaw13_DirWays.j0 k a1 t361 true))) else (gatehouselaw13_DirWays.j0 k a1 t361 true)) = some r := H
        have A13 := Aside0.mk A130
        clear A130
        have HC14 := Aside0.mk H
        clear H
        go_enter Tryd.func8, Tryd.ntmps8
        go_upto_region 10 with (first | ((with_reducible refine gate_callee (f := 10) rfl ?_); refine goesL_ (some 15) rfl rfl Tryd.func10 (by kernel_rfl) rfl #[] rfl (by (try simp only [List.map_toArray, List.map_cons, List.map_nil]); first | done | rfl | (simp only [List.length_drop, List.length_take]; rfl)) ?_; (with_reducible refine (gatehouselaw13_lives.calls k  true _ A3.out).mono ?_); rintro e w15 ⟨rfl, hb⟩; refine ⟨_, rfl, ?_⟩; have n0_ := Aside0.mk (below_step (by repeat (first | (with_reducible first | exact HB.out | apply below_alloc | apply pw_below_drewN | apply below_drew1) | exact HB.out)) hb); clear HB; have HB := n0_; clear n0_; (try clear hb); (try clear hb2); (try clear hk); (try clear hi)) | ((with_reducible refine gate_callee (f := 24) rfl ?_); refine goesL_ (some 19) rfl rfl Tryd.func24 (by kernel_rfl) rfl #[.string a0] rfl (by (try simp only [List.map_toArray, List.map_cons, List.map_nil]); first | done | rfl | (simp only [List.length_drop, List.length_take]; rfl)) ?_; (with_reducible refine (dir_Split.calls a0 t361 t362 _ A5.out).mono ?_); rintro e w16 ⟨v363, rfl, ho0, hb⟩; refine ⟨_, rfl, ?_⟩; have n0_ := Aside0.mk (Kd.R_lower ho0 (below_size (by repeat (first | (with_reducible first | exact HB.out | apply below_alloc | apply pw_below_drewN | apply below_drew1) | exact HB.out)))); have n1_ := Aside0.mk (below_step (by repeat (first | (with_reducible first | exact HB.out | apply below_alloc | apply pw_below_drewN | apply below_drew1) | exact HB.out)) hb); clear HB; have HO364 := n0_; have HB := n1_; clear n0_ n1_; (try clear hb); (try clear hb2); (try clear hk); (try clear hi); (try clear ho0); obtain ⟨Ao17, co17, eo17⟩ := Kd.R_slice HO364.out; subst eo17) | ((with_reducible refine gate_callee (f := 27) rfl ?_); refine goesL_ (some 36) rfl rfl Tryd.func27 (by kernel_rfl) rfl #[.slice Ao17 t361.length co17] rfl (by (try simp only [List.map_toArray, List.map_cons, List.map_nil]); first | done | rfl | (simp only [List.length_drop, List.length_take]; rfl)) ?_; (with_reducible refine (dir_Join.calls _ _ t361 t365 _ ?side1 ?side2 A7.out).mono ?_); (case side1 => repeat (first | exact (Kd.R_reads' HO364.out).2.2 | (with_reducible refine Kd.C_alloc ?_ _) | (with_reducible refine Kd.C_drewN ?_ _) | (with_reducible refine Kd.C_drew ?_))); (case side2 => exact (Kd.R_reads' HO364.out).2.1); rintro e w18 ⟨rfl, hb⟩; refine ⟨_, rfl, ?_⟩; have n0_ := Aside0.mk (Kd.R_below (by (with_reducible repeat (first | apply Kd.R_alloc | apply Kd.R_drewN | apply Kd.R_drew)); exact HO364.out) hb); have n1_ := Aside0.mk (below_step (by repeat (first | (with_reducible first | exact HB.out | apply below_alloc | apply pw_below_drewN | apply below_drew1) | exact HB.out)) hb); clear HO364; clear HB; have HO364 := n0_; have HB := n1_; clear n0_ n1_; (try clear hb); (try clear hb2); (try clear hk); (try clear hi)) | ((with_reducible refine gate_callee (f := 24) rfl ?_); refine goesL_ (some 45) rfl rfl Tryd.func24 (by kernel_rfl) rfl #[.string t365] rfl (by (try simp only [List.map_toArray, List.map_cons, List.map_nil]); first | done | rfl | (simp only [List.length_drop, List.length_take]; rfl)) ?_; (with_reducible refine (dir_Split.calls t365 t366 t367 _ A13.out).mono ?_); rintro e w19 ⟨v368, rfl, ho0, hb⟩; refine ⟨_, rfl, ?_⟩; have n0_ := Aside0.mk (Kd.R_elder' (by (with_reducible repeat (first | apply Kd.R_alloc | apply Kd.R_drewN | apply Kd.R_drew)); exact HO364.out) (Kd.R_base ho0) hb); have n1_ := Aside0.mk (Kd.R_lower (Kd.R_new' ho0 (Kd.R_lt (by (with_reducible repeat (first | apply Kd.R_alloc | apply Kd.R_drewN | apply Kd.R_drew)); exact HO364.out))) (below_size (by repeat (first | (with_reducible first | exact HB.out | apply below_alloc | apply pw_below_drewN | apply below_drew1) | exact HB.out)))); have n2_ := Aside0.mk (below_step (by repeat (first | (with_reducible first | exact HB.out | apply below_alloc | apply pw_below_drewN | apply below_drew1) | exact HB.out)) hb); clear HO364; clear HB; have HO364 := n0_; have HO369 := n1_; have HB := n2_; clear n0_ n1_ n2_; (try clear hb); (try clear hb2); (try clear hk); (try clear hi); (try clear ho0)))
        (try simp only [Act.put, List.setIfInBounds_toArray, List.set_cons_zero, List.set_cons_succ])
        go_cut [60] (fun v60 wc => ∃ (kq : Nat) (x60_13 : Bool), v60 = .bool x60_13 ∧ Aside0 (gatehouselaw13_DirWays.j0 kq a1 t361 x60_13 = some r) ∧ Aside0 (kq ≤ k) ∧ Aside0 (Kd.R Kd.string 9 wc w.heap.size (fun _ => True) (.slice Ao17 t361.length co17) t361) ∧ Aside0 (Below w.heap.size w wc))
        case first =>
          have H := HC14.out
          clear HC14
          by_cases c20 : t367 = 0
          · rw [if_pos c20] at H
            have c20b0 : (t367 == 0) = true := beq_iff_eq.mpr c20
            have c20b1 : (t367 != 0) = false := bne_eq_false_iff_eq.mpr c20
            clear c20
            (first | rw [c20b0] | (simp only [i64_w, i32_w]; rw [c20b0]) | skip)
            replace H := Option.bind_eq_some_iff.mp H
            obtain ⟨t370, A210, H⟩ := H
            replace H : (if t370 = true then (gatehouselaw13_DirWays.j0 k a1 t361 (decide ((t361.length : Int) > 16))) else (gatehouselaw13_DirWays.j0 k a1 t361 true)) = some r := H
            have A21 := Aside0.mk A210
            clear A210
            by_cases c22 : t370 = true
            · subst c22
              have H1 : (gatehouselaw13_DirWays.j0 k a1 t361 (decide ((t361.length : Int) > 16))) = some r := by rw [if_pos rfl] at H; exact H
              clear H
              have H := H1
              clear H1
              have H' := Aside0.mk H
              clear H
              obtain ⟨Ao23, co23, eo23⟩ := Kd.R_slice HO369.out
              subst eo23
              go_wp2_with (first | (go_at_call 26; (with_reducible refine (gatehouseref13_SameTexts.calls k _ _ t366 _ _ t361 true _ ?side1 ?side2 ?side3 ?side4 A21.out).mono ?_); (case side1 => repeat (first | exact (Kd.R_reads' HO369.out).2.2 | (with_reducible refine Kd.C_alloc ?_ _) | (with_reducible refine Kd.C_drewN ?_ _) | (with_reducible refine Kd.C_drew ?_))); (case side2 => exact (Kd.R_reads' HO369.out).2.1); (case side3 => repeat (first | exact (Kd.R_reads' HO364.out).2.2 | (with_reducible refine Kd.C_alloc ?_ _) | (with_reducible refine Kd.C_drewN ?_ _) | (with_reducible refine Kd.C_drew ?_))); (case side4 => exact (Kd.R_reads' HO364.out).2.1); rintro e w' ⟨rfl, ⟨nd, rfl⟩⟩))
              go_meet
              case rel => exact ⟨_, (decide ((t361.length : Int) > 16)), (by first | rfl | (simp; done) | (simp [*]; done)), H', ⟨by first | omega | exact Nat.le_refl _⟩, ⟨by (with_reducible repeat (first | apply Kd.R_alloc | apply Kd.R_drewN | apply Kd.R_drew)); exact Kd.R_mono HO364.out (fun _ hk => trivial)⟩, ⟨by repeat (first | (with_reducible first | exact HB.out | apply below_alloc | apply pw_below_drewN | apply below_drew1) | exact HB.out)⟩⟩
            · replace c22 := Bool.eq_false_iff.mpr c22
              subst c22
              have H1 : (gatehouselaw13_DirWays.j0 k a1 t361 true) = some r := by rw [if_neg (show ¬ (false = true) by decide)] at H; exact H
              clear H
              have H := H1
              clear H1
              have H' := Aside0.mk H
              clear H
              obtain ⟨Ao24, co24, eo24⟩ := Kd.R_slice HO369.out
              subst eo24
              go_wp2_with (first | (go_at_call 26; (with_reducible refine (gatehouseref13_SameTexts.calls k _ _ t366 _ _ t361 false _ ?side1 ?side2 ?side3 ?side4 A21.out).mono ?_); (case side1 => repeat (first | exact (Kd.R_reads' HO369.out).2.2 | (with_reducible refine Kd.C_alloc ?_ _) | (with_reducible refine Kd.C_drewN ?_ _) | (with_reducible refine Kd.C_drew ?_))); (case side2 => exact (Kd.R_reads' HO369.out).2.1); (case side3 => repeat (first | exact (Kd.R_reads' HO364.out).2.2 | (with_reducible refine Kd.C_alloc ?_ _) | (with_reducible refine Kd.C_drewN ?_ _) | (with_reducible refine Kd.C_drew ?_))); (case side4 => exact (Kd.R_reads' HO364.out).2.1); rintro e w' ⟨rfl, ⟨nd, rfl⟩⟩))
              go_meet
              case rel => exact ⟨_, (true), (by first | rfl | (simp; done) | (simp [*]; done)), H', ⟨by first | omega | exact Nat.le_refl _⟩, ⟨by (with_reducible repeat (first | apply Kd.R_alloc | apply Kd.R_drewN | apply Kd.R_drew)); exact Kd.R_mono HO364.out (fun _ hk => trivial)⟩, ⟨by repeat (first | (with_reducible first | exact HB.out | apply below_alloc | apply pw_below_drewN | apply below_drew1) | exact HB.out)⟩⟩
          · rw [if_neg c20] at H
            have c20b0 : (t367 == 0) = false := beq_eq_false_iff_ne.mpr c20
            have c20b1 : (t367 != 0) = true := bne_iff_ne.mpr c20
            (first | rw [c20b0] | (simp only [i64_w, i32_w]; rw [c20b0]) | skip)
            have H' := Aside0.mk H
            clear H
            go_wp2
            go_meet
            case rel => exact ⟨_, (true), (by first | rfl | (simp; done) | (simp [*]; done)), H', ⟨by first | omega | exact Nat.le_refl _⟩, ⟨by (with_reducible repeat (first | apply Kd.R_alloc | apply Kd.R_drewN | apply Kd.R_drew)); exact Kd.R_mono HO364.out (fun _ hk => trivial)⟩, ⟨by repeat (first | (with_reducible first | exact HB.out | apply below_alloc | apply pw_below_drewN | apply below_drew1) | exact HB.out)⟩⟩
        case rest =>
          clear HC14
          try clear c1
          try clear c2
          try clear p2
          try clear c4
          try clear c6
          try clear c6b0
          try clear c6b1
          try clear c8
          try clear c8b0
          try clear c8b1
          try clear c10
          try clear c20
          try clear c20b0
          try clear c20b1
          try clear c22
          try clear c24
          obtain ⟨kq, x60_13, rfl, HA, HJ13, HO_5, HB⟩ := hcut
          cases kq with
          | zero => exact absurd HA.out (by simp [gatehouselaw13_DirWays.j0])
          | succ kj13 =>
            have H := HA.out
            clear HA
            simp only [gatehouselaw13_DirWays.j0] at H
            by_cases c25 : x60_13 = true
            · subst c25
              have H1 : (some false) = some r := by rw [if_pos rfl] at H; exact H
              clear H
              have H := H1
              clear H1
              obtain rfl := Option.some.inj H
              go_wp2
              go_ret
              exact ⟨by first | rfl | (simp [errW_none, errW_some] <;> rfl) | (simp [*, errW_none, errW_some] <;> rfl), by repeat (first | (with_reducible first | exact HB.out | apply below_alloc | apply pw_below_drewN | apply below_drew1) | exact HB.out)⟩
            · replace c25 := Bool.eq_false_iff.mpr c25
              subst c25
              have H1 : (gatehouselaw13_DirWays.l0 kj13 a1 t361 (⟨#[]⟩ : ByteArray) t361 (t361.length : Int) 0) = some r := by rw [if_neg (show ¬ (false = true) by decide)] at H; exact H
              clear H
              have H := H1
              clear H1
              have H' := Aside0.mk H
              clear H
              go_wp2
              go_loopg [10, 63] kj13 (fun kq v10 v63 w' => ∃ (x10_2 : ByteArray) (x63_2 : Int), v10 = .string x10_2 ∧ v63 = .int .i64 x63_2 ∧ Aside0 (gatehouselaw13_DirWays.l0 kq a1 t361 x10_2 t361 (t361.length : Int) x63_2 = some r) ∧ Aside0 (kq ≤ kj13) ∧ Aside0 (Kd.R Kd.string 9 w' w.heap.size (fun _ => True) (.slice Ao17 t361.length co17) t361) ∧ Aside0 (Kd.R Kd.string 9 w' w.heap.size (fun _ => True) (.slice Ao17 t361.length co17) t361) ∧ Aside0 (Below w.heap.size w w'))
              case atStart => exact ⟨((⟨#[]⟩ : ByteArray)), (0), (by first | rfl | (simp; done) | (simp [*]; done)), (by first | rfl | (simp; done) | (simp [*]; done)), H', ⟨Nat.le_refl _⟩, ⟨by (with_reducible repeat (first | apply Kd.R_alloc | apply Kd.R_drewN | apply Kd.R_drew)); exact HO_5.out⟩, ⟨by (with_reducible repeat (first | apply Kd.R_alloc | apply Kd.R_drewN | apply Kd.R_drew)); exact HO_5.out⟩, ⟨by repeat (first | (with_reducible first | exact HB.out | apply below_alloc | apply pw_below_drewN | apply below_drew1) | exact HB.out)⟩⟩
              case round =>
                clear H'
                try clear c1
                try clear c2
                try clear p2
                try clear c4
                try clear c6
                try clear c6b0
                try clear c6b1
                try clear c8
                try clear c8b0
                try clear c8b1
                try clear c10
                try clear c20
                try clear c20b0
                try clear c20b1
                try clear c22
                try clear c24
                try clear c25
                try clear p2
                obtain ⟨x10_2, x63_2, rfl, rfl, HA, HK2, HO_5, HO_61, HB⟩ := hrel
                cases gk with
                | zero => exact absurd HA.out (by simp [gatehouselaw13_DirWays.l0])
                | succ k2 =>
                  have H := HA.out
                  clear HA
                  simp only [gatehouselaw13_DirWays.l0] at H
                  by_cases c26 : x63_2 < (t361.length : Int)
                  · rw [if_pos c26] at H
                    have c26b0 : decide (x63_2 < (t361.length : Int)) = true := decide_eq_true c26
                    clear c26
                    by_cases c27 : 0 ≤ x63_2
                    · rw [if_pos c27] at H
                      have c27b0 : decide (0 ≤ x63_2) = true := decide_eq_true c27
                      clear c27
                      by_cases c28 : x63_2 < (t361.length : Int)
                      · rw [if_pos c28] at H
                        have c28b0 : decide (x63_2 < (t361.length : Int)) = true := decide_eq_true c28
                        clear c28
                        have HC29 := Aside0.mk H
                        clear H
                        have p376 : 0 ≤ (x63_2 : Int) := of_decide_eq_true (by first | (with_reducible assumption) | assumption)
                        have q376 : x63_2 < (t361.length : Int) := of_decide_eq_true (by first | (with_reducible assumption) | assumption)
                        obtain ⟨ad376, e376, hx376_0⟩ := Kd.at_string (Kd.R_reads' HO_61.out).2.2 x63_2 p376 q376
                        cases e376
                        replace p376 := eq_true p376
                        replace q376 := eq_true q376
                        go_upto_region 16 with (fail)
                        go_cut [75] (fun v75 wc => ∃ (kq : Nat) (x75_28 : Bool), v75 = .bool x75_28 ∧ Aside0 (gatehouselaw13_DirWays.j2 kq a1 t361 x10_2 x63_2 (rdOf ByteArray.empty t361 x63_2) t361 (t361.length : Int) x63_2 x75_28 = some r) ∧ Aside0 (kq ≤ k2) ∧ Aside0 (Kd.R Kd.string 9 wc w.heap.size (fun _ => True) (.slice (some ad376) t361.length co17) t361) ∧ Aside0 (Kd.R Kd.string 9 wc w.heap.size (fun _ => True) (.slice (some ad376) t361.length co17) t361) ∧ Aside0 (Below w.heap.size w wc))
                        case first =>
                          have H := HC29.out
                          clear HC29
                          by_cases c30 : ((rdOf ByteArray.empty t361 x63_2).size : Int) < 1
                          · rw [if_pos c30] at H
                            have c30b0 : decide (((rdOf ByteArray.empty t361 x63_2).size : Int) < 1) = true := decide_eq_true c30
                            have c30b1 : decide ((rdOf ByteArray.empty t361 x63_2).size < 1) = true := decide_eq_true (by omega)
                            clear c30
                            (first | rw [c30b0] | (simp only [i64_w, i32_w]; rw [c30b0]) | skip)
                            have H' := Aside0.mk H
                            clear H
                            go_wp2
                            go_meet
                            case rel => exact ⟨_, (true), (by first | rfl | (simp; done) | (simp [*]; done)), H', ⟨by have := HJ13.out; have := HK2.out; first | omega | exact Nat.le_refl _⟩, ⟨by (with_reducible repeat (first | apply Kd.R_alloc | apply Kd.R_drewN | apply Kd.R_drew)); exact HO_5.out⟩, ⟨by (with_reducible repeat (first | apply Kd.R_alloc | apply Kd.R_drewN | apply Kd.R_drew)); exact HO_61.out⟩, ⟨by repeat (first | (with_reducible first | exact HB.out | apply below_alloc | apply pw_below_drewN | apply below_drew1) | exact HB.out)⟩⟩
                          · rw [if_neg c30] at H
                            have c30b0 : decide (((rdOf ByteArray.empty t361 x63_2).size : Int) < 1) = false := decide_eq_false c30
                            have c30b1 : decide ((rdOf ByteArray.empty t361 x63_2).size < 1) = false := decide_eq_false (by omega)
                            clear c30
                            (first | rw [c30b0] | (simp only [i64_w, i32_w]; rw [c30b0]) | skip)
                            have H' := Aside0.mk H
                            clear H
                            go_wp2
                            go_meet
                            case rel => exact ⟨_, (decide (((rdOf ByteArray.empty t361 x63_2).size : Int) > 32)), (by first | rfl | (simp; done) | (simp [*]; done)), H', ⟨by have := HJ13.out; have := HK2.out; first | omega | exact Nat.le_refl _⟩, ⟨by (with_reducible repeat (first | apply Kd.R_alloc | apply Kd.R_drewN | apply Kd.R_drew)); exact HO_5.out⟩, ⟨by (with_reducible repeat (first | apply Kd.R_alloc | apply Kd.R_drewN | apply Kd.R_drew)); exact HO_61.out⟩, ⟨by repeat (first | (with_reducible first | exact HB.out | apply below_alloc | apply pw_below_drewN | apply below_drew1) | exact HB.out)⟩⟩
                        case rest =>
                          clear HC29
                          try clear c1
                          try clear c2
                          try clear p2
                          try clear c3
                          try clear p3
                          try clear q3
                          try clear hx3
                          try clear c4
                          try clear c6
                          try clear c6b0
                          try clear c6b1
                          try clear c8
                          try clear c8b0
                          try clear c8b1
                          try clear c10
                          try clear c20
                          try clear c20b0
                          try clear c20b1
                          try clear c22
                          try clear c24
                          try clear c25
                          try clear c26
                          try clear c26b0
                          try clear c27
                          try clear c27b0
                          try clear c28
                          try clear c28b0
                          try clear c30
                          try clear c30b0
                          try clear c30b1
                          try clear hx376_0
                          try clear p2
                          try clear p376
                          try clear q376
                          obtain ⟨kq, x75_28, rfl, HA, HJ28, HO_5, HO_61, HB⟩ := hcut
                          cases kq with
                          | zero => exact absurd HA.out (by simp [gatehouselaw13_DirWays.j2])
                          | succ kj28 =>
                            have H := HA.out
                            clear HA
                            simp only [gatehouselaw13_DirWays.j2] at H
                            by_cases c31 : x75_28 = true
                            · subst c31
                              have H1 : (some false) = some r := by rw [if_pos rfl] at H; exact H
                              clear H
                              have H := H1
                              clear H1
                              obtain rfl := Option.some.inj H
                              go_wp2
                              go_ret
                              exact ⟨by first | rfl | (simp [errW_none, errW_some] <;> rfl) | (simp [*, errW_none, errW_some] <;> rfl), by repeat (first | (with_reducible first | exact HB.out | apply below_alloc | apply pw_below_drewN | apply below_drew1) | exact HB.out)⟩
                            · replace c31 := Bool.eq_false_iff.mpr c31
                              subst c31
                              have H1 : (if 0 ≤ (IntKind.u64.wrap (Int.tmod (wrap64 (2 * x63_2)) 60)) then (if (Go.bits .and .i64 (shr .i64 a1 (IntKind.u64.wrap (Int.tmod (wrap64 (2 * x63_2)) 60))) 3) = 0 then (if 1 + (rdOf ByteArray.empty t361 x63_2).size ≤ 9223372036854775807 then (if x10_2.size + ((⟨#[47]⟩ : ByteArray) ++ (rdOf ByteArray.empty t361 x63_2)).size ≤ 9223372036854775807 then (gatehouselaw13_DirWays.l0 kj28 a1 t361 (x10_2 ++ ((⟨#[47]⟩ : ByteArray) ++ (rdOf ByteArray.empty t361 x63_2))) t361 (t361.length : Int) (wrap64 (x63_2 + 1))) else (none)) else (none)) else (if (Go.bits .and .i64 (shr .i64 a1 (IntKind.u64.wrap (Int.tmod (wrap64 (2 * x63_2)) 60))) 3) = 1 then (if 2 + (rdOf ByteArray.empty t361 x63_2).size ≤ 9223372036854775807 then (if ((⟨#[47, 47]⟩ : ByteArray) ++ (rdOf ByteArray.empty t361 x63_2)).size + 2 ≤ 9223372036854775807 then (if x10_2.size + (((⟨#[47, 47]⟩ : ByteArray) ++ (rdOf ByteArray.empty t361 x63_2)) ++ (⟨#[47, 46]⟩ : ByteArray)).size ≤ 9223372036854775807 then (gatehouselaw13_DirWays.l0 kj28 a1 t361 (x10_2 ++ (((⟨#[47, 47]⟩ : ByteArray) ++ (rdOf ByteArray.empty t361 x63_2)) ++ (⟨#[47, 46]⟩ : ByteArray))) t361 (t361.length : Int) (wrap64 (x63_2 + 1))) else (none)) else (none)) else (none)) else (if (Go.bits .and .i64 (shr .i64 a1 (IntKind.u64.wrap (Int.tmod (wrap64 (2 * x63_2)) 60))) 3) = 2 then (if 6 + (rdOf ByteArray.empty t361 x63_2).size ≤ 9223372036854775807 then (if x10_2.size + ((⟨#[47, 120, 47, 46, 46, 47]⟩ : ByteArray) ++ (rdOf ByteArray.empty t361 x63_2)).size ≤ 9223372036854775807 then (gatehouselaw13_DirWays.l0 kj28 a1 t361 (x10_2 ++ ((⟨#[47, 120, 47, 46, 46, 47]⟩ : ByteArray) ++ (rdOf ByteArray.empty t361 x63_2))) t361 (t361.length : Int) (wrap64 (x63_2 + 1))) else (none)) else (none)) else (if (Go.bits .and .i64 (shr .i64 a1 (IntKind.u64.wrap (Int.tmod (wrap64 (2 * x63_2)) 60))) 3) = 3 then (if 3 + (rdOf ByteArray.empty t361 x63_2).size ≤ 9223372036854775807 then (if ((⟨#[47, 46, 47]⟩ : ByteArray) ++ (rdOf ByteArray.empty t361 x63_2)).size + 1 ≤ 9223372036854775807 then (if x10_2.size + (((⟨#[47, 46, 47]⟩ : ByteArray) ++ (rdOf ByteArray.empty t361 x63_2)) ++ (⟨#[47]⟩ : ByteArray)).size ≤ 9223372036854775807 then (gatehouselaw13_DirWays.l0 kj28 a1 t361 (x10_2 ++ (((⟨#[47, 46, 47]⟩ : ByteArray) ++ (rdOf ByteArray.empty t361 x63_2)) ++ (⟨#[47]⟩ : ByteArray))) t361 (t361.length : Int) (wrap64 (x63_2 + 1))) else (none)) else (none)) else (none)) else (gatehouselaw13_DirWays.l0 kj28 a1 t361 x10_2 t361 (t361.length : Int) (wrap64 (x63_2 + 1))))))) else (none)) = some r := by rw [if_neg (show ¬ (false = true) by decide)] at H; exact H
                              clear H
                              have H := H1
                              clear H1
                              obtain ⟨ji32, hji32⟩ : ∃ j_ : Int, (IntKind.u64.wrap (Int.tmod (wrap64 (2 * x63_2)) 60)) = j_ := ⟨_, rfl⟩
                              replace H : (if 0 ≤ (ji32) then (if (Go.bits .and .i64 (shr .i64 a1 (ji32)) 3) = 0 then (if 1 + (rdOf ByteArray.empty t361 x63_2).size ≤ 9223372036854775807 then (if x10_2.size + ((⟨#[47]⟩ : ByteArray) ++ (rdOf ByteArray.empty t361 x63_2)).size ≤ 9223372036854775807 then (gatehouselaw13_DirWays.l0 kj28 a1 t361 (x10_2 ++ ((⟨#[47]⟩ : ByteArray) ++ (rdOf ByteArray.empty t361 x63_2))) t361 (t361.length : Int) (wrap64 (x63_2 + 1))) else (none)) else (none)) else (if (Go.bits .and .i64 (shr .i64 a1 (ji32)) 3) = 1 then (if 2 + (rdOf ByteArray.empty t361 x63_2).size ≤ 9223372036854775807 then (if ((⟨#[47, 47]⟩ : ByteArray) ++ (rdOf ByteArray.empty t361 x63_2)).size + 2 ≤ 9223372036854775807 then (if x10_2.size + (((⟨#[47, 47]⟩ : ByteArray) ++ (rdOf ByteArray.empty t361 x63_2)) ++ (⟨#[47, 46]⟩ : ByteArray)).size ≤ 9223372036854775807 then (gatehouselaw13_DirWays.l0 kj28 a1 t361 (x10_2 ++ (((⟨#[47, 47]⟩ : ByteArray) ++ (rdOf ByteArray.empty t361 x63_2)) ++ (⟨#[47, 46]⟩ : ByteArray))) t361 (t361.length : Int) (wrap64 (x63_2 + 1))) else (none)) else (none)) else (none)) else (if (Go.bits .and .i64 (shr .i64 a1 (ji32)) 3) = 2 then (if 6 + (rdOf ByteArray.empty t361 x63_2).size ≤ 9223372036854775807 then (if x10_2.size + ((⟨#[47, 120, 47, 46, 46, 47]⟩ : ByteArray) ++ (rdOf ByteArray.empty t361 x63_2)).size ≤ 9223372036854775807 then (gatehouselaw13_DirWays.l0 kj28 a1 t361 (x10_2 ++ ((⟨#[47, 120, 47, 46, 46, 47]⟩ : ByteArray) ++ (rdOf ByteArray.empty t361 x63_2))) t361 (t361.length : Int) (wrap64 (x63_2 + 1))) else (none)) else (none)) else (if (Go.bits .and .i64 (shr .i64 a1 (ji32)) 3) = 3 then (if 3 + (rdOf ByteArray.empty t361 x63_2).size ≤ 9223372036854775807 then (if ((⟨#[47, 46, 47]⟩ : ByteArray) ++ (rdOf ByteArray.empty t361 x63_2)).size + 1 ≤ 9223372036854775807 then (if x10_2.size + (((⟨#[47, 46, 47]⟩ : ByteArray) ++ (rdOf ByteArray.empty t361 x63_2)) ++ (⟨#[47]⟩ : ByteArray)).size ≤ 9223372036854775807 then (gatehouselaw13_DirWays.l0 kj28 a1 t361 (x10_2 ++ (((⟨#[47, 46, 47]⟩ : ByteArray) ++ (rdOf ByteArray.empty t361 x63_2)) ++ (⟨#[47]⟩ : ByteArray))) t361 (t361.length : Int) (wrap64 (x63_2 + 1))) else (none)) else (none)) else (none)) else (gatehouselaw13_DirWays.l0 kj28 a1 t361 x10_2 t361 (t361.length : Int) (wrap64 (x63_2 + 1))))))) else (none)) = some r := by first | (rw [hji32] at H; exact H) | (simp only [hji32] at H ⊢; exact H)
                              by_cases c33 : 0 ≤ (ji32)
                              · rw [if_pos c33] at H
                                have c33b0 := eq_true c33
                                have c33b1 : decide (0 ≤ (ji32)) = true := decide_eq_true c33
                                clear c33
                                obtain ⟨ji34, hji34⟩ : ∃ j_ : Int, (shr .i64 a1 (ji32)) = j_ := ⟨_, rfl⟩
                                replace H : (if (Go.bits .and .i64 (ji34) 3) = 0 then (if 1 + (rdOf ByteArray.empty t361 x63_2).size ≤ 9223372036854775807 then (if x10_2.size + ((⟨#[47]⟩ : ByteArray) ++ (rdOf ByteArray.empty t361 x63_2)).size ≤ 9223372036854775807 then (gatehouselaw13_DirWays.l0 kj28 a1 t361 (x10_2 ++ ((⟨#[47]⟩ : ByteArray) ++ (rdOf ByteArray.empty t361 x63_2))) t361 (t361.length : Int) (wrap64 (x63_2 + 1))) else (none)) else (none)) else (if (Go.bits .and .i64 (ji34) 3) = 1 then (if 2 + (rdOf ByteArray.empty t361 x63_2).size ≤ 9223372036854775807 then (if ((⟨#[47, 47]⟩ : ByteArray) ++ (rdOf ByteArray.empty t361 x63_2)).size + 2 ≤ 9223372036854775807 then (if x10_2.size + (((⟨#[47, 47]⟩ : ByteArray) ++ (rdOf ByteArray.empty t361 x63_2)) ++ (⟨#[47, 46]⟩ : ByteArray)).size ≤ 9223372036854775807 then (gatehouselaw13_DirWays.l0 kj28 a1 t361 (x10_2 ++ (((⟨#[47, 47]⟩ : ByteArray) ++ (rdOf ByteArray.empty t361 x63_2)) ++ (⟨#[47, 46]⟩ : ByteArray))) t361 (t361.length : Int) (wrap64 (x63_2 + 1))) else (none)) else (none)) else (none)) else (if (Go.bits .and .i64 (ji34) 3) = 2 then (if 6 + (rdOf ByteArray.empty t361 x63_2).size ≤ 9223372036854775807 then (if x10_2.size + ((⟨#[47, 120, 47, 46, 46, 47]⟩ : ByteArray) ++ (rdOf ByteArray.empty t361 x63_2)).size ≤ 9223372036854775807 then (gatehouselaw13_DirWays.l0 kj28 a1 t361 (x10_2 ++ ((⟨#[47, 120, 47, 46, 46, 47]⟩ : ByteArray) ++ (rdOf ByteArray.empty t361 x63_2))) t361 (t361.length : Int) (wrap64 (x63_2 + 1))) else (none)) else (none)) else (if (Go.bits .and .i64 (ji34) 3) = 3 then (if 3 + (rdOf ByteArray.empty t361 x63_2).size ≤ 9223372036854775807 then (if ((⟨#[47, 46, 47]⟩ : ByteArray) ++ (rdOf ByteArray.empty t361 x63_2)).size + 1 ≤ 9223372036854775807 then (if x10_2.size + (((⟨#[47, 46, 47]⟩ : ByteArray) ++ (rdOf ByteArray.empty t361 x63_2)) ++ (⟨#[47]⟩ : ByteArray)).size ≤ 9223372036854775807 then (gatehouselaw13_DirWays.l0 kj28 a1 t361 (x10_2 ++ (((⟨#[47, 46, 47]⟩ : ByteArray) ++ (rdOf ByteArray.empty t361 x63_2)) ++ (⟨#[47]⟩ : ByteArray))) t361 (t361.length : Int) (wrap64 (x63_2 + 1))) else (none)) else (none)) else (none)) else (gatehouselaw13_DirWays.l0 kj28 a1 t361 x10_2 t361 (t361.length : Int) (wrap64 (x63_2 + 1))))))) = some r := by first | (rw [hji34] at H; exact H) | (simp only [hji34] at H ⊢; exact H)
                                have hji34_ : (a1 / 2 ^ min (ji32).toNat 64) = ji34 := hji34
                                have hji34z : (ji32) ≤ 64 → (a1 / 2 ^ (ji32).toNat) = ji34 := shr_small hji34
                                by_cases c35 : (Go.bits .and .i64 (ji34) 3) = 0
                                · rw [if_pos c35] at H
                                  have c35b0 : ((Go.bits .and .i64 (ji34) 3) == 0) = true := beq_iff_eq.mpr c35
                                  have c35b1 : ((Go.bits .and .i64 (ji34) 3) != 0) = false := bne_eq_false_iff_eq.mpr c35
                                  clear c35
                                  by_cases c36 : 1 + (rdOf ByteArray.empty t361 x63_2).size ≤ 9223372036854775807
                                  · rw [if_pos c36] at H
                                    have c36b0 := eq_true c36
                                    have c36b1 : decide (1 + (rdOf ByteArray.empty t361 x63_2).size ≤ 9223372036854775807) = true := decide_eq_true c36
                                    try have c36b2 : (9223372036854775807 < 1 + (rdOf ByteArray.empty t361 x63_2).size) = False := eq_false (Nat.not_lt.2 c36)
                                    by_cases c37 : x10_2.size + ((⟨#[47]⟩ : ByteArray) ++ (rdOf ByteArray.empty t361 x63_2)).size ≤ 9223372036854775807
                                    · rw [if_pos c37] at H
                                      have c37b0 := eq_true c37
                                      have c37b1 : decide (x10_2.size + ((⟨#[47]⟩ : ByteArray) ++ (rdOf ByteArray.empty t361 x63_2)).size ≤ 9223372036854775807) = true := decide_eq_true c37
                                      try have c37b2 : (9223372036854775807 < x10_2.size + ((⟨#[47]⟩ : ByteArray) ++ (rdOf ByteArray.empty t361 x63_2)).size) = False := eq_false (Nat.not_lt.2 c37)
                                      have H' := Aside0.mk H
                                      clear H
                                      go_wp2
                                      go_roundg kj28
                                      case measure => have := HJ13.out; have := HK2.out; have := HJ28.out; omega
                                      case rel => exact ⟨(x10_2 ++ ((⟨#[47]⟩ : ByteArray) ++ (rdOf ByteArray.empty t361 x63_2))), (wrap64 (x63_2 + 1)), (by first | rfl | (simp; done) | (simp [*]; done)), (by first | rfl | (simp; done) | (simp [*]; done)), H', ⟨by have := HJ13.out; have := HK2.out; have := HJ28.out; omega⟩, ⟨by (with_reducible repeat (first | apply Kd.R_alloc | apply Kd.R_drewN | apply Kd.R_drew)); exact HO_5.out⟩, ⟨by (with_reducible repeat (first | apply Kd.R_alloc | apply Kd.R_drewN | apply Kd.R_drew)); exact HO_61.out⟩, ⟨by repeat (first | (with_reducible first | exact HB.out | apply below_alloc | apply pw_below_drewN | apply below_drew1) | exact HB.out)⟩⟩
                                    · rw [if_neg c37] at H
                                      exact absurd H (by simp)
                                  · rw [if_neg c36] at H
                                    exact absurd H (by simp)
                                · rw [if_neg c35] at H
                                  have c35b0 : ((Go.bits .and .i64 (ji34) 3) == 0) = false := beq_eq_false_iff_ne.mpr c35
                                  have c35b1 : ((Go.bits .and .i64 (ji34) 3) != 0) = true := bne_iff_ne.mpr c35
                                  by_cases c38 : (Go.bits .and .i64 (ji34) 3) = 1
                                  · rw [if_pos c38] at H
                                    have c38b0 : ((Go.bits .and .i64 (ji34) 3) == 1) = true := beq_iff_eq.mpr c38
                                    have c38b1 : ((Go.bits .and .i64 (ji34) 3) != 1) = false := bne_eq_false_iff_eq.mpr c38
                                    clear c38
                                    by_cases c39 : 2 + (rdOf ByteArray.empty t361 x63_2).size ≤ 9223372036854775807
                                    · rw [if_pos c39] at H
                                      have c39b0 := eq_true c39
                                      have c39b1 : decide (2 + (rdOf ByteArray.empty t361 x63_2).size ≤ 9223372036854775807) = true := decide_eq_true c39
                                      try have c39b2 : (9223372036854775807 < 2 + (rdOf ByteArray.empty t361 x63_2).size) = False := eq_false (Nat.not_lt.2 c39)
                                      by_cases c40 : ((⟨#[47, 47]⟩ : ByteArray) ++ (rdOf ByteArray.empty t361 x63_2)).size + 2 ≤ 9223372036854775807
                                      · rw [if_pos c40] at H
                                        have c40b0 := eq_true c40
                                        have c40b1 : decide (((⟨#[47, 47]⟩ : ByteArray) ++ (rdOf ByteArray.empty t361 x63_2)).size + 2 ≤ 9223372036854775807) = true := decide_eq_true c40
                                        try have c40b2 : (9223372036854775807 < ((⟨#[47, 47]⟩ : ByteArray) ++ (rdOf ByteArray.empty t361 x63_2)).size + 2) = False := eq_false (Nat.not_lt.2 c40)
                                        have c40s : (9223372036854775807 < 2 + (rdOf ByteArray.empty t361 x63_2).size + 2) = False := eq_false (by have h_ := c40; rw [ByteArray.size_append] at h_; have e_ : (⟨#[47, 47]⟩ : ByteArray).size = 2 := rfl; omega)
                                        by_cases c41 : x10_2.size + (((⟨#[47, 47]⟩ : ByteArray) ++ (rdOf ByteArray.empty t361 x63_2)) ++ (⟨#[47, 46]⟩ : ByteArray)).size ≤ 9223372036854775807
                                        · rw [if_pos c41] at H
                                          have c41b0 := eq_true c41
                                          have c41b1 : decide (x10_2.size + (((⟨#[47, 47]⟩ : ByteArray) ++ (rdOf ByteArray.empty t361 x63_2)) ++ (⟨#[47, 46]⟩ : ByteArray)).size ≤ 9223372036854775807) = true := decide_eq_true c41
                                          try have c41b2 : (9223372036854775807 < x10_2.size + (((⟨#[47, 47]⟩ : ByteArray) ++ (rdOf ByteArray.empty t361 x63_2)) ++ (⟨#[47, 46]⟩ : ByteArray)).size) = False := eq_false (Nat.not_lt.2 c41)
                                          have H' := Aside0.mk H
                                          clear H
                                          go_wp2
                                          go_roundg kj28
                                          case measure => have := HJ13.out; have := HK2.out; have := HJ28.out; omega
                                          case rel => exact ⟨(x10_2 ++ (((⟨#[47, 47]⟩ : ByteArray) ++ (rdOf ByteArray.empty t361 x63_2)) ++ (⟨#[47, 46]⟩ : ByteArray))), (wrap64 (x63_2 + 1)), (by first | rfl | (simp; done) | (simp [*]; done)), (by first | rfl | (simp; done) | (simp [*]; done)), H', ⟨by have := HJ13.out; have := HK2.out; have := HJ28.out; omega⟩, ⟨by (with_reducible repeat (first | apply Kd.R_alloc | apply Kd.R_drewN | apply Kd.R_drew)); exact HO_5.out⟩, ⟨by (with_reducible repeat (first | apply Kd.R_alloc | apply Kd.R_drewN | apply Kd.R_drew)); exact HO_61.out⟩, ⟨by repeat (first | (with_reducible first | exact HB.out | apply below_alloc | apply pw_below_drewN | apply below_drew1) | exact HB.out)⟩⟩
                                        · rw [if_neg c41] at H
                                          exact absurd H (by simp)
                                      · rw [if_neg c40] at H
                                        exact absurd H (by simp)
                                    · rw [if_neg c39] at H
                                      exact absurd H (by simp)
                                  · rw [if_neg c38] at H
                                    have c38b0 : ((Go.bits .and .i64 (ji34) 3) == 1) = false := beq_eq_false_iff_ne.mpr c38
                                    have c38b1 : ((Go.bits .and .i64 (ji34) 3) != 1) = true := bne_iff_ne.mpr c38
                                    by_cases c42 : (Go.bits .and .i64 (ji34) 3) = 2
                                    · rw [if_pos c42] at H
                                      have c42b0 : ((Go.bits .and .i64 (ji34) 3) == 2) = true := beq_iff_eq.mpr c42
                                      have c42b1 : ((Go.bits .and .i64 (ji34) 3) != 2) = false := bne_eq_false_iff_eq.mpr c42
                                      clear c42
                                      by_cases c43 : 6 + (rdOf ByteArray.empty t361 x63_2).size ≤ 9223372036854775807
                                      · rw [if_pos c43] at H
                                        have c43b0 := eq_true c43
                                        have c43b1 : decide (6 + (rdOf ByteArray.empty t361 x63_2).size ≤ 9223372036854775807) = true := decide_eq_true c43
                                        try have c43b2 : (9223372036854775807 < 6 + (rdOf ByteArray.empty t361 x63_2).size) = False := eq_false (Nat.not_lt.2 c43)
                                        by_cases c44 : x10_2.size + ((⟨#[47, 120, 47, 46, 46, 47]⟩ : ByteArray) ++ (rdOf ByteArray.empty t361 x63_2)).size ≤ 9223372036854775807
                                        · rw [if_pos c44] at H
                                          have c44b0 := eq_true c44
                                          have c44b1 : decide (x10_2.size + ((⟨#[47, 120, 47, 46, 46, 47]⟩ : ByteArray) ++ (rdOf ByteArray.empty t361 x63_2)).size ≤ 9223372036854775807) = true := decide_eq_true c44
                                          try have c44b2 : (9223372036854775807 < x10_2.size + ((⟨#[47, 120, 47, 46, 46, 47]⟩ : ByteArray) ++ (rdOf ByteArray.empty t361 x63_2)).size) = False := eq_false (Nat.not_lt.2 c44)
                                          have H' := Aside0.mk H
                                          clear H
                                          go_wp2
                                          go_roundg kj28
                                          case measure => have := HJ13.out; have := HK2.out; have := HJ28.out; omega
                                          case rel => exact ⟨(x10_2 ++ ((⟨#[47, 120, 47, 46, 46, 47]⟩ : ByteArray) ++ (rdOf ByteArray.empty t361 x63_2))), (wrap64 (x63_2 + 1)), (by first | rfl | (simp; done) | (simp [*]; done)), (by first | rfl | (simp; done) | (simp [*]; done)), H', ⟨by have := HJ13.out; have := HK2.out; have := HJ28.out; omega⟩, ⟨by (with_reducible repeat (first | apply Kd.R_alloc | apply Kd.R_drewN | apply Kd.R_drew)); exact HO_5.out⟩, ⟨by (with_reducible repeat (first | apply Kd.R_alloc | apply Kd.R_drewN | apply Kd.R_drew)); exact HO_61.out⟩, ⟨by repeat (first | (with_reducible first | exact HB.out | apply below_alloc | apply pw_below_drewN | apply below_drew1) | exact HB.out)⟩⟩
                                        · rw [if_neg c44] at H
                                          exact absurd H (by simp)
                                      · rw [if_neg c43] at H
                                        exact absurd H (by simp)
                                    · rw [if_neg c42] at H
                                      have c42b0 : ((Go.bits .and .i64 (ji34) 3) == 2) = false := beq_eq_false_iff_ne.mpr c42
                                      have c42b1 : ((Go.bits .and .i64 (ji34) 3) != 2) = true := bne_iff_ne.mpr c42
                                      by_cases c45 : (Go.bits .and .i64 (ji34) 3) = 3
                                      · rw [if_pos c45] at H
                                        have c45b0 : ((Go.bits .and .i64 (ji34) 3) == 3) = true := beq_iff_eq.mpr c45
                                        have c45b1 : ((Go.bits .and .i64 (ji34) 3) != 3) = false := bne_eq_false_iff_eq.mpr c45
                                        clear c45
                                        by_cases c46 : 3 + (rdOf ByteArray.empty t361 x63_2).size ≤ 9223372036854775807
                                        · rw [if_pos c46] at H
                                          have c46b0 := eq_true c46
                                          have c46b1 : decide (3 + (rdOf ByteArray.empty t361 x63_2).size ≤ 9223372036854775807) = true := decide_eq_true c46
                                          try have c46b2 : (9223372036854775807 < 3 + (rdOf ByteArray.empty t361 x63_2).size) = False := eq_false (Nat.not_lt.2 c46)
                                          by_cases c47 : ((⟨#[47, 46, 47]⟩ : ByteArray) ++ (rdOf ByteArray.empty t361 x63_2)).size + 1 ≤ 9223372036854775807
                                          · rw [if_pos c47] at H
                                            have c47b0 := eq_true c47
                                            have c47b1 : decide (((⟨#[47, 46, 47]⟩ : ByteArray) ++ (rdOf ByteArray.empty t361 x63_2)).size + 1 ≤ 9223372036854775807) = true := decide_eq_true c47
                                            try have c47b2 : (9223372036854775807 < ((⟨#[47, 46, 47]⟩ : ByteArray) ++ (rdOf ByteArray.empty t361 x63_2)).size + 1) = False := eq_false (Nat.not_lt.2 c47)
                                            have c47s : (9223372036854775807 < 3 + (rdOf ByteArray.empty t361 x63_2).size + 1) = False := eq_false (by have h_ := c47; rw [ByteArray.size_append] at h_; have e_ : (⟨#[47, 46, 47]⟩ : ByteArray).size = 3 := rfl; omega)
                                            by_cases c48 : x10_2.size + (((⟨#[47, 46, 47]⟩ : ByteArray) ++ (rdOf ByteArray.empty t361 x63_2)) ++ (⟨#[47]⟩ : ByteArray)).size ≤ 9223372036854775807
                                            · rw [if_pos c48] at H
                                              have c48b0 := eq_true c48
                                              have c48b1 : decide (x10_2.size + (((⟨#[47, 46, 47]⟩ : ByteArray) ++ (rdOf ByteArray.empty t361 x63_2)) ++ (⟨#[47]⟩ : ByteArray)).size ≤ 9223372036854775807) = true := decide_eq_true c48
                                              try have c48b2 : (9223372036854775807 < x10_2.size + (((⟨#[47, 46, 47]⟩ : ByteArray) ++ (rdOf ByteArray.empty t361 x63_2)) ++ (⟨#[47]⟩ : ByteArray)).size) = False := eq_false (Nat.not_lt.2 c48)
                                              have H' := Aside0.mk H
                                              clear H
                                              go_wp2
                                              go_roundg kj28
                                              case measure => have := HJ13.out; have := HK2.out; have := HJ28.out; omega
                                              case rel => exact ⟨(x10_2 ++ (((⟨#[47, 46, 47]⟩ : ByteArray) ++ (rdOf ByteArray.empty t361 x63_2)) ++ (⟨#[47]⟩ : ByteArray))), (wrap64 (x63_2 + 1)), (by first | rfl | (simp; done) | (simp [*]; done)), (by first | rfl | (simp; done) | (simp [*]; done)), H', ⟨by have := HJ13.out; have := HK2.out; have := HJ28.out; omega⟩, ⟨by (with_reducible repeat (first | apply Kd.R_alloc | apply Kd.R_drewN | apply Kd.R_drew)); exact HO_5.out⟩, ⟨by (with_reducible repeat (first | apply Kd.R_alloc | apply Kd.R_drewN | apply Kd.R_drew)); exact HO_61.out⟩, ⟨by repeat (first | (with_reducible first | exact HB.out | apply below_alloc | apply pw_below_drewN | apply below_drew1) | exact HB.out)⟩⟩
                                            · rw [if_neg c48] at H
                                              exact absurd H (by simp)
                                          · rw [if_neg c47] at H
                                            exact absurd H (by simp)
                                        · rw [if_neg c46] at H
                                          exact absurd H (by simp)
                                      · rw [if_neg c45] at H
                                        have c45b0 : ((Go.bits .and .i64 (ji34) 3) == 3) = false := beq_eq_false_iff_ne.mpr c45
                                        have c45b1 : ((Go.bits .and .i64 (ji34) 3) != 3) = true := bne_iff_ne.mpr c45
                                        have H' := Aside0.mk H
                                        clear H
                                        go_wp2
                                        go_roundg kj28
                                        case measure => have := HJ13.out; have := HK2.out; have := HJ28.out; omega
                                        case rel => exact ⟨(x10_2), (wrap64 (x63_2 + 1)), (by first | rfl | (simp; done) | (simp [*]; done)), (by first | rfl | (simp; done) | (simp [*]; done)), H', ⟨by have := HJ13.out; have := HK2.out; have := HJ28.out; omega⟩, ⟨by (with_reducible repeat (first | apply Kd.R_alloc | apply Kd.R_drewN | apply Kd.R_drew)); exact HO_5.out⟩, ⟨by (with_reducible repeat (first | apply Kd.R_alloc | apply Kd.R_drewN | apply Kd.R_drew)); exact HO_61.out⟩, ⟨by repeat (first | (with_reducible first | exact HB.out | apply below_alloc | apply pw_below_drewN | apply below_drew1) | exact HB.out)⟩⟩
                              · rw [if_neg c33] at H
                                exact absurd H (by simp)
                      · rw [if_neg c28] at H
                        exact absurd H (by simp)
                    · rw [if_neg c27] at H
                      exact absurd H (by simp)
                  · rw [if_neg c26] at H
                    have c26b0 : decide (x63_2 < (t361.length : Int)) = false := decide_eq_false c26
                    clear c26
                    replace H := Option.bind_eq_some_iff.mp H
                    obtain ⟨⟨t371, t372⟩, A490, H⟩ := H
                    replace H : (if (x10_2.size : Int) > 256 then (some true) else (if t372 = 0 then ((gatehouseref13_SameTexts.f k2 t371 t361).bind fun t375 => (some t375)) else (some false))) = some r := H
                    have A49 := Aside0.mk A490
                    clear A490
                    by_cases c50 : (x10_2.size : Int) > 256
                    · rw [if_pos c50] at H
                      have c50b0 : decide (256 < (x10_2.size : Int)) = true := decide_eq_true c50
                      have c50b1 : decide (256 < x10_2.size) = true := decide_eq_true (by omega)
                      clear c50
                      obtain rfl := Option.some.inj H
                      go_wp2_with (first | ((with_reducible refine gate_callee (f := 24) rfl ?_); refine goesL_ (some 112) rfl rfl Tryd.func24 (by kernel_rfl) rfl #[.string x10_2] rfl (by (try simp only [List.map_toArray, List.map_cons, List.map_nil]); first | done | rfl | (simp only [List.length_drop, List.length_take]; rfl)) ?_; (with_reducible refine (dir_Split.calls x10_2 t371 t372 _ A49.out).mono ?_); rintro e w51 ⟨v373, rfl, ho0, hb⟩; refine ⟨_, rfl, ?_⟩; have n0_ := Aside0.mk (Kd.R_elder' (by (with_reducible repeat (first | apply Kd.R_alloc | apply Kd.R_drewN | apply Kd.R_drew)); exact HO_5.out) (Kd.R_base ho0) hb); have n1_ := Aside0.mk (Kd.R_elder' (by (with_reducible repeat (first | apply Kd.R_alloc | apply Kd.R_drewN | apply Kd.R_drew)); exact HO_61.out) (Kd.R_base ho0) hb); have n2_ := Aside0.mk (Kd.R_lower (Kd.R_new' (Kd.R_new' ho0 (Kd.R_lt (by (with_reducible repeat (first | apply Kd.R_alloc | apply Kd.R_drewN | apply Kd.R_drew)); exact HO_5.out))) (Kd.R_lt (by (with_reducible repeat (first | apply Kd.R_alloc | apply Kd.R_drewN | apply Kd.R_drew)); exact HO_61.out))) (below_size (by repeat (first | (with_reducible first | exact HB.out | apply below_alloc | apply pw_below_drewN | apply below_drew1) | exact HB.out)))); have n3_ := Aside0.mk (below_step (by repeat (first | (with_reducible first | exact HB.out | apply below_alloc | apply pw_below_drewN | apply below_drew1) | exact HB.out)) hb); clear HO_5; clear HO_61; clear HB; have HO_5 := n0_; have HO_61 := n1_; have HO374 := n2_; have HB := n3_; clear n0_ n1_ n2_ n3_; (try clear hb); (try clear hb2); (try clear hk); (try clear hi); (try clear ho0)))
                      go_ret
                      exact ⟨by first | rfl | (simp [errW_none, errW_some] <;> rfl) | (simp [*, errW_none, errW_some] <;> rfl), by repeat (first | (with_reducible first | exact HB.out | apply below_alloc | apply pw_below_drewN | apply below_drew1) | exact HB.out)⟩
                    · rw [if_neg c50] at H
                      have c50b0 : decide (256 < (x10_2.size : Int)) = false := decide_eq_false c50
                      have c50b1 : decide (256 < x10_2.size) = false := decide_eq_false (by omega)
                      clear c50
                      by_cases c52 : t372 = 0
                      · rw [if_pos c52] at H
                        have c52b0 : (t372 == 0) = true := beq_iff_eq.mpr c52
                        have c52b1 : (t372 != 0) = false := bne_eq_false_iff_eq.mpr c52
                        clear c52
                        replace H := Option.bind_eq_some_iff.mp H
                        obtain ⟨t375, A530, H⟩ := H
                        replace H : (some t375) = some r := H
                        have A53 := Aside0.mk A530
                        clear A530
                        obtain rfl := Option.some.inj H
                        go_wp2_with (first | ((with_reducible refine gate_callee (f := 24) rfl ?_); refine goesL_ (some 112) rfl rfl Tryd.func24 (by kernel_rfl) rfl #[.string x10_2] rfl (by (try simp only [List.map_toArray, List.map_cons, List.map_nil]); first | done | rfl | (simp only [List.length_drop, List.length_take]; rfl)) ?_; (with_reducible refine (dir_Split.calls x10_2 t371 t372 _ A49.out).mono ?_); rintro e w54 ⟨v373, rfl, ho0, hb⟩; refine ⟨_, rfl, ?_⟩; have n0_ := Aside0.mk (Kd.R_elder' (by (with_reducible repeat (first | apply Kd.R_alloc | apply Kd.R_drewN | apply Kd.R_drew)); exact HO_5.out) (Kd.R_base ho0) hb); have n1_ := Aside0.mk (Kd.R_elder' (by (with_reducible repeat (first | apply Kd.R_alloc | apply Kd.R_drewN | apply Kd.R_drew)); exact HO_61.out) (Kd.R_base ho0) hb); have n2_ := Aside0.mk (Kd.R_lower (Kd.R_new' (Kd.R_new' ho0 (Kd.R_lt (by (with_reducible repeat (first | apply Kd.R_alloc | apply Kd.R_drewN | apply Kd.R_drew)); exact HO_5.out))) (Kd.R_lt (by (with_reducible repeat (first | apply Kd.R_alloc | apply Kd.R_drewN | apply Kd.R_drew)); exact HO_61.out))) (below_size (by repeat (first | (with_reducible first | exact HB.out | apply below_alloc | apply pw_below_drewN | apply below_drew1) | exact HB.out)))); have n3_ := Aside0.mk (below_step (by repeat (first | (with_reducible first | exact HB.out | apply below_alloc | apply pw_below_drewN | apply below_drew1) | exact HB.out)) hb); clear HO_5; clear HO_61; clear HB; have HO_5 := n0_; have HO_61 := n1_; have HO374 := n2_; have HB := n3_; clear n0_ n1_ n2_ n3_; (try clear hb); (try clear hb2); (try clear hk); (try clear hi); (try clear ho0); obtain ⟨Ao55, co55, eo55⟩ := Kd.R_slice HO374.out; subst eo55) | (go_at_call 26; (with_reducible refine (gatehouseref13_SameTexts.calls k2 _ _ t371 _ _ t361 t375 _ ?side1 ?side2 ?side3 ?side4 A53.out).mono ?_); (case side1 => repeat (first | exact (Kd.R_reads' HO374.out).2.2 | (with_reducible refine Kd.C_alloc ?_ _) | (with_reducible refine Kd.C_drewN ?_ _) | (with_reducible refine Kd.C_drew ?_))); (case side2 => exact (Kd.R_reads' HO374.out).2.1); (case side3 => repeat (first | exact (Kd.R_reads' HO_5.out).2.2 | (with_reducible refine Kd.C_alloc ?_ _) | (with_reducible refine Kd.C_drewN ?_ _) | (with_reducible refine Kd.C_drew ?_))); (case side4 => exact (Kd.R_reads' HO_5.out).2.1); rintro e w' ⟨rfl, ⟨nd, rfl⟩⟩))
                        go_ret
                        exact ⟨by first | rfl | (simp [errW_none, errW_some] <;> rfl) | (simp [*, errW_none, errW_some] <;> rfl), by repeat (first | (with_reducible first | exact HB.out | apply below_alloc | apply pw_below_drewN | apply below_drew1) | exact HB.out)⟩
                      · rw [if_neg c52] at H
                        have c52b0 : (t372 == 0) = false := beq_eq_false_iff_ne.mpr c52
                        have c52b1 : (t372 != 0) = true := bne_iff_ne.mpr c52
                        obtain rfl := Option.some.inj H
                        go_wp2_with (first | ((with_reducible refine gate_callee (f := 24) rfl ?_); refine goesL_ (some 112) rfl rfl Tryd.func24 (by kernel_rfl) rfl #[.string x10_2] rfl (by (try simp only [List.map_toArray, List.map_cons, List.map_nil]); first | done | rfl | (simp only [List.length_drop, List.length_take]; rfl)) ?_; (with_reducible refine (dir_Split.calls x10_2 t371 t372 _ A49.out).mono ?_); rintro e w56 ⟨v373, rfl, ho0, hb⟩; refine ⟨_, rfl, ?_⟩; have n0_ := Aside0.mk (Kd.R_elder' (by (with_reducible repeat (first | apply Kd.R_alloc | apply Kd.R_drewN | apply Kd.R_drew)); exact HO_5.out) (Kd.R_base ho0) hb); have n1_ := Aside0.mk (Kd.R_elder' (by (with_reducible repeat (first | apply Kd.R_alloc | apply Kd.R_drewN | apply Kd.R_drew)); exact HO_61.out) (Kd.R_base ho0) hb); have n2_ := Aside0.mk (Kd.R_lower (Kd.R_new' (Kd.R_new' ho0 (Kd.R_lt (by (with_reducible repeat (first | apply Kd.R_alloc | apply Kd.R_drewN | apply Kd.R_drew)); exact HO_5.out))) (Kd.R_lt (by (with_reducible repeat (first | apply Kd.R_alloc | apply Kd.R_drewN | apply Kd.R_drew)); exact HO_61.out))) (below_size (by repeat (first | (with_reducible first | exact HB.out | apply below_alloc | apply pw_below_drewN | apply below_drew1) | exact HB.out)))); have n3_ := Aside0.mk (below_step (by repeat (first | (with_reducible first | exact HB.out | apply below_alloc | apply pw_below_drewN | apply below_drew1) | exact HB.out)) hb); clear HO_5; clear HO_61; clear HB; have HO_5 := n0_; have HO_61 := n1_; have HO374 := n2_; have HB := n3_; clear n0_ n1_ n2_ n3_; (try clear hb); (try clear hb2); (try clear hk); (try clear hi); (try clear ho0)))
                        go_ret
                        exact ⟨by first | rfl | (simp [errW_none, errW_some] <;> rfl) | (simp [*, errW_none, errW_some] <;> rfl), by repeat (first | (with_reducible first | exact HB.out | apply below_alloc | apply pw_below_drewN | apply below_drew1) | exact HB.out)⟩
    · rw [if_neg c6] at H
      have c6b0 : (t362 == 0) = false := beq_eq_false_iff_ne.mpr c6
      have c6b1 : (t362 != 0) = true := bne_iff_ne.mpr c6
      by_cases c57 : (t361.length : Int) = 0
      · rw [if_pos c57] at H
        have c57b0 : ((t361.length : Int) == 0) = true := beq_iff_eq.mpr c57
        have c57b1 : ((t361.length : Int) != 0) = false := bne_eq_false_iff_eq.mpr c57
        clear c57
        by_cases c58 : t362 = 32
        · rw [if_pos c58] at H
          have c58b0 : (t362 == 32) = true := beq_iff_eq.mpr c58
          have c58b1 : (t362 != 32) = false := bne_eq_false_iff_eq.mpr c58
          clear c58
          obtain rfl := Option.some.inj H
          go_enter Tryd.func8, Tryd.ntmps8
          go_wp2_with (first | ((with_reducible refine gate_callee (f := 10) rfl ?_); refine goesL_ (some 15) rfl rfl Tryd.func10 (by kernel_rfl) rfl #[] rfl (by (try simp only [List.map_toArray, List.map_cons, List.map_nil]); first | done | rfl | (simp only [List.length_drop, List.length_take]; rfl)) ?_; (with_reducible refine (gatehouselaw13_lives.calls k  true _ A3.out).mono ?_); rintro e w59 ⟨rfl, hb⟩; refine ⟨_, rfl, ?_⟩; have n0_ := Aside0.mk (below_step (by repeat (first | (with_reducible first | exact HB.out | apply below_alloc | apply pw_below_drewN | apply below_drew1) | exact HB.out)) hb); clear HB; have HB := n0_; clear n0_; (try clear hb); (try clear hb2); (try clear hk); (try clear hi)) | ((with_reducible refine gate_callee (f := 24) rfl ?_); refine goesL_ (some 19) rfl rfl Tryd.func24 (by kernel_rfl) rfl #[.string a0] rfl (by (try simp only [List.map_toArray, List.map_cons, List.map_nil]); first | done | rfl | (simp only [List.length_drop, List.length_take]; rfl)) ?_; (with_reducible refine (dir_Split.calls a0 t361 t362 _ A5.out).mono ?_); rintro e w60 ⟨v363, rfl, ho0, hb⟩; refine ⟨_, rfl, ?_⟩; have n0_ := Aside0.mk (Kd.R_lower ho0 (below_size (by repeat (first | (with_reducible first | exact HB.out | apply below_alloc | apply pw_below_drewN | apply below_drew1) | exact HB.out)))); have n1_ := Aside0.mk (below_step (by repeat (first | (with_reducible first | exact HB.out | apply below_alloc | apply pw_below_drewN | apply below_drew1) | exact HB.out)) hb); clear HB; have HO364 := n0_; have HB := n1_; clear n0_ n1_; (try clear hb); (try clear hb2); (try clear hk); (try clear hi); (try clear ho0); obtain ⟨Ao61, co61, eo61⟩ := Kd.R_slice HO364.out; subst eo61))
          go_ret
          exact ⟨by first | rfl | (simp [errW_none, errW_some] <;> rfl) | (simp [*, errW_none, errW_some] <;> rfl), by repeat (first | (with_reducible first | exact HB.out | apply below_alloc | apply pw_below_drewN | apply below_drew1) | exact HB.out)⟩
        · rw [if_neg c58] at H
          have c58b0 : (t362 == 32) = false := beq_eq_false_iff_ne.mpr c58
          have c58b1 : (t362 != 32) = true := bne_iff_ne.mpr c58
          obtain rfl := Option.some.inj H
          go_enter Tryd.func8, Tryd.ntmps8
          go_wp2_with (first | ((with_reducible refine gate_callee (f := 10) rfl ?_); refine goesL_ (some 15) rfl rfl Tryd.func10 (by kernel_rfl) rfl #[] rfl (by (try simp only [List.map_toArray, List.map_cons, List.map_nil]); first | done | rfl | (simp only [List.length_drop, List.length_take]; rfl)) ?_; (with_reducible refine (gatehouselaw13_lives.calls k  true _ A3.out).mono ?_); rintro e w62 ⟨rfl, hb⟩; refine ⟨_, rfl, ?_⟩; have n0_ := Aside0.mk (below_step (by repeat (first | (with_reducible first | exact HB.out | apply below_alloc | apply pw_below_drewN | apply below_drew1) | exact HB.out)) hb); clear HB; have HB := n0_; clear n0_; (try clear hb); (try clear hb2); (try clear hk); (try clear hi)) | ((with_reducible refine gate_callee (f := 24) rfl ?_); refine goesL_ (some 19) rfl rfl Tryd.func24 (by kernel_rfl) rfl #[.string a0] rfl (by (try simp only [List.map_toArray, List.map_cons, List.map_nil]); first | done | rfl | (simp only [List.length_drop, List.length_take]; rfl)) ?_; (with_reducible refine (dir_Split.calls a0 t361 t362 _ A5.out).mono ?_); rintro e w63 ⟨v363, rfl, ho0, hb⟩; refine ⟨_, rfl, ?_⟩; have n0_ := Aside0.mk (Kd.R_lower ho0 (below_size (by repeat (first | (with_reducible first | exact HB.out | apply below_alloc | apply pw_below_drewN | apply below_drew1) | exact HB.out)))); have n1_ := Aside0.mk (below_step (by repeat (first | (with_reducible first | exact HB.out | apply below_alloc | apply pw_below_drewN | apply below_drew1) | exact HB.out)) hb); clear HB; have HO364 := n0_; have HB := n1_; clear n0_ n1_; (try clear hb); (try clear hb2); (try clear hk); (try clear hi); (try clear ho0); obtain ⟨Ao64, co64, eo64⟩ := Kd.R_slice HO364.out; subst eo64))
          go_ret
          exact ⟨by first | rfl | (simp [errW_none, errW_some] <;> rfl) | (simp [*, errW_none, errW_some] <;> rfl), by repeat (first | (with_reducible first | exact HB.out | apply below_alloc | apply pw_below_drewN | apply below_drew1) | exact HB.out)⟩
      · rw [if_neg c57] at H
        have c57b0 : ((t361.length : Int) == 0) = false := beq_eq_false_iff_ne.mpr c57
        have c57b1 : ((t361.length : Int) != 0) = true := bne_iff_ne.mpr c57
        have c57b2 : ¬ (t361 = []) := fun h_ => c57 (by rw [h_]; rfl)
        obtain rfl := Option.some.inj H
        go_enter Tryd.func8, Tryd.ntmps8
        go_wp2_with (first | ((with_reducible refine gate_callee (f := 10) rfl ?_); refine goesL_ (some 15) rfl rfl Tryd.func10 (by kernel_rfl) rfl #[] rfl (by (try simp only [List.map_toArray, List.map_cons, List.map_nil]); first | done | rfl | (simp only [List.length_drop, List.length_take]; rfl)) ?_; (with_reducible refine (gatehouselaw13_lives.calls k  true _ A3.out).mono ?_); rintro e w65 ⟨rfl, hb⟩; refine ⟨_, rfl, ?_⟩; have n0_ := Aside0.mk (below_step (by repeat (first | (with_reducible first | exact HB.out | apply below_alloc | apply pw_below_drewN | apply below_drew1) | exact HB.out)) hb); clear HB; have HB := n0_; clear n0_; (try clear hb); (try clear hb2); (try clear hk); (try clear hi)) | ((with_reducible refine gate_callee (f := 24) rfl ?_); refine goesL_ (some 19) rfl rfl Tryd.func24 (by kernel_rfl) rfl #[.string a0] rfl (by (try simp only [List.map_toArray, List.map_cons, List.map_nil]); first | done | rfl | (simp only [List.length_drop, List.length_take]; rfl)) ?_; (with_reducible refine (dir_Split.calls a0 t361 t362 _ A5.out).mono ?_); rintro e w66 ⟨v363, rfl, ho0, hb⟩; refine ⟨_, rfl, ?_⟩; have n0_ := Aside0.mk (Kd.R_lower ho0 (below_size (by repeat (first | (with_reducible first | exact HB.out | apply below_alloc | apply pw_below_drewN | apply below_drew1) | exact HB.out)))); have n1_ := Aside0.mk (below_step (by repeat (first | (with_reducible first | exact HB.out | apply below_alloc | apply pw_below_drewN | apply below_drew1) | exact HB.out)) hb); clear HB; have HO364 := n0_; have HB := n1_; clear n0_ n1_; (try clear hb); (try clear hb2); (try clear hk); (try clear hi); (try clear ho0); obtain ⟨Ao67, co67, eo67⟩ := Kd.R_slice HO364.out; subst eo67))
        go_ret
        exact ⟨by first | rfl | (simp [errW_none, errW_some] <;> rfl) | (simp [*, errW_none, errW_some] <;> rfl), by repeat (first | (with_reducible first | exact HB.out | apply below_alloc | apply pw_below_drewN | apply below_drew1) | exact HB.out)⟩
  · replace c4 := Bool.eq_false_iff.mpr c4
    subst c4
    have H1 : (some false) = some r := by rw [if_neg (show ¬ (false = true) by decide)] at H; exact H
    clear H
    have H := H1
    clear H1
    obtain rfl := Option.some.inj H
    go_enter Tryd.func8, Tryd.ntmps8
    go_wp2_with (first | ((with_reducible refine gate_callee (f := 10) rfl ?_); refine goesL_ (some 15) rfl rfl Tryd.func10 (by kernel_rfl) rfl #[] rfl (by (try simp only [List.map_toArray, List.map_cons, List.map_nil]); first | done | rfl | (simp only [List.length_drop, List.length_take]; rfl)) ?_; (with_reducible refine (gatehouselaw13_lives.calls k  false _ A3.out).mono ?_); rintro e w68 ⟨rfl, hb⟩; refine ⟨_, rfl, ?_⟩; have n0_ := Aside0.mk (below_step (by repeat (first | (with_reducible first | exact HB.out | apply below_alloc | apply pw_below_drewN | apply below_drew1) | exact HB.out)) hb); clear HB; have HB := n0_; clear n0_; (try clear hb); (try clear hb2); (try clear hk); (try clear hi)))
    go_ret
    exact ⟨by first | rfl | (simp [errW_none, errW_some] <;> rfl) | (simp [*, errW_none, errW_some] <;> rfl), by repeat (first | (with_reducible first | exact HB.out | apply below_alloc | apply pw_below_drewN | apply below_drew1) | exact HB.out)⟩

/-- THE ONE PURE STATEMENT of gatehouselaw13_DirWays: yours. -/
def gatehouselaw13_DirWays.Pure : Prop := ∀ (a0 : ByteArray) (a1 : Int), a0.size ≤ 140737488351232 → (Lit.int .i64 a1).wf = true → ∃ k, gatehouselaw13_DirWays.f k a0 a1 = some true
theorem gatehouselaw13_DirWays.walk (P : gatehouselaw13_DirWays.Pure) (a0 : ByteArray) (a1 : Int) (w : World) (w0 : a0.size ≤ 140737488351232) (w1 : (Lit.int .i64 a1).wf = true) :
    Calls Tryd.prog 8 #[.string a0, .int .i64 a1] w fun e w' => e = .returned (.bool true) ∧ Below w.heap.size w w' := by
  obtain ⟨k, h⟩ := P a0 a1 w0 w1
  refine (gatehouselaw13_DirWays.calls k a0 a1 true w h).mono ?_
  rintro e w' ⟨rfl, hd⟩
  exact ⟨rfl, hd⟩

end Go.Proofs.YtijnlgmclaphhaaDoorZ
namespace Go.Proofs.YtijnlgmclaphhaaDoor
open Go Go.RowKit Go.Proofs.YtijnlgmclaphhaaDoorZ Go.Proofs.YtijnlgmclaphhaaDoorW.PrintWords Go.Proofs.YtijnlgmclaphhaaDoorW.PrintMore

theorem and3 (z : Int) : ∃ r : Nat, r < 4 ∧ bits .and .i64 z 3 = (r : Int) := by
  refine ⟨(BitVec.ofInt 64 z).toNat &&& 3, Nat.lt_of_le_of_lt Nat.and_le_right (by omega), ?_⟩
  have h : (BitVec.ofInt 64 z).toNat &&& 3 ≤ 3 := Nat.and_le_right
  show IntKind.i64.wrap (((BitVec.ofInt 64 z &&& BitVec.ofInt 64 3).toNat : Nat) : Int) = _
  rw [BitVec.toNat_and, show (BitVec.ofInt 64 3).toNat = 3 from rfl]
  generalize (BitVec.ofInt 64 z).toNat &&& 3 = r at h
  unfold IntKind.wrap
  simp [IntKind.signed, IntKind.bits]
  omega
/-- What a text reads as so far. -/
def Reads (t : ByteArray) (l : List ByteArray) : Prop := (∀ p ∈ pieces t, badP p = none) ∧ outP (pieces t) = l
theorem reads_more {t c : ByteArray} {l : List ByteArray} {r : List UInt8} (h : Reads t l) (n : ByteArray) (hc : c.data.toList = 47 :: r) (hb : ∀ p ∈ (cutAt 47 r).map mkB, badP p = none)
    (ho : ∀ out, ((cutAt 47 r).map mkB).foldl stepP out = out ++ [n]) : Reads (t ++ c) (l ++ [n]) := by
  unfold Reads
  rw [pieces_join t r c hc]
  refine ⟨fun p hp => ?_, ?_⟩
  · rcases List.mem_append.1 hp with hp | hp
    · exact h.1 p hp
    · exact hb p hp
  · unfold outP
    rw [List.foldl_append, ho]
    exact congrArg (· ++ [n]) h.2
theorem bad_1 : badP (mkB [46]) = none := by decide
theorem bad_2 : badP (mkB [46, 46]) = none := by decide
theorem bad_x : badP (mkB [120]) = none := by decide
theorem step_e (out : List ByteArray) : stepP out (mkB []) = out := by
  unfold stepP; rw [if_pos (by rw [mkB_toList]; exact .inl rfl)]
theorem step_1 (out : List ByteArray) : stepP out (mkB [46]) = out := by
  unfold stepP; rw [if_pos (by rw [mkB_toList]; exact .inr rfl)]
theorem step_2 (out : List ByteArray) : stepP out (mkB [46, 46]) = out.dropLast := by
  unfold stepP; rw [mkB_toList, if_neg (by decide), if_pos rfl]
theorem step_x (out : List ByteArray) : stepP out (mkB [120]) = out ++ [mkB [120]] := by
  unfold stepP; rw [mkB_toList, if_neg (by decide), if_neg (by decide)]
section
variable {t n : ByteArray} {l : List ByteArray} (h : Reads t l) (hn : Okp n)
include h hn
theorem reads_0 : Reads (t ++ ((⟨#[47]⟩ : ByteArray) ++ n)) (l ++ [n]) := by
  have e : (cutAt 47 n.data.toList).map mkB = [n] := by rw [cut_free _ _ hn.free, List.map_cons, mkB_data]; rfl
  refine reads_more h n (r := n.data.toList) (by rw [app_data]; rfl) ?_ ?_
  · rw [e]; intro p hp
    have : p = n := by simpa using hp
    subst this; exact hn.bad
  · intro out; rw [e]; exact fold_ok [n] out (fun m hm => by
      have : m = n := by simpa using hm
      subst this; exact hn)
theorem reads_1 : Reads (t ++ (((⟨#[47, 47]⟩ : ByteArray) ++ n) ++ (⟨#[47, 46]⟩ : ByteArray))) (l ++ [n]) := by
  have e : (cutAt 47 (47 :: (n.data.toList ++ 47 :: [46]))).map mkB = [mkB [], n, mkB [46]] := by
    rw [cut_eq, cut_append, cut_free _ _ hn.free, cut_free _ _ (by decide : (47 : UInt8) ∉ [46])]
    simp only [List.map_cons, List.map_append, List.map_nil, mkB_data]; rfl
  refine reads_more h n (r := 47 :: (n.data.toList ++ 47 :: [46])) (by rw [app_data, app_data]; simp) ?_ ?_
  · rw [e]; intro p hp
    simp only [List.mem_cons, List.not_mem_nil, or_false] at hp
    rcases hp with rfl | rfl | rfl
    · exact bad_empty
    · exact hn.bad
    · exact bad_1
  · intro out; rw [e, List.foldl_cons, List.foldl_cons, List.foldl_cons, step_e, step_ok hn, step_1]; rfl
theorem reads_2 : Reads (t ++ ((⟨#[47, 120, 47, 46, 46, 47]⟩ : ByteArray) ++ n)) (l ++ [n]) := by
  have e : (cutAt 47 ([120] ++ 47 :: ([46, 46] ++ 47 :: n.data.toList))).map mkB = [mkB [120], mkB [46, 46], n] := by
    rw [cut_append, cut_append, cut_free _ _ hn.free, cut_free _ _ (by decide : (47 : UInt8) ∉ [46, 46]), cut_free _ _ (by decide : (47 : UInt8) ∉ [120])]
    simp only [List.map_cons, List.map_append, List.map_nil, mkB_data]; rfl
  refine reads_more h n (r := [120] ++ 47 :: ([46, 46] ++ 47 :: n.data.toList)) (by rw [app_data]; simp) ?_ ?_
  · rw [e]; intro p hp
    simp only [List.mem_cons, List.not_mem_nil, or_false] at hp
    rcases hp with rfl | rfl | rfl
    · exact bad_x
    · exact bad_2
    · exact hn.bad
  · intro out; rw [e, List.foldl_cons, List.foldl_cons, List.foldl_cons, step_x, step_2, List.dropLast_concat, step_ok hn]; rfl
theorem reads_3 : Reads (t ++ (((⟨#[47, 46, 47]⟩ : ByteArray) ++ n) ++ (⟨#[47]⟩ : ByteArray))) (l ++ [n]) := by
  have e : (cutAt 47 ([46] ++ 47 :: (n.data.toList ++ 47 :: []))).map mkB = [mkB [46], n, mkB []] := by
    rw [cut_append, cut_append, cut_free _ _ hn.free, cut_free _ _ (by decide : (47 : UInt8) ∉ [46]), cut_free _ _ (by decide : (47 : UInt8) ∉ [])]
    simp only [List.map_cons, List.map_append, List.map_nil, mkB_data]; rfl
  refine reads_more h n (r := [46] ++ 47 :: (n.data.toList ++ 47 :: [])) (by rw [app_data, app_data]; simp) ?_ ?_
  · rw [e]; intro p hp
    simp only [List.mem_cons, List.not_mem_nil, or_false] at hp
    rcases hp with rfl | rfl | rfl
    · exact bad_1
    · exact hn.bad
    · exact bad_empty
  · intro out; rw [e, List.foldl_cons, List.foldl_cons, List.foldl_cons, step_1, step_ok hn, step_e]; rfl
end
theorem size_app (a b : ByteArray) : (a ++ b).size = a.size + b.size := by rw [size_data, app_data, List.length_append, ← size_data, ← size_data]
theorem ways_l0 (l : List ByteArray) (x1 : Int) (hl : l.length ≤ 16) (hok : ∀ n ∈ l, Okp n) (n : Nat) : ∀ (k i : Nat) (t : ByteArray), l.length - i = n → i ≤ l.length → 2 * n + 100 < k → Reads t (l.take i) → t.size ≤ i * 40 →
    gatehouselaw13_DirWays.l0 k x1 l t l (l.length : Int) (i : Int) = some true := by
  induction n with
  | zero =>
    intro k i t h hi hk hr ht
    obtain ⟨k, rfl⟩ : ∃ q, k = q + 1 := ⟨k - 1, by omega⟩
    obtain rfl : i = l.length := by omega
    rw [List.take_length] at hr
    simp only [gatehouselaw13_DirWays.l0]
    rw [if_neg (by omega)]
    unfold dir_Split.f
    rw [Option.bind_some]
    by_cases h256 : (t.size : Int) > 256
    · rw [if_pos h256]
    · rw [if_neg h256, split_ok (by omega) hr.1 hr.2 hl, if_pos rfl, texts_self l (by omega) k (by omega), Option.bind_some]
  | succ n ih =>
    intro k i t h hi hk hr ht
    obtain ⟨k, rfl⟩ : ∃ q, k = q + 1 + 1 := ⟨k - 2, by omega⟩
    have hlt : i < l.length := by omega
    have hn := hok l[i] (List.getElem_mem hlt)
    have h1 := hn.least
    have h32 := hn.most
    have ht2 : t.size ≤ 640 := Nat.le_trans ht (by omega)
    simp only [gatehouselaw13_DirWays.l0]
    rw [if_pos (by omega), if_pos (by omega), if_pos (by omega), rdB_at l i hlt, if_neg (by omega), decide_eq_false (by omega)]
    simp only [gatehouselaw13_DirWays.j2]
    rw [if_neg (by simp)]
    have hu : 0 ≤ IntKind.u64.wrap (Int.tmod (wrap64 (2 * (i : Int))) 60) := by
      unfold IntKind.wrap; simp [IntKind.signed, IntKind.bits]; omega
    rw [if_pos hu]
    obtain ⟨r, hr4, er⟩ := and3 (shr .i64 x1 (IntKind.u64.wrap (Int.tmod (wrap64 (2 * (i : Int))) 60)))
    rw [er, w64 (x := (i : Int) + 1) (by omega) (by omega)]
    have s1 : (⟨#[47]⟩ : ByteArray).size = 1 := rfl
    have s2 : (⟨#[47, 47]⟩ : ByteArray).size = 2 := rfl
    have s3 : (⟨#[47, 46]⟩ : ByteArray).size = 2 := rfl
    have s4 : (⟨#[47, 120, 47, 46, 46, 47]⟩ : ByteArray).size = 6 := rfl
    have s5 : (⟨#[47, 46, 47]⟩ : ByteArray).size = 3 := rfl
    have next : ∀ t' : ByteArray, Reads t' (l.take i ++ [l[i]]) → t'.size ≤ t.size + 40 → gatehouselaw13_DirWays.l0 k x1 l t' l (l.length : Int) ((i : Int) + 1) = some true := by
      intro t' hr' hs'
      rw [← List.take_succ_eq_append_getElem hlt] at hr'
      exact ih k (i + 1) t' (by omega) (by omega) (by omega) hr' (by rw [Nat.add_mul]; omega)
    match r, hr4 with
    | 0, _ =>
      have sz := size_app (⟨#[47]⟩ : ByteArray) l[i]
      rw [if_pos (by rfl), if_pos (by omega), if_pos (by omega)]
      exact next _ (reads_0 hr hn) (by rw [size_app]; omega)
    | 1, _ =>
      have sz := size_app (⟨#[47, 47]⟩ : ByteArray) l[i]
      have sz2 := size_app ((⟨#[47, 47]⟩ : ByteArray) ++ l[i]) (⟨#[47, 46]⟩ : ByteArray)
      rw [if_neg (by decide), if_pos (by rfl), if_pos (by omega), if_pos (by omega), if_pos (by omega)]
      exact next _ (reads_1 hr hn) (by rw [size_app]; omega)
    | 2, _ =>
      have sz := size_app (⟨#[47, 120, 47, 46, 46, 47]⟩ : ByteArray) l[i]
      rw [if_neg (by decide), if_neg (by decide), if_pos (by rfl), if_pos (by omega), if_pos (by omega)]
      exact next _ (reads_2 hr hn) (by rw [size_app]; omega)
    | 3, _ =>
      have sz := size_app (⟨#[47, 46, 47]⟩ : ByteArray) l[i]
      have sz2 := size_app ((⟨#[47, 46, 47]⟩ : ByteArray) ++ l[i]) (⟨#[47]⟩ : ByteArray)
      rw [if_neg (by decide), if_neg (by decide), if_neg (by decide), if_pos (by rfl), if_pos (by omega), if_pos (by omega), if_pos (by omega)]
      exact next _ (reads_3 hr hn) (by rw [size_app]; omega)
theorem reads_nil : Reads ⟨#[]⟩ [] := by
  have e : pieces ⟨#[]⟩ = [mkB []] := rfl
  unfold Reads
  rw [e]
  refine ⟨fun p hp => ?_, step_e []⟩
  have : p = mkB [] := by simpa using hp
  subst this; exact bad_empty
theorem dirWays_pure (s : ByteArray) (more : Int) : ∃ k, gatehouselaw13_DirWays.f k s more = some true := by
  refine ⟨1000, ?_⟩
  unfold gatehouselaw13_DirWays.f
  rw [lives_f _ (by omega), Option.bind_some, if_pos rfl]
  unfold dir_Split.f
  rw [Option.bind_some]
  rcases split_cases s with ⟨h1, h2⟩ | ⟨h0, hs, h1, hl, hok⟩
  · rw [h1, if_neg (by rcases h2 with h | h <;> omega), if_pos (by rfl)]
    rcases h2 with h | h
    · rw [h, if_neg (by omega)]; rfl
    · rw [h, if_pos rfl]
  · rw [h0, if_pos rfl]
    generalize hgl : (splitL s).1 = l at *
    have hjl : (joinB l).length ≤ 256 := by
      cases l with
      | nil => exact Nat.zero_le _
      | cons x r =>
        have e := joinB_len r x
        have hw : wt (x :: r) ≤ s.size + 1 := by
          rw [h1, ← wt_pieces s]
          have := fold_wt (pieces s) []
          have e0 : wt [] = 0 := rfl
          unfold outP
          omega
        omega
    have hjoin : dir_Join.f l = some (joinL l) := by
      unfold dir_Join.f
      rw [if_pos ⟨by omega, by omega⟩]
    rw [hjoin, Option.bind_some]
    have hsz := joinL_size l
    by_cases h256 : ((joinL l).size : Int) > 256
    · rw [if_pos h256]
      have e : (joinL l).size = 257 := by omega
      rw [e]; rfl
    · rw [if_neg h256, Option.bind_some, split_join hok hl (by omega), if_pos rfl, texts_self l (by omega) _ (by omega), Option.bind_some, if_pos rfl, decide_eq_false (by omega)]
      rw [gatehouselaw13_DirWays.j0, if_neg (by simp)]
      exact ways_l0 l more hl hok l.length 999 0 ⟨#[]⟩ (by omega) (by omega) (by omega) reads_nil (by decide)
end Go.Proofs.YtijnlgmclaphhaaDoor
