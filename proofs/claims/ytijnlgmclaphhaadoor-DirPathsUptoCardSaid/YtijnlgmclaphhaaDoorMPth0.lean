import Derived.Test.YtijnlgmclaphhaaDoorU
import Derived.Test.YtijnlgmclaphhaaDoorGJ
import Derived.Test.YtijnlgmclaphhaaDoorB
import Derived.Test.YtijnlgmclaphhaaDoorZ36
import Derived.Test.YtijnlgmclaphhaaDoorZ0
import Derived.Test.YtijnlgmclaphhaaDoorE
import Derived.Test.YtijnlgmclaphhaaDoorN1
import Derived.Test.YtijnlgmclaphhaaDoorU2
import Derived.Test.YtijnlgmclaphhaaDoorQ2
import Derived.Test.YtijnlgmclaphhaaDoorCards
/-! Plain laws of paths: pieces of texts put together, what Split leaves, Join. -/
namespace Go.Proofs.YtijnlgmclaphhaaDoor
open Go Go.RowKit Go.Proofs.YtijnlgmclaphhaaDoorZ Go.Proofs.YtijnlgmclaphhaaDoorW.PrintWords

theorem cut_eq (c : UInt8) (l : List UInt8) : cutAt c (c :: l) = [] :: cutAt c l := by
  conv => lhs; unfold cutAt
  rw [if_pos rfl]
theorem cut_ne {c x : UInt8} {l p : List UInt8} {ps : List (List UInt8)} (h : ¬ x = c) (e : cutAt c l = p :: ps) : cutAt c (x :: l) = (x :: p) :: ps := by
  conv => lhs; unfold cutAt
  rw [if_neg h, e]
theorem cut_some (c : UInt8) (l : List UInt8) : ∃ p ps, cutAt c l = p :: ps := by
  cases e : cutAt c l with
  | nil => exact absurd e (cutAt_ne c l)
  | cons p ps => exact ⟨p, ps, rfl⟩
theorem cut_append (c : UInt8) : ∀ a b : List UInt8, cutAt c (a ++ c :: b) = cutAt c a ++ cutAt c b
  | [], b => by rw [List.nil_append, cut_eq]; rfl
  | x :: a, b => by
    rw [List.cons_append]
    have ih := cut_append c a b
    by_cases h : x = c
    · subst h; rw [cut_eq, cut_eq, ih]; rfl
    · obtain ⟨p, ps, e⟩ := cut_some c a
      rw [e, List.cons_append] at ih
      rw [cut_ne h ih, cut_ne h e]; rfl
theorem cut_mem (c : UInt8) : ∀ (l p : List UInt8), p ∈ cutAt c l → c ∉ p
  | [], p, h => by
    have : p = [] := by simpa [cutAt] using h
    rw [this]; simp
  | x :: l, p, h => by
    by_cases hx : x = c
    · subst hx
      rw [cut_eq] at h
      rcases List.mem_cons.1 h with rfl | h
      · simp
      · exact cut_mem _ l p h
    · obtain ⟨q, qs, e⟩ := cut_some c l
      rw [cut_ne hx e] at h
      rcases List.mem_cons.1 h with rfl | h
      · have := cut_mem c l q (by rw [e]; simp)
        rw [List.mem_cons]
        rintro (hq | hq)
        · exact hx hq.symm
        · exact this hq
      · exact cut_mem c l p (by rw [e]; exact List.mem_cons_of_mem _ h)
theorem cut_weight (c : UInt8) : ∀ l : List UInt8, ((cutAt c l).map fun p => p.length + 1).sum = l.length + 1
  | [] => rfl
  | x :: l => by
    have ih := cut_weight c l
    by_cases hx : x = c
    · subst hx; rw [cut_eq, List.map_cons, List.sum_cons, ih, List.length_cons, List.length_nil]; omega
    · obtain ⟨q, qs, e⟩ := cut_some c l
      rw [cut_ne hx e]
      rw [e] at ih
      simp only [List.map_cons, List.sum_cons, List.length_cons] at ih ⊢
      omega
theorem cut_free (c : UInt8) (l : List UInt8) (h : c ∉ l) : cutAt c l = [l] :=
  cutAt_none c l fun k hk => h (List.mem_of_getElem? hk)

def mkB (l : List UInt8) : ByteArray := ⟨l.toArray⟩
theorem mkB_data (s : ByteArray) : mkB s.data.toList = s := by unfold mkB; simp
theorem data_mkB (l : List UInt8) : (mkB l).data.toList = l := by unfold mkB; simp
theorem mkB_toList (l : List UInt8) : (mkB l).toList = l := by rw [Lib.toList_data, data_mkB]
theorem mkB_size (l : List UInt8) : (mkB l).size = l.length := by unfold mkB; simp [ByteArray.size]
theorem size_data (s : ByteArray) : s.size = s.data.toList.length := (Array.length_toList (xs := s.data)).symm
theorem app_data (a b : ByteArray) : (a ++ b).data.toList = a.data.toList ++ b.data.toList := by simp
theorem pieces_eq (s : ByteArray) : pieces s = (cutAt 47 s.data.toList).map mkB := rfl
theorem pieces_join (t : ByteArray) (r : List UInt8) (c : ByteArray) (hc : c.data.toList = 47 :: r) : pieces (t ++ c) = pieces t ++ (cutAt 47 r).map mkB := by
  rw [pieces_eq, app_data, hc, cut_append, List.map_append, ← pieces_eq]

/-- A name that a path can leave. -/
structure Okp (n : ByteArray) : Prop where
  zero : has0 n = false
  most : n.size ≤ 32
  some : n.toList ≠ []
  dot : n.toList ≠ [46]
  dots : n.toList ≠ [46, 46]
  free : (47 : UInt8) ∉ n.data.toList
theorem Okp.least {n : ByteArray} (h : Okp n) : 1 ≤ n.size := by
  have := h.some
  rw [Lib.toList_data] at this
  rw [size_data]
  cases e : n.data.toList with
  | nil => exact absurd e this
  | cons => simp
theorem badP_none {p : ByteArray} (h : badP p = none) : has0 p = false ∧ p.size ≤ 32 := by
  unfold badP at h
  split at h
  · cases h
  · split at h
    · cases h
    · exact ⟨by rename_i h1 _; simpa using h1, by omega⟩
theorem Okp.bad {p : ByteArray} (h : Okp p) : badP p = none := by
  unfold badP
  have := h.most
  rw [if_neg (by rw [h.zero]; simp), if_neg (by omega)]
theorem firstBad_none {ps : List ByteArray} : firstBad ps = none ↔ ∀ p ∈ ps, badP p = none := by
  unfold firstBad; rw [List.findSome?_eq_none_iff]
theorem badP_code {p : ByteArray} {e : Int} (h : badP p = some e) : e = 31 ∨ e = 32 := by
  unfold badP at h
  split at h
  · injection h with h; exact .inl h.symm
  · split at h
    · injection h with h; exact .inr h.symm
    · cases h
theorem firstBad_code {ps : List ByteArray} {e : Int} (h : firstBad ps = some e) : e = 31 ∨ e = 32 := by
  unfold firstBad at h
  obtain ⟨p, _, hp⟩ := List.exists_of_findSome?_eq_some h
  exact badP_code hp
theorem step_ok {n : ByteArray} (h : Okp n) (out : List ByteArray) : stepP out n = out ++ [n] := by
  unfold stepP
  rw [if_neg (by rintro (h1 | h1); exact h.some h1; exact h.dot h1), if_neg h.dots]
theorem fold_ok : ∀ (l out : List ByteArray), (∀ n ∈ l, Okp n) → l.foldl stepP out = out ++ l
  | [], out, _ => by simp
  | n :: l, out, h => by
    rw [List.foldl_cons, step_ok (h n (by simp)), fold_ok l _ fun m hm => h m (List.mem_cons_of_mem _ hm), List.append_assoc]; rfl
theorem fold_okp : ∀ (ps out : List ByteArray), (∀ p ∈ ps, badP p = none ∧ (47 : UInt8) ∉ p.data.toList) → (∀ n ∈ out, Okp n) → ∀ n ∈ ps.foldl stepP out, Okp n
  | [], out, _, h => h
  | p :: ps, out, hp, h => by
    rw [List.foldl_cons]
    refine fold_okp ps _ (fun q hq => hp q (List.mem_cons_of_mem _ hq)) ?_
    unfold stepP
    split
    · exact h
    · split
      · exact fun n hn => h n (List.dropLast_subset _ hn)
      · rename_i h1 h2
        intro n hn
        rcases List.mem_append.1 hn with hn | hn
        · exact h n hn
        · have e : n = p := by simpa using hn
          subst e
          obtain ⟨hb, hf⟩ := hp n (by simp)
          exact ⟨(badP_none hb).1, (badP_none hb).2, fun e => h1 (.inl e), fun e => h1 (.inr e), h2, hf⟩
def wt (ps : List ByteArray) : Nat := (ps.map fun p => p.size + 1).sum
theorem wt_append (a b : List ByteArray) : wt (a ++ b) = wt a + wt b := by simp [wt]
theorem wt_cons (a : ByteArray) (b : List ByteArray) : wt (a :: b) = a.size + 1 + wt b := by simp [wt]
theorem wt_dropLast : ∀ l : List ByteArray, wt l.dropLast ≤ wt l
  | [] => Nat.le_refl _
  | [a] => by simp [wt]
  | a :: b :: l => by
    rw [List.dropLast_cons_of_ne_nil (by simp), wt_cons, wt_cons]
    have := wt_dropLast (b :: l)
    omega
theorem fold_wt : ∀ ps out : List ByteArray, wt (ps.foldl stepP out) ≤ wt out + wt ps
  | [], out => by simp [wt]
  | p :: ps, out => by
    rw [List.foldl_cons, wt_cons]
    have h1 := fold_wt ps (stepP out p)
    have h2 : wt (stepP out p) ≤ wt out + (p.size + 1) := by
      unfold stepP
      split
      · omega
      · split
        · have := wt_dropLast out; omega
        · rw [wt_append]; simp [wt]
    omega
theorem wt_pieces (s : ByteArray) : wt (pieces s) = s.size + 1 := by
  unfold wt
  rw [pieces_eq, List.map_map, size_data s, ← cut_weight 47]
  exact congrArg List.sum (List.map_congr_left fun p _ => congrArg (· + 1) (mkB_size p))
theorem pieces_free {s p : ByteArray} (h : p ∈ pieces s) : (47 : UInt8) ∉ p.data.toList := by
  rw [pieces_eq] at h
  obtain ⟨q, hq, rfl⟩ := List.mem_map.1 h
  rw [data_mkB]
  exact cut_mem _ _ _ hq
/-- What Split answers: names, or a code. -/
theorem split_cases (s : ByteArray) : (splitL s).1 = [] ∧ ((splitL s).2 = 31 ∨ (splitL s).2 = 32) ∨ (splitL s).2 = 0 ∧ s.size ≤ 256 ∧ (splitL s).1 = outP (pieces s) ∧ (splitL s).1.length ≤ 16 ∧ ∀ n ∈ (splitL s).1, Okp n := by
  unfold splitL
  split
  · exact .inl ⟨rfl, .inr rfl⟩
  · rename_i h
    split
    · rename_i e he; exact .inl ⟨rfl, firstBad_code he⟩
    · rename_i he
      split
      · exact .inl ⟨rfl, .inr rfl⟩
      · rename_i h2
        refine .inr ⟨rfl, by omega, rfl, Nat.le_of_not_lt h2, ?_⟩
        exact fold_okp _ _ (fun p hp => ⟨firstBad_none.1 he p hp, pieces_free hp⟩) (fun n hn => nomatch hn)
theorem split_ok {s : ByteArray} {l : List ByteArray} (h : s.size ≤ 256) (hb : ∀ p ∈ pieces s, badP p = none) (ho : outP (pieces s) = l) (hl : l.length ≤ 16) : splitL s = (l, 0) := by
  unfold splitL
  rw [if_neg (by omega), firstBad_none.2 hb, ho]
  show (if 16 < l.length then _ else _) = _
  rw [if_neg (by omega)]

theorem joinB_cons (x : ByteArray) (r : List ByteArray) : joinB (x :: r) = x.data.toList ++ Lib.joinTail [47] (r.map (·.data.toList)) := by
  unfold joinB; rw [List.map_cons, Lib.join_cons]
theorem tail_cons (x : ByteArray) (r : List ByteArray) : Lib.joinTail [47] ((x :: r).map (·.data.toList)) = 47 :: joinB (x :: r) := by
  rw [joinB_cons]
  unfold Lib.joinTail
  simp only [List.map_cons, List.flatten_cons, List.cons_append, List.nil_append]
theorem joinB_len : ∀ (r : List ByteArray) (x : ByteArray), (joinB (x :: r)).length + 1 = wt (x :: r)
  | [], x => by
    rw [joinB_cons, wt_cons, List.length_append, size_data]
    simp [Lib.joinTail, wt]
  | y :: r, x => by
    have := joinB_len r y
    rw [joinB_cons, tail_cons, List.length_append, List.length_cons, wt_cons, size_data]
    omega
theorem joinB_cut : ∀ (r : List ByteArray) (x : ByteArray), (∀ n ∈ x :: r, (47 : UInt8) ∉ n.data.toList) → cutAt 47 (joinB (x :: r)) = (x :: r).map (·.data.toList)
  | [], x, h => by
    rw [joinB_cons]
    simp only [List.map_nil, Lib.joinTail, List.flatten_nil, List.append_nil, List.map_cons]
    exact cut_free _ _ (h x (by simp))
  | y :: r, x, h => by
    rw [joinB_cons, tail_cons, cut_append, joinB_cut r y fun n hn => h n (List.mem_cons_of_mem _ hn), cut_free _ _ (h x (by simp))]
    rfl
theorem joinL_data (l : List ByteArray) : (joinL l).data.toList = 47 :: joinB l := by
  unfold joinL; rw [app_data]; rfl
theorem joinL_size (l : List ByteArray) : (joinL l).size = 1 + (joinB l).length := by rw [size_data, joinL_data, List.length_cons]; omega
def restP : List ByteArray → List ByteArray
  | [] => [mkB []]
  | x :: r => x :: r
theorem has0_empty : has0 (mkB []) = false := by decide
theorem bad_empty : badP (mkB []) = none := by decide
/-- A path's names, put together, say themselves again. -/
theorem split_join {l : List ByteArray} (h : ∀ n ∈ l, Okp n) (hl : l.length ≤ 16) (hs : (joinL l).size ≤ 256) : splitL (joinL l) = (l, 0) := by
  have hp : pieces (joinL l) = mkB [] :: restP l := by
    rw [pieces_eq, joinL_data, cut_eq, List.map_cons]
    cases l with
    | nil => rfl
    | cons x r =>
      rw [joinB_cut r x fun n hn => (h n hn).free, List.map_map]
      have e : (x :: r).map (mkB ∘ fun n => n.data.toList) = x :: r := (List.map_congr_left (g := id) fun n _ => mkB_data n).trans (List.map_id _)
      rw [e]; rfl
  have he : stepP [] (mkB []) = [] := by unfold stepP; rw [if_pos (by rw [mkB_toList]; exact .inl rfl)]
  refine split_ok hs ?_ ?_ hl
  · rw [hp]
    intro p hp
    rcases List.mem_cons.1 hp with rfl | hp
    · exact bad_empty
    · cases l with
      | nil =>
        have e : p = mkB [] := by simpa [restP] using hp
        subst e; exact bad_empty
      | cons x r => exact (h p hp).bad
  · rw [hp]
    unfold outP
    rw [List.foldl_cons, he]
    cases l with
    | nil =>
      show List.foldl stepP [] [mkB []] = []
      rw [List.foldl_cons, he]; rfl
    | cons x r => exact fold_ok (x :: r) [] h
theorem rdB_at (l : List ByteArray) (i : Nat) (h : i < l.length) : rdOf ByteArray.empty l (i : Int) = l[i] := by
  unfold rdOf
  rw [Int.toNat_natCast, List.getD_eq_getElem?_getD, List.getElem?_eq_getElem h]; rfl
theorem texts_loop (l : List ByteArray) (hl : l.length ≤ 1000000) (n : Nat) : ∀ (k i : Nat), l.length - i = n → i ≤ l.length → n < k → gatehouseref13_SameTexts.l0 k l l (l.length : Int) (i : Int) = some true := by
  induction n with
  | zero =>
    intro k i h hi hk
    obtain ⟨k, rfl⟩ : ∃ q, k = q + 1 := ⟨k - 1, by omega⟩
    simp only [gatehouseref13_SameTexts.l0]
    rw [if_neg (by omega)]
  | succ n ih =>
    intro k i h hi hk
    obtain ⟨k, rfl⟩ : ∃ q, k = q + 1 := ⟨k - 1, by omega⟩
    simp only [gatehouseref13_SameTexts.l0]
    rw [if_pos (by omega), if_pos (by omega), if_pos (by omega), if_pos (by omega), if_true, w64 (x := (i : Int) + 1) (by omega) (by omega)]
    exact ih k (i + 1) (by omega) (by omega) (by omega)
theorem texts_self (l : List ByteArray) (hl : l.length ≤ 1000000) (k : Nat) (hk : l.length < k) : gatehouseref13_SameTexts.f k l l = some true := by
  unfold gatehouseref13_SameTexts.f
  rw [if_pos rfl]
  exact texts_loop l hl l.length k 0 (by omega) (by omega) hk
end Go.Proofs.YtijnlgmclaphhaaDoor
-- Written by a program of this session (gprint.py, over the kit's printer).
namespace Go.Proofs.YtijnlgmclaphhaaDoorZ
open Go.RowKit Go.Proofs.YtijnlgmclaphhaaDoorW.PrintWords Go.Proofs.YtijnlgmclaphhaaDoorW.PrintLast Go.Proofs.YtijnlgmclaphhaaDoorW.PrintMore
attribute [local go_sem] max2_int min2_int max_two min_two max_three min_three max_four min_four   -- for this text's walks alone
set_option linter.unusedVariables false
set_option linter.unusedSimpArgs false

/-! ### gatehouselaw13_lives: function 10 -/
def gatehouselaw13_lives.f (k : Nat)  : Option (Bool) := (dir_Put.f ([] : List (S25)) (⟨#[98]⟩ : ByteArray) 1 7).bind fun bt126 => ((dir_Put.f bt126.1 (⟨#[97]⟩ : ByteArray) 2 9).bind fun bt130 => ((dir_Encode.f bt130.1).bind fun bt134 => ((dir_Split.f (⟨#[47, 97, 47, 47, 46, 47, 98, 47, 46, 46, 47, 99]⟩ : ByteArray)).bind fun bt136 => (if bt126.2 = 0 then (if bt130.2 = 0 then (if bt134.2 = 0 then (if bt136.2 = 0 then (if bt134.1.toList = ([1, 97, 2, 9, 0, 0, 0, 0, 0, 0, 0, 1, 98, 1, 7, 0, 0, 0, 0, 0, 0, 0] : List UInt8) then ((gatehouseref13_SameTexts.f k bt136.1 (([(⟨#[97]⟩ : ByteArray), (⟨#[99]⟩ : ByteArray)] : List ByteArray))).bind fun t143 => (some t143)) else (some false)) else (some false)) else (some false)) else (some false)) else (some false)))))
theorem gatehouselaw13_lives.mono : ∀ k, LeO (gatehouselaw13_lives.f k ) (gatehouselaw13_lives.f (k + 1) ) := by
  intro  k
  unfold gatehouselaw13_lives.f
  repeat' first
      | (with_reducible exact gatehouseref13_SameTexts.mono _ _ _)
      | (with_reducible exact LeO.refl _)
      | (with_reducible exact LeO.none _)
      | (with_reducible refine LeO.ite ?_ ?_)
      | (with_reducible refine LeO.bind ?_ (fun _ => ?_))
      | exact gatehouseref13_SameTexts.mono _ _ _
      | exact LeO.none _
      | refine LeO.ite ?_ ?_
      | refine LeO.bind ?_ (fun _ => ?_)
set_option maxHeartbeats 8000000 in
set_option maxRecDepth 100000 in
theorem gatehouselaw13_lives.calls (k : Nat)  (r : Bool) (w : World) (h : gatehouselaw13_lives.f k  = some r) :
    Calls Tryd.prog 10 #[] w fun e w' => e = .returned (.bool r) ∧ Below w.heap.size w w' := by
  have hu25 := Tryd.underlying25
  have HB := Aside0.mk (Below.refl w.heap.size w)
  have H : ((dir_Put.f ([] : List (S25)) (⟨#[98]⟩ : ByteArray) 1 7).bind fun bt126 => ((dir_Put.f bt126.1 (⟨#[97]⟩ : ByteArray) 2 9).bind fun bt130 => ((dir_Encode.f bt130.1).bind fun bt134 => ((dir_Split.f (⟨#[47, 97, 47, 47, 46, 47, 98, 47, 46, 46, 47, 99]⟩ : ByteArray)).bind fun bt136 => (if bt126.2 = 0 then (if bt130.2 = 0 then (if bt134.2 = 0 then (if bt136.2 = 0 then (if bt134.1.toList = ([1, 97, 2, 9, 0, 0, 0, 0, 0, 0, 0, 1, 98, 1, 7, 0, 0, 0, 0, 0, 0, 0] : List UInt8) then ((gatehouseref13_SameTexts.f k bt136.1 (([(⟨#[97]⟩ : ByteArray), (⟨#[99]⟩ : ByteArray)] : List ByteArray))).bind fun t143 => (some t143)) else (some false)) else (some false)) else (some false)) else (some false)) else (some false)))))) = some r := h
  clear h
  replace H := Option.bind_eq_some_iff.mp H
  obtain ⟨⟨t126, t129⟩, A10, H⟩ := H
  replace H : ((dir_Put.f t126 (⟨#[97]⟩ : ByteArray) 2 9).bind fun bt130 => ((dir_Encode.f bt130.1).bind fun bt134 => ((dir_Split.f (⟨#[47, 97, 47, 47, 46, 47, 98, 47, 46, 46, 47, 99]⟩ : ByteArray)).bind fun bt136 => (if t129 = 0 then (if bt130.2 = 0 then (if bt134.2 = 0 then (if bt136.2 = 0 then (if bt134.1.toList = ([1, 97, 2, 9, 0, 0, 0, 0, 0, 0, 0, 1, 98, 1, 7, 0, 0, 0, 0, 0, 0, 0] : List UInt8) then ((gatehouseref13_SameTexts.f k bt136.1 (([(⟨#[97]⟩ : ByteArray), (⟨#[99]⟩ : ByteArray)] : List ByteArray))).bind fun t143 => (some t143)) else (some false)) else (some false)) else (some false)) else (some false)) else (some false))))) = some r := H
  have A1 := Aside0.mk A10
  clear A10
  replace H := Option.bind_eq_some_iff.mp H
  obtain ⟨⟨t130, t133⟩, A20, H⟩ := H
  replace H : ((dir_Encode.f t130).bind fun bt134 => ((dir_Split.f (⟨#[47, 97, 47, 47, 46, 47, 98, 47, 46, 46, 47, 99]⟩ : ByteArray)).bind fun bt136 => (if t129 = 0 then (if t133 = 0 then (if bt134.2 = 0 then (if bt136.2 = 0 then (if bt134.1.toList = ([1, 97, 2, 9, 0, 0, 0, 0, 0, 0, 0, 1, 98, 1, 7, 0, 0, 0, 0, 0, 0, 0] : List UInt8) then ((gatehouseref13_SameTexts.f k bt136.1 (([(⟨#[97]⟩ : ByteArray), (⟨#[99]⟩ : ByteArray)] : List ByteArray))).bind fun t143 => (some t143)) else (some false)) else (some false)) else (some false)) else (some false)) else (some false)))) = some r := H
  have A2 := Aside0.mk A20
  clear A20
  replace H := Option.bind_eq_some_iff.mp H
  obtain ⟨⟨t134, t135⟩, A30, H⟩ := H
  replace H : ((dir_Split.f (⟨#[47, 97, 47, 47, 46, 47, 98, 47, 46, 46, 47, 99]⟩ : ByteArray)).bind fun bt136 => (if t129 = 0 then (if t133 = 0 then (if t135 = 0 then (if bt136.2 = 0 then (if t134.toList = ([1, 97, 2, 9, 0, 0, 0, 0, 0, 0, 0, 1, 98, 1, 7, 0, 0, 0, 0, 0, 0, 0] : List UInt8) then ((gatehouseref13_SameTexts.f k bt136.1 (([(⟨#[97]⟩ : ByteArray), (⟨#[99]⟩ : ByteArray)] : List ByteArray))).bind fun t143 => (some t143)) else (some false)) else (some false)) else (some false)) else (some false)) else (some false))) = some r := H
  have A3 := Aside0.mk A30
  clear A30
  replace H := Option.bind_eq_some_iff.mp H
  obtain ⟨⟨t136, t137⟩, A40, H⟩ := H
  replace H : (if t129 = 0 then (if t133 = 0 then (if t135 = 0 then (if t137 = 0 then (if t134.toList = ([1, 97, 2, 9, 0, 0, 0, 0, 0, 0, 0, 1, 98, 1, 7, 0, 0, 0, 0, 0, 0, 0] : List UInt8) then ((gatehouseref13_SameTexts.f k t136 (([(⟨#[97]⟩ : ByteArray), (⟨#[99]⟩ : ByteArray)] : List ByteArray))).bind fun t143 => (some t143)) else (some false)) else (some false)) else (some false)) else (some false)) else (some false)) = some r := H
  have A4 := Aside0.mk A40
  clear A40
  by_cases c5 : t129 = 0
  · rw [if_pos c5] at H
    have c5b0 : (t129 == 0) = true := beq_iff_eq.mpr c5
    have c5b1 : (t129 != 0) = false := bne_eq_false_iff_eq.mpr c5
    clear c5
    by_cases c6 : t133 = 0
    · rw [if_pos c6] at H
      have c6b0 : (t133 == 0) = true := beq_iff_eq.mpr c6
      have c6b1 : (t133 != 0) = false := bne_eq_false_iff_eq.mpr c6
      clear c6
      by_cases c7 : t135 = 0
      · rw [if_pos c7] at H
        have c7b0 : (t135 == 0) = true := beq_iff_eq.mpr c7
        have c7b1 : (t135 != 0) = false := bne_eq_false_iff_eq.mpr c7
        clear c7
        by_cases c8 : t137 = 0
        · rw [if_pos c8] at H
          have c8b0 : (t137 == 0) = true := beq_iff_eq.mpr c8
          have c8b1 : (t137 != 0) = false := bne_eq_false_iff_eq.mpr c8
          clear c8
          by_cases c9 : t134.toList = ([1, 97, 2, 9, 0, 0, 0, 0, 0, 0, 0, 1, 98, 1, 7, 0, 0, 0, 0, 0, 0, 0] : List UInt8)
          · rw [if_pos c9] at H
            have c9b0 : (t134.toList == ([1, 97, 2, 9, 0, 0, 0, 0, 0, 0, 0, 1, 98, 1, 7, 0, 0, 0, 0, 0, 0, 0] : List UInt8)) = true := beq_iff_eq.mpr c9
            have c9b1 : (t134.toList != ([1, 97, 2, 9, 0, 0, 0, 0, 0, 0, 0, 1, 98, 1, 7, 0, 0, 0, 0, 0, 0, 0] : List UInt8)) = false := bne_eq_false_iff_eq.mpr c9
            clear c9
            obtain ⟨y140, hy140⟩ : ∃ y_ : List ByteArray, y_ = (([(⟨#[97]⟩ : ByteArray), (⟨#[99]⟩ : ByteArray)] : List ByteArray)) := ⟨_, rfl⟩
            replace H : ((gatehouseref13_SameTexts.f k t136 y140).bind fun t143 => (some t143)) = some r := by first | (rw [hy140]; with_reducible exact H) | (have H2_ := (Option.bind_some _ _).symm.trans H; rw [hy140]; with_reducible exact H2_) | (have H2_ := (Option.bind_some _ _).symm.trans H; with_reducible exact H2_) | with_reducible exact H | (rw [hy140]; exact H) | exact H
            have Ny140 := Aside0.mk hy140
            clear hy140
            replace H := Option.bind_eq_some_iff.mp H
            obtain ⟨t143, A100, H⟩ := H
            replace H : (some t143) = some r := H
            have A10 := Aside0.mk A100
            clear A100
            obtain rfl := Option.some.inj H
            go_enter Tryd.func10, Tryd.ntmps10
            go_wp2_with (first | ((with_reducible refine gate_callee (f := 11) rfl ?_); refine goesL_ (some 11) rfl rfl Tryd.func11 (by kernel_rfl) rfl #[.slice none 0 0, .agg #[.string (⟨#[98]⟩ : ByteArray), .int .i64 1, .int .i64 7]] rfl (by (try simp only [List.map_toArray, List.map_cons, List.map_nil]); first | done | rfl | (simp only [List.length_drop, List.length_take]; rfl)) ?_; (refine (dir_Put.calls _ _ ([] : List (S25)) (⟨#[98]⟩ : ByteArray) 1 7 t126 t129 _ ?side1 ?side2 A1.out).mono ?_); (case side1 => exact Kd.C_nil _ _); (case side2 => exact Nat.le_refl _); rintro e w11 ⟨v127, rfl, ho0, hb⟩; refine ⟨_, rfl, ?_⟩; have n0_ := Aside0.mk (Kd.R_lower ho0 (below_size (by repeat (first | (with_reducible first | exact HB.out | apply below_alloc | apply pw_below_drewN | apply below_drew1) | exact HB.out)))); have n1_ := Aside0.mk (below_step (by repeat (first | (with_reducible first | exact HB.out | apply below_alloc | apply pw_below_drewN | apply below_drew1) | exact HB.out)) hb); clear HB; have HO128 := n0_; have HB := n1_; clear n0_ n1_; (try clear hb); (try clear hb2); (try clear hk); (try clear hi); (try clear ho0); obtain ⟨Ao12, co12, eo12⟩ := Kd.R_slice HO128.out; subst eo12) | ((with_reducible refine gate_callee (f := 11) rfl ?_); refine goesL_ (some 17) rfl rfl Tryd.func11 (by kernel_rfl) rfl #[.slice Ao12 t126.length co12, .agg #[.string (⟨#[97]⟩ : ByteArray), .int .i64 2, .int .i64 9]] rfl (by (try simp only [List.map_toArray, List.map_cons, List.map_nil]); first | done | rfl | (simp only [List.length_drop, List.length_take]; rfl)) ?_; (with_reducible refine (dir_Put.calls _ _ t126 (⟨#[97]⟩ : ByteArray) 2 9 t130 t133 _ ?side1 ?side2 A2.out).mono ?_); (case side1 => repeat (first | exact (Kd.R_reads' HO128.out).2.2 | (with_reducible refine Kd.C_alloc ?_ _) | (with_reducible refine Kd.C_drewN ?_ _) | (with_reducible refine Kd.C_drew ?_))); (case side2 => exact (Kd.R_reads' HO128.out).2.1); rintro e w13 ⟨v131, rfl, ho0, hb⟩; refine ⟨_, rfl, ?_⟩; have n0_ := Aside0.mk (Kd.R_elder' (by (with_reducible repeat (first | apply Kd.R_alloc | apply Kd.R_drewN | apply Kd.R_drew)); exact HO128.out) (Kd.R_base ho0) hb); have n1_ := Aside0.mk (Kd.R_lower (Kd.R_new' ho0 (Kd.R_lt (by (with_reducible repeat (first | apply Kd.R_alloc | apply Kd.R_drewN | apply Kd.R_drew)); exact HO128.out))) (below_size (by repeat (first | (with_reducible first | exact HB.out | apply below_alloc | apply pw_below_drewN | apply below_drew1) | exact HB.out)))); have n2_ := Aside0.mk (below_step (by repeat (first | (with_reducible first | exact HB.out | apply below_alloc | apply pw_below_drewN | apply below_drew1) | exact HB.out)) hb); clear HO128; clear HB; have HO128 := n0_; have HO132 := n1_; have HB := n2_; clear n0_ n1_ n2_; (try clear hb); (try clear hb2); (try clear hk); (try clear hi); (try clear ho0); obtain ⟨Ao14, co14, eo14⟩ := Kd.R_slice HO132.out; subst eo14) | ((with_reducible refine gate_callee (f := 15) rfl ?_); refine goesL_ (some 22) rfl rfl Tryd.func15 (by kernel_rfl) rfl #[.slice Ao14 t130.length co14] rfl (by (try simp only [List.map_toArray, List.map_cons, List.map_nil]); first | done | rfl | (simp only [List.length_drop, List.length_take]; rfl)) ?_; (with_reducible refine (dir_Encode.calls _ _ t130 t134 t135 _ ?side1 ?side2 A3.out).mono ?_); (case side1 => repeat (first | exact (Kd.R_reads' HO132.out).2.2 | (with_reducible refine Kd.C_alloc ?_ _) | (with_reducible refine Kd.C_drewN ?_ _) | (with_reducible refine Kd.C_drew ?_))); (case side2 => exact (Kd.R_reads' HO132.out).2.1); rintro e w15 ⟨rfl, hb⟩; refine ⟨_, rfl, ?_⟩; have n0_ := Aside0.mk (Kd.R_below (by (with_reducible repeat (first | apply Kd.R_alloc | apply Kd.R_drewN | apply Kd.R_drew)); exact HO128.out) hb); have n1_ := Aside0.mk (Kd.R_below (by (with_reducible repeat (first | apply Kd.R_alloc | apply Kd.R_drewN | apply Kd.R_drew)); exact HO132.out) hb); have n2_ := Aside0.mk (below_step (by repeat (first | (with_reducible first | exact HB.out | apply below_alloc | apply pw_below_drewN | apply below_drew1) | exact HB.out)) hb); clear HO128; clear HO132; clear HB; have HO128 := n0_; have HO132 := n1_; have HB := n2_; clear n0_ n1_ n2_; (try clear hb); (try clear hb2); (try clear hk); (try clear hi)) | ((with_reducible refine gate_callee (f := 24) rfl ?_); refine goesL_ (some 26) rfl rfl Tryd.func24 (by kernel_rfl) rfl #[.string (⟨#[47, 97, 47, 47, 46, 47, 98, 47, 46, 46, 47, 99]⟩ : ByteArray)] rfl (by (try simp only [List.map_toArray, List.map_cons, List.map_nil]); first | done | rfl | (simp only [List.length_drop, List.length_take]; rfl)) ?_; (with_reducible refine (dir_Split.calls (⟨#[47, 97, 47, 47, 46, 47, 98, 47, 46, 46, 47, 99]⟩ : ByteArray) t136 t137 _ A4.out).mono ?_); rintro e w16 ⟨v138, rfl, ho0, hb⟩; refine ⟨_, rfl, ?_⟩; have n0_ := Aside0.mk (Kd.R_below (by (with_reducible repeat (first | apply Kd.R_alloc | apply Kd.R_drewN | apply Kd.R_drew)); exact HO128.out) hb); have n1_ := Aside0.mk (Kd.R_below (by (with_reducible repeat (first | apply Kd.R_alloc | apply Kd.R_drewN | apply Kd.R_drew)); exact HO132.out) hb); have n2_ := Aside0.mk (Kd.R_lower ho0 (below_size (by repeat (first | (with_reducible first | exact HB.out | apply below_alloc | apply pw_below_drewN | apply below_drew1) | exact HB.out)))); have n3_ := Aside0.mk (below_step (by repeat (first | (with_reducible first | exact HB.out | apply below_alloc | apply pw_below_drewN | apply below_drew1) | exact HB.out)) hb); clear HO128; clear HO132; clear HB; have HO128 := n0_; have HO132 := n1_; have HO139 := n2_; have HB := n3_; clear n0_ n1_ n2_ n3_; (try clear hb); (try clear hb2); (try clear hk); (try clear hi); (try clear ho0)) | ((with_reducible refine gate_dst (N := 49) rfl ?_); (try (refine gate_guard (by rfl) ?_; dsimp only)); refine Kd.R_lit Kd.string _ 9 ?hg (N := 49) ?hd (xs := ([(⟨#[97]⟩ : ByteArray), (⟨#[99]⟩ : ByteArray)] : List ByteArray)) (inner := [.string (⟨#[97]⟩ : ByteArray), .string (⟨#[99]⟩ : ByteArray)]) (ok := fun _ => True) (okp := fun _ => True) ?hr ?hp (fun _ hk => hk) trivial (Below.refl _ _) (Nat.le_refl _) (by simp) ?_; (case hd => rfl); (case hg => rfl); (case hr => first | (go_simp; done) | (go_simp; rfl)); (case hp => exact (Reps.one (show Kd.M Kd.string _ _ _ (⟨#[97]⟩ : ByteArray) [.string (⟨#[97]⟩ : ByteArray)] from rfl) (Reps.one (show Kd.M Kd.string _ _ _ (⟨#[99]⟩ : ByteArray) [.string (⟨#[99]⟩ : ByteArray)] from rfl) (Reps.none _ _)))); intro v141 w17 ho18 hb hg_ hnew_; clear hg_ hnew_; (first | rw [← Ny140.out] at ho18 | (simp only [Int.reduceToNat] at ho18; rw [← Ny140.out] at ho18)); have n0_ := Aside0.mk (Kd.R_below (by (with_reducible repeat (first | apply Kd.R_alloc | apply Kd.R_drewN | apply Kd.R_drew)); exact HO128.out) hb); have n1_ := Aside0.mk (Kd.R_below (by (with_reducible repeat (first | apply Kd.R_alloc | apply Kd.R_drewN | apply Kd.R_drew)); exact HO132.out) hb); have n2_ := Aside0.mk (Kd.R_elder' (by (with_reducible repeat (first | apply Kd.R_alloc | apply Kd.R_drewN | apply Kd.R_drew)); exact HO139.out) (Kd.R_base ho18) hb); have n3_ := Aside0.mk (Kd.R_lower (Kd.R_new' ho18 (Kd.R_lt (by (with_reducible repeat (first | apply Kd.R_alloc | apply Kd.R_drewN | apply Kd.R_drew)); exact HO139.out))) (below_size (by repeat (first | (with_reducible first | exact HB.out | apply below_alloc | apply pw_below_drewN | apply below_drew1) | exact HB.out)))); have n4_ := Aside0.mk (below_step (by repeat (first | (with_reducible first | exact HB.out | apply below_alloc | apply pw_below_drewN | apply below_drew1) | exact HB.out)) hb); clear HO128; clear HO132; clear HO139; clear HB; have HO128 := n0_; have HO132 := n1_; have HO139 := n2_; have HO142 := n3_; have HB := n4_; clear n0_ n1_ n2_ n3_ n4_; clear hb ho18; obtain ⟨Ao19, co19, eo19⟩ := Kd.R_slice HO139.out; subst eo19; obtain ⟨Ao20, co20, eo20⟩ := Kd.R_slice HO142.out; subst eo20) | (go_at_call 26; (with_reducible refine (gatehouseref13_SameTexts.calls k _ _ t136 _ _ y140 t143 _ ?side1 ?side2 ?side3 ?side4 A10.out).mono ?_); (case side1 => repeat (first | exact (Kd.R_reads' HO139.out).2.2 | (with_reducible refine Kd.C_alloc ?_ _) | (with_reducible refine Kd.C_drewN ?_ _) | (with_reducible refine Kd.C_drew ?_))); (case side2 => exact (Kd.R_reads' HO139.out).2.1); (case side3 => repeat (first | exact (Kd.R_reads' HO142.out).2.2 | (with_reducible refine Kd.C_alloc ?_ _) | (with_reducible refine Kd.C_drewN ?_ _) | (with_reducible refine Kd.C_drew ?_))); (case side4 => exact (Kd.R_reads' HO142.out).2.1); rintro e w' ⟨rfl, ⟨nd, rfl⟩⟩))
            go_ret
            exact ⟨by first | rfl | (simp [errW_none, errW_some] <;> rfl) | (simp [*, errW_none, errW_some] <;> rfl), by repeat (first | (with_reducible first | exact HB.out | apply below_alloc | apply pw_below_drewN | apply below_drew1) | exact HB.out)⟩
          · rw [if_neg c9] at H
            have c9b0 : (t134.toList == ([1, 97, 2, 9, 0, 0, 0, 0, 0, 0, 0, 1, 98, 1, 7, 0, 0, 0, 0, 0, 0, 0] : List UInt8)) = false := beq_eq_false_iff_ne.mpr c9
            have c9b1 : (t134.toList != ([1, 97, 2, 9, 0, 0, 0, 0, 0, 0, 0, 1, 98, 1, 7, 0, 0, 0, 0, 0, 0, 0] : List UInt8)) = true := bne_iff_ne.mpr c9
            obtain rfl := Option.some.inj H
            go_enter Tryd.func10, Tryd.ntmps10
            go_wp2_with (first | ((with_reducible refine gate_callee (f := 11) rfl ?_); refine goesL_ (some 11) rfl rfl Tryd.func11 (by kernel_rfl) rfl #[.slice none 0 0, .agg #[.string (⟨#[98]⟩ : ByteArray), .int .i64 1, .int .i64 7]] rfl (by (try simp only [List.map_toArray, List.map_cons, List.map_nil]); first | done | rfl | (simp only [List.length_drop, List.length_take]; rfl)) ?_; (refine (dir_Put.calls _ _ ([] : List (S25)) (⟨#[98]⟩ : ByteArray) 1 7 t126 t129 _ ?side1 ?side2 A1.out).mono ?_); (case side1 => exact Kd.C_nil _ _); (case side2 => exact Nat.le_refl _); rintro e w21 ⟨v127, rfl, ho0, hb⟩; refine ⟨_, rfl, ?_⟩; have n0_ := Aside0.mk (Kd.R_lower ho0 (below_size (by repeat (first | (with_reducible first | exact HB.out | apply below_alloc | apply pw_below_drewN | apply below_drew1) | exact HB.out)))); have n1_ := Aside0.mk (below_step (by repeat (first | (with_reducible first | exact HB.out | apply below_alloc | apply pw_below_drewN | apply below_drew1) | exact HB.out)) hb); clear HB; have HO128 := n0_; have HB := n1_; clear n0_ n1_; (try clear hb); (try clear hb2); (try clear hk); (try clear hi); (try clear ho0); obtain ⟨Ao22, co22, eo22⟩ := Kd.R_slice HO128.out; subst eo22) | ((with_reducible refine gate_callee (f := 11) rfl ?_); refine goesL_ (some 17) rfl rfl Tryd.func11 (by kernel_rfl) rfl #[.slice Ao22 t126.length co22, .agg #[.string (⟨#[97]⟩ : ByteArray), .int .i64 2, .int .i64 9]] rfl (by (try simp only [List.map_toArray, List.map_cons, List.map_nil]); first | done | rfl | (simp only [List.length_drop, List.length_take]; rfl)) ?_; (with_reducible refine (dir_Put.calls _ _ t126 (⟨#[97]⟩ : ByteArray) 2 9 t130 t133 _ ?side1 ?side2 A2.out).mono ?_); (case side1 => repeat (first | exact (Kd.R_reads' HO128.out).2.2 | (with_reducible refine Kd.C_alloc ?_ _) | (with_reducible refine Kd.C_drewN ?_ _) | (with_reducible refine Kd.C_drew ?_))); (case side2 => exact (Kd.R_reads' HO128.out).2.1); rintro e w23 ⟨v131, rfl, ho0, hb⟩; refine ⟨_, rfl, ?_⟩; have n0_ := Aside0.mk (Kd.R_elder' (by (with_reducible repeat (first | apply Kd.R_alloc | apply Kd.R_drewN | apply Kd.R_drew)); exact HO128.out) (Kd.R_base ho0) hb); have n1_ := Aside0.mk (Kd.R_lower (Kd.R_new' ho0 (Kd.R_lt (by (with_reducible repeat (first | apply Kd.R_alloc | apply Kd.R_drewN | apply Kd.R_drew)); exact HO128.out))) (below_size (by repeat (first | (with_reducible first | exact HB.out | apply below_alloc | apply pw_below_drewN | apply below_drew1) | exact HB.out)))); have n2_ := Aside0.mk (below_step (by repeat (first | (with_reducible first | exact HB.out | apply below_alloc | apply pw_below_drewN | apply below_drew1) | exact HB.out)) hb); clear HO128; clear HB; have HO128 := n0_; have HO132 := n1_; have HB := n2_; clear n0_ n1_ n2_; (try clear hb); (try clear hb2); (try clear hk); (try clear hi); (try clear ho0); obtain ⟨Ao24, co24, eo24⟩ := Kd.R_slice HO132.out; subst eo24) | ((with_reducible refine gate_callee (f := 15) rfl ?_); refine goesL_ (some 22) rfl rfl Tryd.func15 (by kernel_rfl) rfl #[.slice Ao24 t130.length co24] rfl (by (try simp only [List.map_toArray, List.map_cons, List.map_nil]); first | done | rfl | (simp only [List.length_drop, List.length_take]; rfl)) ?_; (with_reducible refine (dir_Encode.calls _ _ t130 t134 t135 _ ?side1 ?side2 A3.out).mono ?_); (case side1 => repeat (first | exact (Kd.R_reads' HO132.out).2.2 | (with_reducible refine Kd.C_alloc ?_ _) | (with_reducible refine Kd.C_drewN ?_ _) | (with_reducible refine Kd.C_drew ?_))); (case side2 => exact (Kd.R_reads' HO132.out).2.1); rintro e w25 ⟨rfl, hb⟩; refine ⟨_, rfl, ?_⟩; have n0_ := Aside0.mk (Kd.R_below (by (with_reducible repeat (first | apply Kd.R_alloc | apply Kd.R_drewN | apply Kd.R_drew)); exact HO128.out) hb); have n1_ := Aside0.mk (Kd.R_below (by (with_reducible repeat (first | apply Kd.R_alloc | apply Kd.R_drewN | apply Kd.R_drew)); exact HO132.out) hb); have n2_ := Aside0.mk (below_step (by repeat (first | (with_reducible first | exact HB.out | apply below_alloc | apply pw_below_drewN | apply below_drew1) | exact HB.out)) hb); clear HO128; clear HO132; clear HB; have HO128 := n0_; have HO132 := n1_; have HB := n2_; clear n0_ n1_ n2_; (try clear hb); (try clear hb2); (try clear hk); (try clear hi)) | ((with_reducible refine gate_callee (f := 24) rfl ?_); refine goesL_ (some 26) rfl rfl Tryd.func24 (by kernel_rfl) rfl #[.string (⟨#[47, 97, 47, 47, 46, 47, 98, 47, 46, 46, 47, 99]⟩ : ByteArray)] rfl (by (try simp only [List.map_toArray, List.map_cons, List.map_nil]); first | done | rfl | (simp only [List.length_drop, List.length_take]; rfl)) ?_; (with_reducible refine (dir_Split.calls (⟨#[47, 97, 47, 47, 46, 47, 98, 47, 46, 46, 47, 99]⟩ : ByteArray) t136 t137 _ A4.out).mono ?_); rintro e w26 ⟨v138, rfl, ho0, hb⟩; refine ⟨_, rfl, ?_⟩; have n0_ := Aside0.mk (Kd.R_below (by (with_reducible repeat (first | apply Kd.R_alloc | apply Kd.R_drewN | apply Kd.R_drew)); exact HO128.out) hb); have n1_ := Aside0.mk (Kd.R_below (by (with_reducible repeat (first | apply Kd.R_alloc | apply Kd.R_drewN | apply Kd.R_drew)); exact HO132.out) hb); have n2_ := Aside0.mk (Kd.R_lower ho0 (below_size (by repeat (first | (with_reducible first | exact HB.out | apply below_alloc | apply pw_below_drewN | apply below_drew1) | exact HB.out)))); have n3_ := Aside0.mk (below_step (by repeat (first | (with_reducible first | exact HB.out | apply below_alloc | apply pw_below_drewN | apply below_drew1) | exact HB.out)) hb); clear HO128; clear HO132; clear HB; have HO128 := n0_; have HO132 := n1_; have HO139 := n2_; have HB := n3_; clear n0_ n1_ n2_ n3_; (try clear hb); (try clear hb2); (try clear hk); (try clear hi); (try clear ho0)))
            go_ret
            exact ⟨by first | rfl | (simp [errW_none, errW_some] <;> rfl) | (simp [*, errW_none, errW_some] <;> rfl), by repeat (first | (with_reducible first | exact HB.out | apply below_alloc | apply pw_below_drewN | apply below_drew1) | exact HB.out)⟩
        · rw [if_neg c8] at H
          have c8b0 : (t137 == 0) = false := beq_eq_false_iff_ne.mpr c8
          have c8b1 : (t137 != 0) = true := bne_iff_ne.mpr c8
          obtain rfl := Option.some.inj H
          go_enter Tryd.func10, Tryd.ntmps10
          go_wp2_with (first | ((with_reducible refine gate_callee (f := 11) rfl ?_); refine goesL_ (some 11) rfl rfl Tryd.func11 (by kernel_rfl) rfl #[.slice none 0 0, .agg #[.string (⟨#[98]⟩ : ByteArray), .int .i64 1, .int .i64 7]] rfl (by (try simp only [List.map_toArray, List.map_cons, List.map_nil]); first | done | rfl | (simp only [List.length_drop, List.length_take]; rfl)) ?_; (refine (dir_Put.calls _ _ ([] : List (S25)) (⟨#[98]⟩ : ByteArray) 1 7 t126 t129 _ ?side1 ?side2 A1.out).mono ?_); (case side1 => exact Kd.C_nil _ _); (case side2 => exact Nat.le_refl _); rintro e w27 ⟨v127, rfl, ho0, hb⟩; refine ⟨_, rfl, ?_⟩; have n0_ := Aside0.mk (Kd.R_lower ho0 (below_size (by repeat (first | (with_reducible first | exact HB.out | apply below_alloc | apply pw_below_drewN | apply below_drew1) | exact HB.out)))); have n1_ := Aside0.mk (below_step (by repeat (first | (with_reducible first | exact HB.out | apply below_alloc | apply pw_below_drewN | apply below_drew1) | exact HB.out)) hb); clear HB; have HO128 := n0_; have HB := n1_; clear n0_ n1_; (try clear hb); (try clear hb2); (try clear hk); (try clear hi); (try clear ho0); obtain ⟨Ao28, co28, eo28⟩ := Kd.R_slice HO128.out; subst eo28) | ((with_reducible refine gate_callee (f := 11) rfl ?_); refine goesL_ (some 17) rfl rfl Tryd.func11 (by kernel_rfl) rfl #[.slice Ao28 t126.length co28, .agg #[.string (⟨#[97]⟩ : ByteArray), .int .i64 2, .int .i64 9]] rfl (by (try simp only [List.map_toArray, List.map_cons, List.map_nil]); first | done | rfl | (simp only [List.length_drop, List.length_take]; rfl)) ?_; (with_reducible refine (dir_Put.calls _ _ t126 (⟨#[97]⟩ : ByteArray) 2 9 t130 t133 _ ?side1 ?side2 A2.out).mono ?_); (case side1 => repeat (first | exact (Kd.R_reads' HO128.out).2.2 | (with_reducible refine Kd.C_alloc ?_ _) | (with_reducible refine Kd.C_drewN ?_ _) | (with_reducible refine Kd.C_drew ?_))); (case side2 => exact (Kd.R_reads' HO128.out).2.1); rintro e w29 ⟨v131, rfl, ho0, hb⟩; refine ⟨_, rfl, ?_⟩; have n0_ := Aside0.mk (Kd.R_elder' (by (with_reducible repeat (first | apply Kd.R_alloc | apply Kd.R_drewN | apply Kd.R_drew)); exact HO128.out) (Kd.R_base ho0) hb); have n1_ := Aside0.mk (Kd.R_lower (Kd.R_new' ho0 (Kd.R_lt (by (with_reducible repeat (first | apply Kd.R_alloc | apply Kd.R_drewN | apply Kd.R_drew)); exact HO128.out))) (below_size (by repeat (first | (with_reducible first | exact HB.out | apply below_alloc | apply pw_below_drewN | apply below_drew1) | exact HB.out)))); have n2_ := Aside0.mk (below_step (by repeat (first | (with_reducible first | exact HB.out | apply below_alloc | apply pw_below_drewN | apply below_drew1) | exact HB.out)) hb); clear HO128; clear HB; have HO128 := n0_; have HO132 := n1_; have HB := n2_; clear n0_ n1_ n2_; (try clear hb); (try clear hb2); (try clear hk); (try clear hi); (try clear ho0); obtain ⟨Ao30, co30, eo30⟩ := Kd.R_slice HO132.out; subst eo30) | ((with_reducible refine gate_callee (f := 15) rfl ?_); refine goesL_ (some 22) rfl rfl Tryd.func15 (by kernel_rfl) rfl #[.slice Ao30 t130.length co30] rfl (by (try simp only [List.map_toArray, List.map_cons, List.map_nil]); first | done | rfl | (simp only [List.length_drop, List.length_take]; rfl)) ?_; (with_reducible refine (dir_Encode.calls _ _ t130 t134 t135 _ ?side1 ?side2 A3.out).mono ?_); (case side1 => repeat (first | exact (Kd.R_reads' HO132.out).2.2 | (with_reducible refine Kd.C_alloc ?_ _) | (with_reducible refine Kd.C_drewN ?_ _) | (with_reducible refine Kd.C_drew ?_))); (case side2 => exact (Kd.R_reads' HO132.out).2.1); rintro e w31 ⟨rfl, hb⟩; refine ⟨_, rfl, ?_⟩; have n0_ := Aside0.mk (Kd.R_below (by (with_reducible repeat (first | apply Kd.R_alloc | apply Kd.R_drewN | apply Kd.R_drew)); exact HO128.out) hb); have n1_ := Aside0.mk (Kd.R_below (by (with_reducible repeat (first | apply Kd.R_alloc | apply Kd.R_drewN | apply Kd.R_drew)); exact HO132.out) hb); have n2_ := Aside0.mk (below_step (by repeat (first | (with_reducible first | exact HB.out | apply below_alloc | apply pw_below_drewN | apply below_drew1) | exact HB.out)) hb); clear HO128; clear HO132; clear HB; have HO128 := n0_; have HO132 := n1_; have HB := n2_; clear n0_ n1_ n2_; (try clear hb); (try clear hb2); (try clear hk); (try clear hi)) | ((with_reducible refine gate_callee (f := 24) rfl ?_); refine goesL_ (some 26) rfl rfl Tryd.func24 (by kernel_rfl) rfl #[.string (⟨#[47, 97, 47, 47, 46, 47, 98, 47, 46, 46, 47, 99]⟩ : ByteArray)] rfl (by (try simp only [List.map_toArray, List.map_cons, List.map_nil]); first | done | rfl | (simp only [List.length_drop, List.length_take]; rfl)) ?_; (with_reducible refine (dir_Split.calls (⟨#[47, 97, 47, 47, 46, 47, 98, 47, 46, 46, 47, 99]⟩ : ByteArray) t136 t137 _ A4.out).mono ?_); rintro e w32 ⟨v138, rfl, ho0, hb⟩; refine ⟨_, rfl, ?_⟩; have n0_ := Aside0.mk (Kd.R_below (by (with_reducible repeat (first | apply Kd.R_alloc | apply Kd.R_drewN | apply Kd.R_drew)); exact HO128.out) hb); have n1_ := Aside0.mk (Kd.R_below (by (with_reducible repeat (first | apply Kd.R_alloc | apply Kd.R_drewN | apply Kd.R_drew)); exact HO132.out) hb); have n2_ := Aside0.mk (Kd.R_lower ho0 (below_size (by repeat (first | (with_reducible first | exact HB.out | apply below_alloc | apply pw_below_drewN | apply below_drew1) | exact HB.out)))); have n3_ := Aside0.mk (below_step (by repeat (first | (with_reducible first | exact HB.out | apply below_alloc | apply pw_below_drewN | apply below_drew1) | exact HB.out)) hb); clear HO128; clear HO132; clear HB; have HO128 := n0_; have HO132 := n1_; have HO139 := n2_; have HB := n3_; clear n0_ n1_ n2_ n3_; (try clear hb); (try clear hb2); (try clear hk); (try clear hi); (try clear ho0)))
          go_ret
          exact ⟨by first | rfl | (simp [errW_none, errW_some] <;> rfl) | (simp [*, errW_none, errW_some] <;> rfl), by repeat (first | (with_reducible first | exact HB.out | apply below_alloc | apply pw_below_drewN | apply below_drew1) | exact HB.out)⟩
      · rw [if_neg c7] at H
        have c7b0 : (t135 == 0) = false := beq_eq_false_iff_ne.mpr c7
        have c7b1 : (t135 != 0) = true := bne_iff_ne.mpr c7
        obtain rfl := Option.some.inj H
        go_enter Tryd.func10, Tryd.ntmps10
        go_wp2_with (first | ((with_reducible refine gate_callee (f := 11) rfl ?_); refine goesL_ (some 11) rfl rfl Tryd.func11 (by kernel_rfl) rfl #[.slice none 0 0, .agg #[.string (⟨#[98]⟩ : ByteArray), .int .i64 1, .int .i64 7]] rfl (by (try simp only [List.map_toArray, List.map_cons, List.map_nil]); first | done | rfl | (simp only [List.length_drop, List.length_take]; rfl)) ?_; (refine (dir_Put.calls _ _ ([] : List (S25)) (⟨#[98]⟩ : ByteArray) 1 7 t126 t129 _ ?side1 ?side2 A1.out).mono ?_); (case side1 => exact Kd.C_nil _ _); (case side2 => exact Nat.le_refl _); rintro e w33 ⟨v127, rfl, ho0, hb⟩; refine ⟨_, rfl, ?_⟩; have n0_ := Aside0.mk (Kd.R_lower ho0 (below_size (by repeat (first | (with_reducible first | exact HB.out | apply below_alloc | apply pw_below_drewN | apply below_drew1) | exact HB.out)))); have n1_ := Aside0.mk (below_step (by repeat (first | (with_reducible first | exact HB.out | apply below_alloc | apply pw_below_drewN | apply below_drew1) | exact HB.out)) hb); clear HB; have HO128 := n0_; have HB := n1_; clear n0_ n1_; (try clear hb); (try clear hb2); (try clear hk); (try clear hi); (try clear ho0); obtain ⟨Ao34, co34, eo34⟩ := Kd.R_slice HO128.out; subst eo34) | ((with_reducible refine gate_callee (f := 11) rfl ?_); refine goesL_ (some 17) rfl rfl Tryd.func11 (by kernel_rfl) rfl #[.slice Ao34 t126.length co34, .agg #[.string (⟨#[97]⟩ : ByteArray), .int .i64 2, .int .i64 9]] rfl (by (try simp only [List.map_toArray, List.map_cons, List.map_nil]); first | done | rfl | (simp only [List.length_drop, List.length_take]; rfl)) ?_; (with_reducible refine (dir_Put.calls _ _ t126 (⟨#[97]⟩ : ByteArray) 2 9 t130 t133 _ ?side1 ?side2 A2.out).mono ?_); (case side1 => repeat (first | exact (Kd.R_reads' HO128.out).2.2 | (with_reducible refine Kd.C_alloc ?_ _) | (with_reducible refine Kd.C_drewN ?_ _) | (with_reducible refine Kd.C_drew ?_))); (case side2 => exact (Kd.R_reads' HO128.out).2.1); rintro e w35 ⟨v131, rfl, ho0, hb⟩; refine ⟨_, rfl, ?_⟩; have n0_ := Aside0.mk (Kd.R_elder' (by (with_reducible repeat (first | apply Kd.R_alloc | apply Kd.R_drewN | apply Kd.R_drew)); exact HO128.out) (Kd.R_base ho0) hb); have n1_ := Aside0.mk (Kd.R_lower (Kd.R_new' ho0 (Kd.R_lt (by (with_reducible repeat (first | apply Kd.R_alloc | apply Kd.R_drewN | apply Kd.R_drew)); exact HO128.out))) (below_size (by repeat (first | (with_reducible first | exact HB.out | apply below_alloc | apply pw_below_drewN | apply below_drew1) | exact HB.out)))); have n2_ := Aside0.mk (below_step (by repeat (first | (with_reducible first | exact HB.out | apply below_alloc | apply pw_below_drewN | apply below_drew1) | exact HB.out)) hb); clear HO128; clear HB; have HO128 := n0_; have HO132 := n1_; have HB := n2_; clear n0_ n1_ n2_; (try clear hb); (try clear hb2); (try clear hk); (try clear hi); (try clear ho0); obtain ⟨Ao36, co36, eo36⟩ := Kd.R_slice HO132.out; subst eo36) | ((with_reducible refine gate_callee (f := 15) rfl ?_); refine goesL_ (some 22) rfl rfl Tryd.func15 (by kernel_rfl) rfl #[.slice Ao36 t130.length co36] rfl (by (try simp only [List.map_toArray, List.map_cons, List.map_nil]); first | done | rfl | (simp only [List.length_drop, List.length_take]; rfl)) ?_; (with_reducible refine (dir_Encode.calls _ _ t130 t134 t135 _ ?side1 ?side2 A3.out).mono ?_); (case side1 => repeat (first | exact (Kd.R_reads' HO132.out).2.2 | (with_reducible refine Kd.C_alloc ?_ _) | (with_reducible refine Kd.C_drewN ?_ _) | (with_reducible refine Kd.C_drew ?_))); (case side2 => exact (Kd.R_reads' HO132.out).2.1); rintro e w37 ⟨rfl, hb⟩; refine ⟨_, rfl, ?_⟩; have n0_ := Aside0.mk (Kd.R_below (by (with_reducible repeat (first | apply Kd.R_alloc | apply Kd.R_drewN | apply Kd.R_drew)); exact HO128.out) hb); have n1_ := Aside0.mk (Kd.R_below (by (with_reducible repeat (first | apply Kd.R_alloc | apply Kd.R_drewN | apply Kd.R_drew)); exact HO132.out) hb); have n2_ := Aside0.mk (below_step (by repeat (first | (with_reducible first | exact HB.out | apply below_alloc | apply pw_below_drewN | apply below_drew1) | exact HB.out)) hb); clear HO128; clear HO132; clear HB; have HO128 := n0_; have HO132 := n1_; have HB := n2_; clear n0_ n1_ n2_; (try clear hb); (try clear hb2); (try clear hk); (try clear hi)) | ((with_reducible refine gate_callee (f := 24) rfl ?_); refine goesL_ (some 26) rfl rfl Tryd.func24 (by kernel_rfl) rfl #[.string (⟨#[47, 97, 47, 47, 46, 47, 98, 47, 46, 46, 47, 99]⟩ : ByteArray)] rfl (by (try simp only [List.map_toArray, List.map_cons, List.map_nil]); first | done | rfl | (simp only [List.length_drop, List.length_take]; rfl)) ?_; (with_reducible refine (dir_Split.calls (⟨#[47, 97, 47, 47, 46, 47, 98, 47, 46, 46, 47, 99]⟩ : ByteArray) t136 t137 _ A4.out).mono ?_); rintro e w38 ⟨v138, rfl, ho0, hb⟩; refine ⟨_, rfl, ?_⟩; have n0_ := Aside0.mk (Kd.R_below (by (with_reducible repeat (first | apply Kd.R_alloc | apply Kd.R_drewN | apply Kd.R_drew)); exact HO128.out) hb); have n1_ := Aside0.mk (Kd.R_below (by (with_reducible repeat (first | apply Kd.R_alloc | apply Kd.R_drewN | apply Kd.R_drew)); exact HO132.out) hb); have n2_ := Aside0.mk (Kd.R_lower ho0 (below_size (by repeat (first | (with_reducible first | exact HB.out | apply below_alloc | apply pw_below_drewN | apply below_drew1) | exact HB.out)))); have n3_ := Aside0.mk (below_step (by repeat (first | (with_reducible first | exact HB.out | apply below_alloc | apply pw_below_drewN | apply below_drew1) | exact HB.out)) hb); clear HO128; clear HO132; clear HB; have HO128 := n0_; have HO132 := n1_; have HO139 := n2_; have HB := n3_; clear n0_ n1_ n2_ n3_; (try clear hb); (try clear hb2); (try clear hk); (try clear hi); (try clear ho0)))
        go_ret
        exact ⟨by first | rfl | (simp [errW_none, errW_some] <;> rfl) | (simp [*, errW_none, errW_some] <;> rfl), by repeat (first | (with_reducible first | exact HB.out | apply below_alloc | apply pw_below_drewN | apply below_drew1) | exact HB.out)⟩
    · rw [if_neg c6] at H
      have c6b0 : (t133 == 0) = false := beq_eq_false_iff_ne.mpr c6
      have c6b1 : (t133 != 0) = true := bne_iff_ne.mpr c6
      obtain rfl := Option.some.inj H
      go_enter Tryd.func10, Tryd.ntmps10
      go_wp2_with (first | ((with_reducible refine gate_callee (f := 11) rfl ?_); refine goesL_ (some 11) rfl rfl Tryd.func11 (by kernel_rfl) rfl #[.slice none 0 0, .agg #[.string (⟨#[98]⟩ : ByteArray), .int .i64 1, .int .i64 7]] rfl (by (try simp only [List.map_toArray, List.map_cons, List.map_nil]); first | done | rfl | (simp only [List.length_drop, List.length_take]; rfl)) ?_; (refine (dir_Put.calls _ _ ([] : List (S25)) (⟨#[98]⟩ : ByteArray) 1 7 t126 t129 _ ?side1 ?side2 A1.out).mono ?_); (case side1 => exact Kd.C_nil _ _); (case side2 => exact Nat.le_refl _); rintro e w39 ⟨v127, rfl, ho0, hb⟩; refine ⟨_, rfl, ?_⟩; have n0_ := Aside0.mk (Kd.R_lower ho0 (below_size (by repeat (first | (with_reducible first | exact HB.out | apply below_alloc | apply pw_below_drewN | apply below_drew1) | exact HB.out)))); have n1_ := Aside0.mk (below_step (by repeat (first | (with_reducible first | exact HB.out | apply below_alloc | apply pw_below_drewN | apply below_drew1) | exact HB.out)) hb); clear HB; have HO128 := n0_; have HB := n1_; clear n0_ n1_; (try clear hb); (try clear hb2); (try clear hk); (try clear hi); (try clear ho0); obtain ⟨Ao40, co40, eo40⟩ := Kd.R_slice HO128.out; subst eo40) | ((with_reducible refine gate_callee (f := 11) rfl ?_); refine goesL_ (some 17) rfl rfl Tryd.func11 (by kernel_rfl) rfl #[.slice Ao40 t126.length co40, .agg #[.string (⟨#[97]⟩ : ByteArray), .int .i64 2, .int .i64 9]] rfl (by (try simp only [List.map_toArray, List.map_cons, List.map_nil]); first | done | rfl | (simp only [List.length_drop, List.length_take]; rfl)) ?_; (with_reducible refine (dir_Put.calls _ _ t126 (⟨#[97]⟩ : ByteArray) 2 9 t130 t133 _ ?side1 ?side2 A2.out).mono ?_); (case side1 => repeat (first | exact (Kd.R_reads' HO128.out).2.2 | (with_reducible refine Kd.C_alloc ?_ _) | (with_reducible refine Kd.C_drewN ?_ _) | (with_reducible refine Kd.C_drew ?_))); (case side2 => exact (Kd.R_reads' HO128.out).2.1); rintro e w41 ⟨v131, rfl, ho0, hb⟩; refine ⟨_, rfl, ?_⟩; have n0_ := Aside0.mk (Kd.R_elder' (by (with_reducible repeat (first | apply Kd.R_alloc | apply Kd.R_drewN | apply Kd.R_drew)); exact HO128.out) (Kd.R_base ho0) hb); have n1_ := Aside0.mk (Kd.R_lower (Kd.R_new' ho0 (Kd.R_lt (by (with_reducible repeat (first | apply Kd.R_alloc | apply Kd.R_drewN | apply Kd.R_drew)); exact HO128.out))) (below_size (by repeat (first | (with_reducible first | exact HB.out | apply below_alloc | apply pw_below_drewN | apply below_drew1) | exact HB.out)))); have n2_ := Aside0.mk (below_step (by repeat (first | (with_reducible first | exact HB.out | apply below_alloc | apply pw_below_drewN | apply below_drew1) | exact HB.out)) hb); clear HO128; clear HB; have HO128 := n0_; have HO132 := n1_; have HB := n2_; clear n0_ n1_ n2_; (try clear hb); (try clear hb2); (try clear hk); (try clear hi); (try clear ho0); obtain ⟨Ao42, co42, eo42⟩ := Kd.R_slice HO132.out; subst eo42) | ((with_reducible refine gate_callee (f := 15) rfl ?_); refine goesL_ (some 22) rfl rfl Tryd.func15 (by kernel_rfl) rfl #[.slice Ao42 t130.length co42] rfl (by (try simp only [List.map_toArray, List.map_cons, List.map_nil]); first | done | rfl | (simp only [List.length_drop, List.length_take]; rfl)) ?_; (with_reducible refine (dir_Encode.calls _ _ t130 t134 t135 _ ?side1 ?side2 A3.out).mono ?_); (case side1 => repeat (first | exact (Kd.R_reads' HO132.out).2.2 | (with_reducible refine Kd.C_alloc ?_ _) | (with_reducible refine Kd.C_drewN ?_ _) | (with_reducible refine Kd.C_drew ?_))); (case side2 => exact (Kd.R_reads' HO132.out).2.1); rintro e w43 ⟨rfl, hb⟩; refine ⟨_, rfl, ?_⟩; have n0_ := Aside0.mk (Kd.R_below (by (with_reducible repeat (first | apply Kd.R_alloc | apply Kd.R_drewN | apply Kd.R_drew)); exact HO128.out) hb); have n1_ := Aside0.mk (Kd.R_below (by (with_reducible repeat (first | apply Kd.R_alloc | apply Kd.R_drewN | apply Kd.R_drew)); exact HO132.out) hb); have n2_ := Aside0.mk (below_step (by repeat (first | (with_reducible first | exact HB.out | apply below_alloc | apply pw_below_drewN | apply below_drew1) | exact HB.out)) hb); clear HO128; clear HO132; clear HB; have HO128 := n0_; have HO132 := n1_; have HB := n2_; clear n0_ n1_ n2_; (try clear hb); (try clear hb2); (try clear hk); (try clear hi)) | ((with_reducible refine gate_callee (f := 24) rfl ?_); refine goesL_ (some 26) rfl rfl Tryd.func24 (by kernel_rfl) rfl #[.string (⟨#[47, 97, 47, 47, 46, 47, 98, 47, 46, 46, 47, 99]⟩ : ByteArray)] rfl (by (try simp only [List.map_toArray, List.map_cons, List.map_nil]); first | done | rfl | (simp only [List.length_drop, List.length_take]; rfl)) ?_; (with_reducible refine (dir_Split.calls (⟨#[47, 97, 47, 47, 46, 47, 98, 47, 46, 46, 47, 99]⟩ : ByteArray) t136 t137 _ A4.out).mono ?_); rintro e w44 ⟨v138, rfl, ho0, hb⟩; refine ⟨_, rfl, ?_⟩; have n0_ := Aside0.mk (Kd.R_below (by (with_reducible repeat (first | apply Kd.R_alloc | apply Kd.R_drewN | apply Kd.R_drew)); exact HO128.out) hb); have n1_ := Aside0.mk (Kd.R_below (by (with_reducible repeat (first | apply Kd.R_alloc | apply Kd.R_drewN | apply Kd.R_drew)); exact HO132.out) hb); have n2_ := Aside0.mk (Kd.R_lower ho0 (below_size (by repeat (first | (with_reducible first | exact HB.out | apply below_alloc | apply pw_below_drewN | apply below_drew1) | exact HB.out)))); have n3_ := Aside0.mk (below_step (by repeat (first | (with_reducible first | exact HB.out | apply below_alloc | apply pw_below_drewN | apply below_drew1) | exact HB.out)) hb); clear HO128; clear HO132; clear HB; have HO128 := n0_; have HO132 := n1_; have HO139 := n2_; have HB := n3_; clear n0_ n1_ n2_ n3_; (try clear hb); (try clear hb2); (try clear hk); (try clear hi); (try clear ho0)))
      go_ret
      exact ⟨by first | rfl | (simp [errW_none, errW_some] <;> rfl) | (simp [*, errW_none, errW_some] <;> rfl), by repeat (first | (with_reducible first | exact HB.out | apply below_alloc | apply pw_below_drewN | apply below_drew1) | exact HB.out)⟩
  · rw [if_neg c5] at H
    have c5b0 : (t129 == 0) = false := beq_eq_false_iff_ne.mpr c5
    have c5b1 : (t129 != 0) = true := bne_iff_ne.mpr c5
    obtain rfl := Option.some.inj H
    go_enter Tryd.func10, Tryd.ntmps10
    go_wp2_with (first | ((with_reducible refine gate_callee (f := 11) rfl ?_); refine goesL_ (some 11) rfl rfl Tryd.func11 (by kernel_rfl) rfl #[.slice none 0 0, .agg #[.string (⟨#[98]⟩ : ByteArray), .int .i64 1, .int .i64 7]] rfl (by (try simp only [List.map_toArray, List.map_cons, List.map_nil]); first | done | rfl | (simp only [List.length_drop, List.length_take]; rfl)) ?_; (refine (dir_Put.calls _ _ ([] : List (S25)) (⟨#[98]⟩ : ByteArray) 1 7 t126 t129 _ ?side1 ?side2 A1.out).mono ?_); (case side1 => exact Kd.C_nil _ _); (case side2 => exact Nat.le_refl _); rintro e w45 ⟨v127, rfl, ho0, hb⟩; refine ⟨_, rfl, ?_⟩; have n0_ := Aside0.mk (Kd.R_lower ho0 (below_size (by repeat (first | (with_reducible first | exact HB.out | apply below_alloc | apply pw_below_drewN | apply below_drew1) | exact HB.out)))); have n1_ := Aside0.mk (below_step (by repeat (first | (with_reducible first | exact HB.out | apply below_alloc | apply pw_below_drewN | apply below_drew1) | exact HB.out)) hb); clear HB; have HO128 := n0_; have HB := n1_; clear n0_ n1_; (try clear hb); (try clear hb2); (try clear hk); (try clear hi); (try clear ho0); obtain ⟨Ao46, co46, eo46⟩ := Kd.R_slice HO128.out; subst eo46) | ((with_reducible refine gate_callee (f := 11) rfl ?_); refine goesL_ (some 17) rfl rfl Tryd.func11 (by kernel_rfl) rfl #[.slice Ao46 t126.length co46, .agg #[.string (⟨#[97]⟩ : ByteArray), .int .i64 2, .int .i64 9]] rfl (by (try simp only [List.map_toArray, List.map_cons, List.map_nil]); first | done | rfl | (simp only [List.length_drop, List.length_take]; rfl)) ?_; (with_reducible refine (dir_Put.calls _ _ t126 (⟨#[97]⟩ : ByteArray) 2 9 t130 t133 _ ?side1 ?side2 A2.out).mono ?_); (case side1 => repeat (first | exact (Kd.R_reads' HO128.out).2.2 | (with_reducible refine Kd.C_alloc ?_ _) | (with_reducible refine Kd.C_drewN ?_ _) | (with_reducible refine Kd.C_drew ?_))); (case side2 => exact (Kd.R_reads' HO128.out).2.1); rintro e w47 ⟨v131, rfl, ho0, hb⟩; refine ⟨_, rfl, ?_⟩; have n0_ := Aside0.mk (Kd.R_elder' (by (with_reducible repeat (first | apply Kd.R_alloc | apply Kd.R_drewN | apply Kd.R_drew)); exact HO128.out) (Kd.R_base ho0) hb); have n1_ := Aside0.mk (Kd.R_lower (Kd.R_new' ho0 (Kd.R_lt (by (with_reducible repeat (first | apply Kd.R_alloc | apply Kd.R_drewN | apply Kd.R_drew)); exact HO128.out))) (below_size (by repeat (first | (with_reducible first | exact HB.out | apply below_alloc | apply pw_below_drewN | apply below_drew1) | exact HB.out)))); have n2_ := Aside0.mk (below_step (by repeat (first | (with_reducible first | exact HB.out | apply below_alloc | apply pw_below_drewN | apply below_drew1) | exact HB.out)) hb); clear HO128; clear HB; have HO128 := n0_; have HO132 := n1_; have HB := n2_; clear n0_ n1_ n2_; (try clear hb); (try clear hb2); (try clear hk); (try clear hi); (try clear ho0); obtain ⟨Ao48, co48, eo48⟩ := Kd.R_slice HO132.out; subst eo48) | ((with_reducible refine gate_callee (f := 15) rfl ?_); refine goesL_ (some 22) rfl rfl Tryd.func15 (by kernel_rfl) rfl #[.slice Ao48 t130.length co48] rfl (by (try simp only [List.map_toArray, List.map_cons, List.map_nil]); first | done | rfl | (simp only [List.length_drop, List.length_take]; rfl)) ?_; (with_reducible refine (dir_Encode.calls _ _ t130 t134 t135 _ ?side1 ?side2 A3.out).mono ?_); (case side1 => repeat (first | exact (Kd.R_reads' HO132.out).2.2 | (with_reducible refine Kd.C_alloc ?_ _) | (with_reducible refine Kd.C_drewN ?_ _) | (with_reducible refine Kd.C_drew ?_))); (case side2 => exact (Kd.R_reads' HO132.out).2.1); rintro e w49 ⟨rfl, hb⟩; refine ⟨_, rfl, ?_⟩; have n0_ := Aside0.mk (Kd.R_below (by (with_reducible repeat (first | apply Kd.R_alloc | apply Kd.R_drewN | apply Kd.R_drew)); exact HO128.out) hb); have n1_ := Aside0.mk (Kd.R_below (by (with_reducible repeat (first | apply Kd.R_alloc | apply Kd.R_drewN | apply Kd.R_drew)); exact HO132.out) hb); have n2_ := Aside0.mk (below_step (by repeat (first | (with_reducible first | exact HB.out | apply below_alloc | apply pw_below_drewN | apply below_drew1) | exact HB.out)) hb); clear HO128; clear HO132; clear HB; have HO128 := n0_; have HO132 := n1_; have HB := n2_; clear n0_ n1_ n2_; (try clear hb); (try clear hb2); (try clear hk); (try clear hi)) | ((with_reducible refine gate_callee (f := 24) rfl ?_); refine goesL_ (some 26) rfl rfl Tryd.func24 (by kernel_rfl) rfl #[.string (⟨#[47, 97, 47, 47, 46, 47, 98, 47, 46, 46, 47, 99]⟩ : ByteArray)] rfl (by (try simp only [List.map_toArray, List.map_cons, List.map_nil]); first | done | rfl | (simp only [List.length_drop, List.length_take]; rfl)) ?_; (with_reducible refine (dir_Split.calls (⟨#[47, 97, 47, 47, 46, 47, 98, 47, 46, 46, 47, 99]⟩ : ByteArray) t136 t137 _ A4.out).mono ?_); rintro e w50 ⟨v138, rfl, ho0, hb⟩; refine ⟨_, rfl, ?_⟩; have n0_ := Aside0.mk (Kd.R_below (by (with_reducible repeat (first | apply Kd.R_alloc | apply Kd.R_drewN | apply Kd.R_drew)); exact HO128.out) hb); have n1_ := Aside0.mk (Kd.R_below (by (with_reducible repeat (first | apply Kd.R_alloc | apply Kd.R_drewN | apply Kd.R_drew)); exact HO132.out) hb); have n2_ := Aside0.mk (Kd.R_lower ho0 (below_size (by repeat (first | (with_reducible first | exact HB.out | apply below_alloc | apply pw_below_drewN | apply below_drew1) | exact HB.out)))); have n3_ := Aside0.mk (below_step (by repeat (first | (with_reducible first | exact HB.out | apply below_alloc | apply pw_below_drewN | apply below_drew1) | exact HB.out)) hb); clear HO128; clear HO132; clear HB; have HO128 := n0_; have HO132 := n1_; have HO139 := n2_; have HB := n3_; clear n0_ n1_ n2_ n3_; (try clear hb); (try clear hb2); (try clear hk); (try clear hi); (try clear ho0)))
    go_ret
    exact ⟨by first | rfl | (simp [errW_none, errW_some] <;> rfl) | (simp [*, errW_none, errW_some] <;> rfl), by repeat (first | (with_reducible first | exact HB.out | apply below_alloc | apply pw_below_drewN | apply below_drew1) | exact HB.out)⟩

end Go.Proofs.YtijnlgmclaphhaaDoorZ
-- Written by a program of this session (gprint.py, over the kit's printer).
namespace Go.Proofs.YtijnlgmclaphhaaDoorZ
open Go.RowKit Go.Proofs.YtijnlgmclaphhaaDoorW.PrintWords Go.Proofs.YtijnlgmclaphhaaDoorW.PrintLast Go.Proofs.YtijnlgmclaphhaaDoorW.PrintMore
attribute [local go_sem] max2_int min2_int max_two min_two max_three min_three max_four min_four   -- for this text's walks alone
set_option linter.unusedVariables false
set_option linter.unusedSimpArgs false

theorem eqA25 (d : Nat) (w : World) (x0 y0 : ByteArray) (x1 y1 : Int) (x2 y2 : Int) :
    (Op.equalIn (d + 2) 25 (.agg #[.string x0, .int .i64 x1, .int .i64 x2]) (.agg #[.string y0, .int .i64 y1, .int .i64 y2])).run Tryd.prog w = .ok (x0.toList == y0.toList && (x1 == y1 && (x2 == y2))) w := by
  refine eqA_of Tryd.underlying25 (by kernel_rfl) ?_
  refine eqf_cons (by rfl) (by go_simp; rfl) (by go_simp; rfl) (by go_simp) ?_
  refine eqf_cons (by rfl) (by go_simp; rfl) (by go_simp; rfl) (by go_simp) ?_
  exact eqf_last (by rfl) (by go_simp; rfl) (by go_simp; rfl) (by go_simp)
end Go.Proofs.YtijnlgmclaphhaaDoorZ
-- Written by a program of this session (gprint.py, over the kit's printer).
namespace Go.Proofs.YtijnlgmclaphhaaDoorZ
open Go.RowKit Go.Proofs.YtijnlgmclaphhaaDoorW.PrintWords Go.Proofs.YtijnlgmclaphhaaDoorW.PrintLast Go.Proofs.YtijnlgmclaphhaaDoorW.PrintMore
attribute [local go_sem] max2_int min2_int max_two min_two max_three min_three max_four min_four   -- for this text's walks alone
set_option linter.unusedVariables false
set_option linter.unusedSimpArgs false

attribute [local go_sem high] eqA25
/-! ### gatehouseref13_Same: function 12 -/
def gatehouseref13_Same.l0 : Nat → List (S25) → List (S25) → Int → Int → Option (Bool)
  | 0, _, _, _, _ => none
  | k + 1, x0, x1, x12, x13 => if x13 < x12 then (if 0 ≤ x13 then (if x13 < (x0.length : Int) then (if x13 < (x1.length : Int) then (if (!((((rd_T25 x0 x13).f0).toList) == (((rd_T25 x1 x13).f0).toList)) || (!(((rd_T25 x0 x13).f1) == ((rd_T25 x1 x13).f1)) || (!(((rd_T25 x0 x13).f2) == ((rd_T25 x1 x13).f2))))) = true then (some false) else (gatehouseref13_Same.l0 k x0 x1 x12 (wrap64 (x13 + 1)))) else (none)) else (none)) else (none)) else (some true)
def gatehouseref13_Same.f (k : Nat) (l0 : List (S25)) (l1 : List (S25)) : Option (Bool) := if (l0.length : Int) = (l1.length : Int) then (gatehouseref13_Same.l0 k l0 l1 (l0.length : Int) 0) else (some false)
theorem gatehouseref13_Same.mono_l : ∀ k, (∀ y0 y1 y2 y3, LeO (gatehouseref13_Same.l0 k y0 y1 y2 y3) (gatehouseref13_Same.l0 (k + 1) y0 y1 y2 y3))
  | 0 => fun _ _ _ _ r h => by simp [gatehouseref13_Same.l0] at h
  | k + 1 => by
    have ih0 := gatehouseref13_Same.mono_l k
    · intro y0 y1 y2 y3
      unfold gatehouseref13_Same.l0
      repeat' first
      | (with_reducible exact ih0 _ _ _ _)
      | (with_reducible exact LeO.refl _)
      | (with_reducible exact LeO.none _)
      | (with_reducible refine LeO.ite ?_ ?_)
      | (with_reducible refine LeO.bind ?_ (fun _ => ?_))
      | exact ih0 _ _ _ _
      | exact LeO.none _
      | refine LeO.ite ?_ ?_
      | refine LeO.bind ?_ (fun _ => ?_)
theorem gatehouseref13_Same.mono : ∀ a0 a1 k, LeO (gatehouseref13_Same.f k a0 a1) (gatehouseref13_Same.f (k + 1) a0 a1) := by
  intro a0 a1 k
  have ih0 := gatehouseref13_Same.mono_l k
  unfold gatehouseref13_Same.f
  repeat' first
      | (with_reducible exact ih0 _ _ _ _)
      | (with_reducible exact LeO.refl _)
      | (with_reducible exact LeO.none _)
      | (with_reducible refine LeO.ite ?_ ?_)
      | (with_reducible refine LeO.bind ?_ (fun _ => ?_))
      | exact ih0 _ _ _ _
      | exact LeO.none _
      | refine LeO.ite ?_ ?_
      | refine LeO.bind ?_ (fun _ => ?_)
set_option maxHeartbeats 8000000 in
set_option maxRecDepth 100000 in
theorem gatehouseref13_Same.calls (k : Nat) (A0 : Option Addr) (c0 : Nat) (l0 : List (S25)) (A1 : Option Addr) (c1 : Nat) (l1 : List (S25)) (r : Bool) (w : World) (hr0 : Kd.C k25 w A0 l0.length l0) (hc0 : l0.length ≤ c0) (hr1 : Kd.C k25 w A1 l1.length l1) (hc1 : l1.length ≤ c1) (h : gatehouseref13_Same.f k l0 l1 = some r) :
    Calls Tryd.prog 12 #[.slice A0 l0.length c0, .slice A1 l1.length c1] w fun e w' => e = .returned (.bool r) ∧ Drawn0 w w' := by
  have hu25 := Tryd.underlying25
  have HR0 := Aside0.mk hr0
  have HC0 := Aside0.mk hc0
  clear hr0 hc0
  have HR1 := Aside0.mk hr1
  have HC1 := Aside0.mk hc1
  clear hr1 hc1
  have H : (if (l0.length : Int) = (l1.length : Int) then (gatehouseref13_Same.l0 k l0 l1 (l0.length : Int) 0) else (some false)) = some r := h
  clear h
  by_cases c3 : (l0.length : Int) = (l1.length : Int)
  · rw [if_pos c3] at H
    have c3b0 : ((l0.length : Int) == (l1.length : Int)) = true := beq_iff_eq.mpr c3
    have c3b1 : ((l0.length : Int) != (l1.length : Int)) = false := bne_eq_false_iff_eq.mpr c3
    have c3b2 : (l0.length == l1.length) = true := by first | simpa using c3 | (simp at c3 ⊢; omega)
    clear c3
    have H' := Aside0.mk H
    clear H
    go_enter Tryd.func12, Tryd.ntmps12
    go_wp2
    repeat (go_quiet (fail); try go_wp2)
    go_loopg [13] k (fun kq v13 w' => ∃ (x13_1 : Int), v13 = .int .i64 x13_1 ∧ Aside0 (gatehouseref13_Same.l0 kq l0 l1 (l0.length : Int) x13_1 = some r) ∧ Aside0 (kq ≤ k) ∧ Drawn0 w w')
    case atStart => exact ⟨(0), (by first | rfl | (simp; done) | (simp [*]; done)), H', ⟨Nat.le_refl _⟩, by repeat (first | exact Drawn0.refl _ | apply Drawn0.step)⟩
    case round =>
      clear H'
      try clear c1
      try clear p2
      try clear c3
      try clear c3b0
      try clear c3b1
      try clear c3b2
      obtain ⟨x13_1, rfl, HA, HK1, ⟨m1, rfl⟩⟩ := hrel
      cases gk with
      | zero => exact absurd HA.out (by simp [gatehouseref13_Same.l0])
      | succ k1 =>
        have H := HA.out
        clear HA
        simp only [gatehouseref13_Same.l0] at H
        by_cases c4 : x13_1 < (l0.length : Int)
        · rw [if_pos c4] at H
          have c4b0 : decide (x13_1 < (l0.length : Int)) = true := decide_eq_true c4
          clear c4
          by_cases c5 : 0 ≤ x13_1
          · rw [if_pos c5] at H
            have c5b0 : decide (0 ≤ x13_1) = true := decide_eq_true c5
            clear c5
            by_cases c6 : x13_1 < (l0.length : Int)
            · rw [if_pos c6] at H
              have c6b0 : decide (x13_1 < (l0.length : Int)) = true := decide_eq_true c6
              clear c6
              by_cases c7 : x13_1 < (l1.length : Int)
              · rw [if_pos c7] at H
                have c7b0 : decide (x13_1 < (l1.length : Int)) = true := decide_eq_true c7
                clear c7
                by_cases c8 : (!((((rd_T25 l0 x13_1).f0).toList) == (((rd_T25 l1 x13_1).f0).toList)) || (!(((rd_T25 l0 x13_1).f1) == ((rd_T25 l1 x13_1).f1)) || (!(((rd_T25 l0 x13_1).f2) == ((rd_T25 l1 x13_1).f2))))) = true
                · rw [if_pos c8] at H
                  have c8b0 : (!((((rd_T25 l0 x13_1).f0).toList) == (((rd_T25 l1 x13_1).f0).toList)) || (!(((rd_T25 l0 x13_1).f1) == ((rd_T25 l1 x13_1).f1)) || (!(((rd_T25 l0 x13_1).f2) == ((rd_T25 l1 x13_1).f2))))) = true := c8
                  clear c8
                  obtain rfl := Option.some.inj H
                  have p144 : 0 ≤ (x13_1 : Int) := of_decide_eq_true (by first | (with_reducible assumption) | assumption)
                  have q144 : x13_1 < (l0.length : Int) := of_decide_eq_true (by first | (with_reducible assumption) | assumption)
                  obtain ⟨ad144, e144, hx144_0, hx144_1, hx144_2⟩ := at_T25 HR0.out x13_1 p144 q144
                  cases e144
                  replace p144 := eq_true p144
                  replace q144 := eq_true q144
                  have p145 : 0 ≤ (x13_1 : Int) := of_decide_eq_true (by first | (with_reducible assumption) | assumption)
                  have q145 : x13_1 < (l1.length : Int) := of_decide_eq_true (by first | (with_reducible assumption) | assumption)
                  obtain ⟨ad145, e145, hx145_0, hx145_1, hx145_2⟩ := at_T25 HR1.out x13_1 p145 q145
                  cases e145
                  replace p145 := eq_true p145
                  replace q145 := eq_true q145
                  go_wp2
                  repeat (go_quiet (fail); try go_wp2)
                  go_ret
                  exact ⟨by first | rfl | (simp; done) | (simp [*]; done), by repeat (first | exact Drawn0.refl _ | apply Drawn0.step)⟩
                · rw [if_neg c8] at H
                  have c8b0 : (!((((rd_T25 l0 x13_1).f0).toList) == (((rd_T25 l1 x13_1).f0).toList)) || (!(((rd_T25 l0 x13_1).f1) == ((rd_T25 l1 x13_1).f1)) || (!(((rd_T25 l0 x13_1).f2) == ((rd_T25 l1 x13_1).f2))))) = false := by simpa using c8
                  clear c8
                  have H' := Aside0.mk H
                  clear H
                  have p144 : 0 ≤ (x13_1 : Int) := of_decide_eq_true (by first | (with_reducible assumption) | assumption)
                  have q144 : x13_1 < (l0.length : Int) := of_decide_eq_true (by first | (with_reducible assumption) | assumption)
                  obtain ⟨ad144, e144, hx144_0, hx144_1, hx144_2⟩ := at_T25 HR0.out x13_1 p144 q144
                  cases e144
                  replace p144 := eq_true p144
                  replace q144 := eq_true q144
                  have p145 : 0 ≤ (x13_1 : Int) := of_decide_eq_true (by first | (with_reducible assumption) | assumption)
                  have q145 : x13_1 < (l1.length : Int) := of_decide_eq_true (by first | (with_reducible assumption) | assumption)
                  obtain ⟨ad145, e145, hx145_0, hx145_1, hx145_2⟩ := at_T25 HR1.out x13_1 p145 q145
                  cases e145
                  replace p145 := eq_true p145
                  replace q145 := eq_true q145
                  go_wp2
                  repeat (go_quiet (fail); try go_wp2)
                  go_roundg k1
                  case measure => have := HK1.out; omega
                  case rel => exact ⟨(wrap64 (x13_1 + 1)), (by first | rfl | (simp; done) | (simp [*]; done)), H', ⟨by have := HK1.out; omega⟩, by repeat (first | exact Drawn0.refl _ | apply Drawn0.step)⟩
              · rw [if_neg c7] at H
                exact absurd H (by simp)
            · rw [if_neg c6] at H
              exact absurd H (by simp)
          · rw [if_neg c5] at H
            exact absurd H (by simp)
        · rw [if_neg c4] at H
          have c4b0 : decide (x13_1 < (l0.length : Int)) = false := decide_eq_false c4
          clear c4
          obtain rfl := Option.some.inj H
          go_wp2
          repeat (go_quiet (fail); try go_wp2)
          go_ret
          exact ⟨by first | rfl | (simp; done) | (simp [*]; done), by repeat (first | exact Drawn0.refl _ | apply Drawn0.step)⟩
  · rw [if_neg c3] at H
    have c3b0 : ((l0.length : Int) == (l1.length : Int)) = false := beq_eq_false_iff_ne.mpr c3
    have c3b1 : ((l0.length : Int) != (l1.length : Int)) = true := bne_iff_ne.mpr c3
    have c3b2 : (l0.length == l1.length) = false := by first | simpa using c3 | (simp at c3 ⊢; omega)
    obtain rfl := Option.some.inj H
    go_enter Tryd.func12, Tryd.ntmps12
    go_wp2
    repeat (go_quiet (fail); try go_wp2)
    go_ret
    exact ⟨by first | rfl | (simp; done) | (simp [*]; done), by repeat (first | exact Drawn0.refl _ | apply Drawn0.step)⟩

end Go.Proofs.YtijnlgmclaphhaaDoorZ
set_option linter.unusedVariables false
set_option linter.unusedSimpArgs false
/-! Plain laws of directories: what Put leaves, one order alone, the example. -/
namespace Go.Proofs.YtijnlgmclaphhaaDoor
open Go Go.RowKit Go.Proofs.YtijnlgmclaphhaaDoorZ Go.Proofs.YtijnlgmclaphhaaDoorW.PrintWords

theorem lives_5 : gatehouselaw13_lives.f 5 = some true := by kernel_rfl
theorem lives_f (k : Nat) (h : 5 ≤ k) : gatehouselaw13_lives.f k = some true := at_rounds gatehouselaw13_lives.mono h lives_5

def eqN (x y : Nm) : Bool := x.f0.toList == y.f0.toList && (x.f1 == y.f1 && (x.f2 == y.f2))
theorem eqN_iff (x y : Nm) : eqN x y = true ↔ x = y := by
  unfold eqN
  simp only [Bool.and_eq_true, beq_iff_eq]
  constructor
  · rintro ⟨h1, h2, h3⟩
    cases x; cases y
    simp only at h1 h2 h3
    rw [toList_inj h1, h2, h3]
  · rintro rfl; exact ⟨rfl, rfl, rfl⟩
def sameL : List Nm → List Nm → Bool
  | [], [] => true
  | x :: l, y :: m => eqN x y && sameL l m
  | _, _ => false
theorem sameL_iff : ∀ l m : List Nm, sameL l m = true ↔ l = m
  | [], [] => by simp [sameL]
  | [], _ :: _ => by simp [sameL]
  | _ :: _, [] => by simp [sameL]
  | x :: l, y :: m => by
    unfold sameL
    rw [Bool.and_eq_true, eqN_iff, sameL_iff l m, List.cons.injEq]
theorem sameL_self (l : List Nm) : sameL l l = true := (sameL_iff l l).2 rfl
theorem sameL_len {l m : List Nm} (h : l.length ≠ m.length) : sameL l m = false := by
  cases hq : sameL l m with
  | false => rfl
  | true => exact absurd (congrArg List.length ((sameL_iff l m).1 hq)) h
theorem same_loop (l m : List Nm) (he : l.length = m.length) (hl : l.length ≤ 4398046511104) (n : Nat) : ∀ (k i : Nat), l.length - i = n → i ≤ l.length → n < k → gatehouseref13_Same.l0 k l m (l.length : Int) (i : Int) = some (sameL (l.drop i) (m.drop i)) := by
  induction n with
  | zero =>
    intro k i h hi hk
    obtain ⟨k, rfl⟩ : ∃ q, k = q + 1 := ⟨k - 1, by omega⟩
    obtain rfl : i = l.length := by omega
    simp only [gatehouseref13_Same.l0]
    rw [if_neg (by omega), List.drop_length, he, List.drop_length]; rfl
  | succ n ih =>
    intro k i h hi hk
    obtain ⟨k, rfl⟩ : ∃ q, k = q + 1 := ⟨k - 1, by omega⟩
    have hlt : i < l.length := by omega
    have hlm : i < m.length := by omega
    simp only [gatehouseref13_Same.l0]
    rw [if_pos (by omega), if_pos (by omega), if_pos (by omega), if_pos (by omega), rd_at l i hlt, rd_at m i hlm, List.drop_eq_getElem_cons hlt, List.drop_eq_getElem_cons hlm, w64 (x := (i : Int) + 1) (by omega) (by omega)]
    have e : sameL (l[i] :: l.drop (i + 1)) (m[i] :: m.drop (i + 1)) = (eqN l[i] m[i] && sameL (l.drop (i + 1)) (m.drop (i + 1))) := rfl
    rw [e]
    have e2 : (!((l[i]).f0.toList == (m[i]).f0.toList) || (!((l[i]).f1 == (m[i]).f1) || !((l[i]).f2 == (m[i]).f2))) = !eqN l[i] m[i] := by unfold eqN; simp only [Bool.not_and]
    rw [e2]
    cases eqN l[i] m[i] with
    | false => rw [if_pos (show (!false) = true from rfl)]; rfl
    | true => rw [if_neg (by simp), Bool.true_and]; exact ih k (i + 1) (by omega) (by omega) (by omega)
theorem same_f (l m : List Nm) (hl : l.length ≤ 4398046511104) (k : Nat) (hk : l.length < k) : gatehouseref13_Same.f k l m = some (sameL l m) := by
  unfold gatehouseref13_Same.f
  by_cases he : l.length = m.length
  · rw [if_pos (by omega)]
    exact same_loop l m he hl l.length k 0 (by omega) (by omega) hk
  · rw [if_neg (by omega), sameL_len he]

theorem ord_cons {x : Nm} {l : List Nm} {b : ByteArray} : ordFrom b (x :: l) = true ↔ okN x = true ∧ blt b x.f0 = true ∧ ordFrom x.f0 l = true := by
  show (okN x && blt b x.f0 && ordFrom x.f0 l) = true ↔ _
  rw [Bool.and_eq_true, Bool.and_eq_true, and_assoc]
theorem ord_weaken {l : List Nm} {b c : ByteArray} (h : ordFrom b l = true) (hc : blt c b = true) : ordFrom c l = true := by
  cases l with
  | nil => rfl
  | cons x l => rw [ord_cons] at h ⊢; exact ⟨h.1, blt_tr hc h.2.1, h.2.2⟩
/-- One order alone. -/
theorem ord_unique : ∀ (l m : List Nm) (b c : ByteArray), ordFrom b l = true → ordFrom c m = true → (∀ x, x ∈ l ↔ x ∈ m) → l = m
  | [], [], _, _, _, _, _ => rfl
  | [], y :: m, _, _, _, _, h => absurd ((h y).2 (by simp)) (by simp)
  | x :: l, [], _, _, _, _, h => absurd ((h x).1 (by simp)) (by simp)
  | x :: l, y :: m, b, c, hl, hm, h => by
    rw [ord_cons] at hl hm
    have gx : ∀ z ∈ l, blt x.f0 z.f0 = true := ord_gt hl.2.2
    have gy : ∀ z ∈ m, blt y.f0 z.f0 = true := ord_gt hm.2.2
    have e : x = y := by
      rcases List.mem_cons.1 ((h x).1 (by simp)) with rfl | hx
      · rfl
      · rcases List.mem_cons.1 ((h y).2 (by simp)) with rfl | hy
        · rfl
        · have := blt_tr (gy x hx) (gx y hy)
          rw [blt_irr] at this; cases this
    subst e
    rw [ord_unique l m _ _ hl.2.2 hm.2.2 fun z => ?_]
    constructor
    · intro hz
      rcases List.mem_cons.1 ((h z).1 (List.mem_cons_of_mem _ hz)) with rfl | h'
      · have := gx z hz; rw [blt_irr] at this; cases this
      · exact h'
    · intro hz
      rcases List.mem_cons.1 ((h z).2 (List.mem_cons_of_mem _ hz)) with rfl | h'
      · have := gy z hz; rw [blt_irr] at this; cases this
      · exact h'
theorem atI_cons (x : Nm) (l : List Nm) (s : ByteArray) : atI (x :: l) s = if blt x.f0 s = true then atI l s + 1 else 0 := by
  unfold atI
  rw [List.takeWhile_cons]
  split
  · rw [List.length_cons]
  · rfl
theorem insL_cons (x : Nm) (l : List Nm) (m : Nm) : insL (x :: l) m = if blt x.f0 m.f0 = true then x :: insL l m else m :: x :: l := by
  unfold insL
  rw [atI_cons]
  split <;> rfl
theorem insL_perm (l : List Nm) (m : Nm) : (insL l m).Perm (m :: l) := by
  unfold insL
  have := List.perm_middle (a := m) (l₁ := l.take (atI l m.f0)) (l₂ := l.drop (atI l m.f0))
  rwa [List.take_append_drop] at this
theorem insL_ord : ∀ (l : List Nm) (m : Nm) (b : ByteArray), ordFrom b l = true → okN m = true → blt b m.f0 = true → hasN l m.f0 = false → ordFrom b (insL l m) = true
  | [], m, b, _, hm, hb, _ => by
    show ordFrom b [m] = true
    rw [ord_cons]; exact ⟨hm, hb, rfl⟩
  | x :: l, m, b, hl, hm, hb, hn => by
    rw [ord_cons] at hl
    have hn' : (x.f0.toList == m.f0.toList) = false ∧ hasN l m.f0 = false := by
      unfold hasN at hn
      rw [List.any_cons, Bool.or_eq_false_iff] at hn
      exact hn
    rw [insL_cons]
    split
    · rename_i h
      rw [ord_cons]
      exact ⟨hl.1, hl.2.1, insL_ord l m _ hl.2.2 hm h hn'.2⟩
    · rename_i h
      have h1 : blt m.f0 x.f0 = true := by
        cases h2 : blt m.f0 x.f0 with
        | true => rfl
        | false =>
          have := blt_tri (by simpa using h) h2
          rw [this] at hn'
          simp at hn'
      rw [ord_cons, ord_cons]
      exact ⟨hm, hb, hl.1, h1, hl.2.2⟩
theorem sizeN_perm {l m : List Nm} (h : l.Perm m) : sizeN l = sizeN m := by
  unfold sizeN
  exact (h.map _).sum_nat
theorem sizeN_ins (l : List Nm) (m : Nm) : sizeN (insL l m) = sizeN l + (10 + m.f0.size) := by
  rw [sizeN_perm (insL_perm l m), sizeN_cons]; omega
theorem right_nil : rightL [] = true := rfl
theorem insL_right {l : List Nm} {m : Nm} (hr : rightL l = true) (hm : okN m = true) (hn : hasN l m.f0 = false) (hz : sizeN l + (10 + m.f0.size) ≤ 4096) : rightL (insL l m) = true := by
  unfold rightL ordL
  rw [insL_ord l m _ (right_ord hr).1 hm (blt_empty (okN_size hm).1) hn, sizeN_ins, decide_eq_true hz]; rfl
theorem putL_ok {l : List Nm} {m : Nm} (hr : rightL l = true) (hm : okN m = true) (hn : hasN l m.f0 = false) (hz : sizeN l + (10 + m.f0.size) ≤ 4096) : putL l m = (insL l m, 0) := by
  unfold putL
  rw [if_pos hr, if_pos hm, if_neg (by rw [hn]; simp), if_neg (by omega)]
theorem putL_zero {l : List Nm} {m : Nm} (h : (putL l m).2 = 0) : rightL l = true ∧ okN m = true ∧ hasN l m.f0 = false ∧ sizeN l + (10 + m.f0.size) ≤ 4096 ∧ putL l m = (insL l m, 0) := by
  unfold putL at h ⊢
  split at h
  · split at h
    · split at h
      · simp at h
      · split at h
        · simp at h
        · rename_i h1 h2 h3 h4
          rw [if_pos h1, if_pos h2, if_neg h3, if_neg h4]
          exact ⟨h1, h2, by simpa using h3, by omega, rfl⟩
    · simp at h
  · simp at h
theorem hasN_iff_mem (l : List Nm) (s : ByteArray) : hasN l s = true ↔ ∃ x ∈ l, x.f0 = s := by
  unfold hasN
  rw [List.any_eq_true]
  constructor
  · rintro ⟨x, hx, h⟩; exact ⟨x, hx, toList_inj (beq_iff_eq.1 h)⟩
  · rintro ⟨x, hx, rfl⟩; exact ⟨x, hx, by simp⟩
theorem hasN_perm {l m : List Nm} (h : l.Perm m) (s : ByteArray) : hasN l s = hasN m s := by
  cases h1 : hasN l s <;> cases h2 : hasN m s <;> try rfl
  · obtain ⟨x, hx, e⟩ := (hasN_iff_mem m s).1 h2
    rw [(hasN_iff_mem l s).2 ⟨x, h.mem_iff.2 hx, e⟩] at h1; cases h1
  · obtain ⟨x, hx, e⟩ := (hasN_iff_mem l s).1 h1
    rw [(hasN_iff_mem m s).2 ⟨x, h.mem_iff.1 hx, e⟩] at h2; cases h2
end Go.Proofs.YtijnlgmclaphhaaDoor
-- Written by a program of this session (gprint.py, over the kit's printer).
namespace Go.Proofs.YtijnlgmclaphhaaDoorZ
open Go.RowKit Go.Proofs.YtijnlgmclaphhaaDoorW.PrintWords Go.Proofs.YtijnlgmclaphhaaDoorW.PrintLast Go.Proofs.YtijnlgmclaphhaaDoorW.PrintMore
attribute [local go_sem] max2_int min2_int max_two min_two max_three min_three max_four min_four   -- for this text's walks alone
set_option linter.unusedVariables false
set_option linter.unusedSimpArgs false

/-! ### gatehouseref02_Words: function 47 -/
def gatehouseref02_Words.l0 : Nat → ByteArray → Int → List ByteArray → ByteArray → Int → Option (List ByteArray)
  | 0, _, _, _, _, _ => none
  | k + 1, x0, x1, x5, x6, x7 => if x7 < (x0.size : Int) then (if 0 ≤ x7 then (if (bt x0 x7) = x1 then (if x5.length < 8796093022208 then (gatehouseref02_Words.l0 k x0 x1 (x5 ++ [x6]) (⟨#[]⟩ : ByteArray) (wrap64 (x7 + 1))) else (none)) else ((some (([bt x0 x7] : List Int) : List Int)).bind fun y320 => (if x6.size + (strOfNums y320).size ≤ 9223372036854775807 then (gatehouseref02_Words.l0 k x0 x1 x5 (x6 ++ (strOfNums y320)) (wrap64 (x7 + 1))) else (none)))) else (none)) else (if x5.length < 8796093022208 then (some (x5 ++ [x6])) else (none))
def gatehouseref02_Words.f (k : Nat) (a0 : ByteArray) (a1 : Int) : Option (List ByteArray) := gatehouseref02_Words.l0 k a0 a1 (([] : List ByteArray)) (⟨#[]⟩ : ByteArray) 0
theorem gatehouseref02_Words.mono_l : ∀ k, (∀ y0 y1 y2 y3 y4, LeO (gatehouseref02_Words.l0 k y0 y1 y2 y3 y4) (gatehouseref02_Words.l0 (k + 1) y0 y1 y2 y3 y4))
  | 0 => fun _ _ _ _ _ r h => by simp [gatehouseref02_Words.l0] at h
  | k + 1 => by
    have ih0 := gatehouseref02_Words.mono_l k
    · intro y0 y1 y2 y3 y4
      unfold gatehouseref02_Words.l0
      repeat' first
      | (with_reducible exact ih0 _ _ _ _ _)
      | (with_reducible exact LeO.refl _)
      | (with_reducible exact LeO.none _)
      | (with_reducible refine LeO.ite ?_ ?_)
      | (with_reducible refine LeO.bind ?_ (fun _ => ?_))
      | exact ih0 _ _ _ _ _
      | exact LeO.none _
      | refine LeO.ite ?_ ?_
      | refine LeO.bind ?_ (fun _ => ?_)
theorem gatehouseref02_Words.mono : ∀ a0 a1 k, LeO (gatehouseref02_Words.f k a0 a1) (gatehouseref02_Words.f (k + 1) a0 a1) := by
  intro a0 a1 k
  have ih0 := gatehouseref02_Words.mono_l k
  unfold gatehouseref02_Words.f
  repeat' first
      | (with_reducible exact ih0 _ _ _ _ _)
      | (with_reducible exact LeO.refl _)
      | (with_reducible exact LeO.none _)
      | (with_reducible refine LeO.ite ?_ ?_)
      | (with_reducible refine LeO.bind ?_ (fun _ => ?_))
      | exact ih0 _ _ _ _ _
      | exact LeO.none _
      | refine LeO.ite ?_ ?_
      | refine LeO.bind ?_ (fun _ => ?_)
set_option maxHeartbeats 8000000 in
set_option maxRecDepth 100000 in
theorem gatehouseref02_Words.calls (k : Nat) (a0 : ByteArray) (a1 : Int) (r : List ByteArray) (w : World) (h : gatehouseref02_Words.f k a0 a1 = some r) :
    Calls Tryd.prog 47 #[.string a0, .int .u8 a1] w fun e w' => ∃ v0_ : Value, e = .returned (v0_) ∧ Kd.R Kd.string 9 w' w.heap.size (fun _ => True) v0_ r ∧ Below w.heap.size w w' := by
  have HB := Aside0.mk (Below.refl w.heap.size w)
  have H : (gatehouseref02_Words.l0 k a0 a1 (([] : List ByteArray)) (⟨#[]⟩ : ByteArray) 0) = some r := h
  clear h
  obtain ⟨y314, hy314⟩ : ∃ y_ : List ByteArray, y_ = (([] : List ByteArray)) := ⟨_, rfl⟩
  replace H : (gatehouseref02_Words.l0 k a0 a1 y314 (⟨#[]⟩ : ByteArray) 0) = some r := by first | (rw [hy314]; with_reducible exact H) | (have H2_ := (Option.bind_some _ _).symm.trans H; rw [hy314]; with_reducible exact H2_) | (have H2_ := (Option.bind_some _ _).symm.trans H; with_reducible exact H2_) | with_reducible exact H | (rw [hy314]; exact H) | exact H
  have Ny314 := Aside0.mk hy314
  clear hy314
  have H' := Aside0.mk H
  clear H
  go_enter Tryd.func47, Tryd.ntmps47
  go_wp2_with (first | ((with_reducible refine gate_dst (N := 8) rfl ?_); refine Kd.R_lit Kd.string _ 9 ?hg (N := 8) ?hd (xs := ([] : List ByteArray)) (inner := []) (ok := fun _ => True) (okp := fun _ => True) ?hr ?hp (fun _ hk => hk) trivial (Below.refl _ _) (Nat.le_refl _) (by simp) ?_; (case hd => rfl); (case hg => rfl); (case hr => first | (go_simp; done) | (go_simp; rfl)); (case hp => exact (Reps.none _ _)); intro v315 w3 ho4 hb hg_ hnew_; clear hg_ hnew_; (first | rw [← Ny314.out] at ho4 | (simp only [Int.reduceToNat] at ho4; rw [← Ny314.out] at ho4)); have n0_ := Aside0.mk (Kd.R_lower ho4 (below_size (by repeat (first | (with_reducible first | exact HB.out | apply below_alloc | apply pw_below_drewN | apply below_drew1) | exact HB.out)))); have n1_ := Aside0.mk (below_step (by repeat (first | (with_reducible first | exact HB.out | apply below_alloc | apply pw_below_drewN | apply below_drew1) | exact HB.out)) hb); clear HB; have HO316 := n0_; have HB := n1_; clear n0_ n1_; clear hb ho4))
  go_loopg [5, 6, 7] k (fun kq v5 v6 v7 w' => ∃ (x5_1 : List ByteArray) (x6_1 : ByteArray) (x7_1 : Int), v6 = .string x6_1 ∧ v7 = .int .i64 x7_1 ∧ Aside0 (gatehouseref02_Words.l0 kq a0 a1 x5_1 x6_1 x7_1 = some r) ∧ Aside0 (kq ≤ k) ∧ Aside0 (Kd.R Kd.string 9 w' w.heap.size (fun _ => True) v5 x5_1) ∧ Aside0 (Below w.heap.size w w'))
  case atStart => exact ⟨(y314), ((⟨#[]⟩ : ByteArray)), (0), (by first | rfl | (simp; done) | (simp [*]; done)), (by first | rfl | (simp; done) | (simp [*]; done)), H', ⟨Nat.le_refl _⟩, ⟨by (with_reducible repeat (first | apply Kd.R_alloc | apply Kd.R_drewN | apply Kd.R_drew)); exact HO316.out⟩, ⟨by repeat (first | (with_reducible first | exact HB.out | apply below_alloc | apply pw_below_drewN | apply below_drew1) | exact HB.out)⟩⟩
  case round =>
    clear H'
    try clear p2
    try clear c4
    obtain ⟨x5_1, x6_1, x7_1, rfl, rfl, HA, HK1, HO_5, HB⟩ := hrel
    cases gk with
    | zero => exact absurd HA.out (by simp [gatehouseref02_Words.l0])
    | succ k1 =>
      have H := HA.out
      clear HA
      simp only [gatehouseref02_Words.l0] at H
      by_cases c5 : x7_1 < (a0.size : Int)
      · rw [if_pos c5] at H
        have c5b0 : decide (x7_1 < (a0.size : Int)) = true := decide_eq_true c5
        clear c5
        by_cases c6 : 0 ≤ x7_1
        · rw [if_pos c6] at H
          have c6b0 : decide (0 ≤ x7_1) = true := decide_eq_true c6
          clear c6
          by_cases c8 : (bt a0 x7_1) = a1
          · rw [if_pos c8] at H
            have c8b0 : ((bt a0 x7_1) == a1) = true := beq_iff_eq.mpr c8
            have c8b1 : ((bt a0 x7_1) != a1) = false := bne_eq_false_iff_eq.mpr c8
            clear c8
            by_cases c9 : x5_1.length < 8796093022208
            · rw [if_pos c9] at H
              have LMc9 := Aside0.mk c9
              clear c9
              obtain ⟨y317, hy317⟩ : ∃ y_ : List ByteArray, y_ = (x5_1 ++ [x6_1]) := ⟨_, rfl⟩
              replace H : (gatehouseref02_Words.l0 k1 a0 a1 y317 (⟨#[]⟩ : ByteArray) (wrap64 (x7_1 + 1))) = some r := by first | (rw [hy317]; with_reducible exact H) | (have H2_ := (Option.bind_some _ _).symm.trans H; rw [hy317]; with_reducible exact H2_) | (have H2_ := (Option.bind_some _ _).symm.trans H; with_reducible exact H2_) | with_reducible exact H | (rw [hy317]; exact H) | exact H
              have Ny317 := Aside0.mk hy317
              clear hy317
              have H' := Aside0.mk H
              clear H
              have p7 : 0 ≤ (x7_1 : Int) := of_decide_eq_true (by first | (with_reducible assumption) | assumption)
              have q7 : x7_1 < (a0.size : Int) := of_decide_eq_true (by first | (with_reducible assumption) | assumption)
              have hx7 := bt_at a0 x7_1
              replace p7 := eq_true p7
              replace q7 := eq_true q7
              go_wp2_with (first | ((with_reducible refine gate_builtin (b := .append) (xs := #[.tmp 20, .tmp 22]) rfl ?_); at_builtin; refine Kd.R_append Kd.string (w0 := w) w.heap.size rfl (.tmp 20) (.tmp 22) 33 9 (.string ⟨#[]⟩) 16 rfl Tryd.underlying33 info9 rfl (by decide) (by omega) u5 x5_1 x6_1 [.string x6_1] (fun _ => True) (fun _ => False) rfl rfl ?aP (fun _ hk => hk.elim) ?aF ?aO ?aB ?aS ?aL ?_; (case aP => exact rfl); (case aB => exact (by repeat (first | (with_reducible first | exact HB.out | apply below_alloc | apply pw_below_drewN | apply below_drew1) | exact HB.out))); (case aF => exact (fun _ _ => trivial)); (case aO => exact (by (with_reducible repeat (first | apply Kd.R_alloc | apply Kd.R_drewN | apply Kd.R_drew)); exact HO_5.out)); (case aS => exact (below_size (by repeat (first | (with_reducible first | exact HB.out | apply below_alloc | apply pw_below_drewN | apply below_drew1) | exact HB.out)))); (case aL => have := LMc9.out; omega); intro v318 w10 ho hb hg hat; rw [← Ny317.out] at ho; have n0_ := Aside0.mk (hb); have n1_ := Aside0.mk (ho); clear HB; clear HO_5; have HB := n0_; have HO319 := n1_; clear n0_ n1_; clear ho hb hg hat))
              go_roundg k1
              case measure => have := HK1.out; omega
              case rel => exact ⟨(y317), ((⟨#[]⟩ : ByteArray)), (wrap64 (x7_1 + 1)), (by first | rfl | (simp; done) | (simp [*]; done)), (by first | rfl | (simp; done) | (simp [*]; done)), H', ⟨by have := HK1.out; omega⟩, ⟨by (with_reducible repeat (first | apply Kd.R_alloc | apply Kd.R_drewN | apply Kd.R_drew)); exact HO319.out⟩, ⟨by repeat (first | (with_reducible first | exact HB.out | apply below_alloc | apply pw_below_drewN | apply below_drew1) | exact HB.out)⟩⟩
            · rw [if_neg c9] at H
              exact absurd H (by simp)
          · rw [if_neg c8] at H
            have c8b0 : ((bt a0 x7_1) == a1) = false := beq_eq_false_iff_ne.mpr c8
            have c8b1 : ((bt a0 x7_1) != a1) = true := bne_iff_ne.mpr c8
            obtain ⟨y320, hy320⟩ : ∃ y_ : List Int, y_ = (([bt a0 x7_1] : List Int)) := ⟨_, rfl⟩
            replace H : (if x6_1.size + (strOfNums y320).size ≤ 9223372036854775807 then (gatehouseref02_Words.l0 k1 a0 a1 x5_1 (x6_1 ++ (strOfNums y320)) (wrap64 (x7_1 + 1))) else (none)) = some r := by first | (rw [hy320]; with_reducible exact H) | (have H2_ := (Option.bind_some _ _).symm.trans H; rw [hy320]; with_reducible exact H2_) | (have H2_ := (Option.bind_some _ _).symm.trans H; with_reducible exact H2_) | with_reducible exact H | (rw [hy320]; exact H) | exact H
            have Ny320 := Aside0.mk hy320
            clear hy320
            by_cases c12 : x6_1.size + (strOfNums y320).size ≤ 9223372036854775807
            · rw [if_pos c12] at H
              have c12b0 := eq_true c12
              have c12b1 : decide (x6_1.size + (strOfNums y320).size ≤ 9223372036854775807) = true := decide_eq_true c12
              try have c12b2 : (9223372036854775807 < x6_1.size + (strOfNums y320).size) = False := eq_false (Nat.not_lt.2 c12)
              have H' := Aside0.mk H
              clear H
              have p7 : 0 ≤ (x7_1 : Int) := of_decide_eq_true (by first | (with_reducible assumption) | assumption)
              have q7 : x7_1 < (a0.size : Int) := of_decide_eq_true (by first | (with_reducible assumption) | assumption)
              have hx7 := bt_at a0 x7_1
              replace p7 := eq_true p7
              replace q7 := eq_true q7
              have p11 : 0 ≤ (x7_1 : Int) := of_decide_eq_true (by first | (with_reducible assumption) | assumption)
              have q11 : x7_1 < (a0.size : Int) := of_decide_eq_true (by first | (with_reducible assumption) | assumption)
              have hx11 := bt_at a0 x7_1
              replace p11 := eq_true p11
              replace q11 := eq_true q11
              go_wp2_with (first | ((with_reducible refine gate_dst (N := 28) rfl ?_); refine Kd.R_lit (Kd.int .u8) _ 5 ?hg (N := 28) ?hd (xs := ([bt a0 x7_1] : List Int)) (inner := [.int .u8 (bt a0 x7_1)]) (ok := fun _ => True) (okp := fun _ => True) ?hr ?hp (fun _ hk => hk) trivial (Below.refl _ _) (Nat.le_refl _) (by simp) ?_; (case hd => rfl); (case hg => rfl); (case hr => first | (go_simp; done) | (go_simp; rfl)); (case hp => exact (Reps.one (show Kd.M (Kd.int .u8) _ _ _ (bt a0 x7_1) [.int .u8 (bt a0 x7_1)] from rfl) (Reps.none _ _))); intro v321 w13 ho14 hb hg_ hnew_; clear hg_ hnew_; (first | rw [← Ny320.out] at ho14 | (simp only [Int.reduceToNat] at ho14; rw [← Ny320.out] at ho14)); have n0_ := Aside0.mk (Kd.R_below (by (with_reducible repeat (first | apply Kd.R_alloc | apply Kd.R_drewN | apply Kd.R_drew)); exact HO_5.out) hb); have n1_ := Aside0.mk (Kd.R_lower ho14 (below_size (by repeat (first | (with_reducible first | exact HB.out | apply below_alloc | apply pw_below_drewN | apply below_drew1) | exact HB.out)))); have n2_ := Aside0.mk (below_step (by repeat (first | (with_reducible first | exact HB.out | apply below_alloc | apply pw_below_drewN | apply below_drew1) | exact HB.out)) hb); clear HO_5; clear HB; have HO_5 := n0_; have HO322 := n1_; have HB := n2_; clear n0_ n1_ n2_; clear hb ho14; have hcv15 := own_string (P := Tryd.prog) Tryd.underlying34 Tryd.underlying5 Tryd.underlying9 (Kd.own_of_R HO322.out)))
              go_roundg k1
              case measure => have := HK1.out; omega
              case rel => exact ⟨(x5_1), (x6_1 ++ (strOfNums y320)), (wrap64 (x7_1 + 1)), (by first | rfl | (simp; done) | (simp [*]; done)), (by first | rfl | (simp; done) | (simp [*]; done)), H', ⟨by have := HK1.out; omega⟩, ⟨by (with_reducible repeat (first | apply Kd.R_alloc | apply Kd.R_drewN | apply Kd.R_drew)); exact HO_5.out⟩, ⟨by repeat (first | (with_reducible first | exact HB.out | apply below_alloc | apply pw_below_drewN | apply below_drew1) | exact HB.out)⟩⟩
            · rw [if_neg c12] at H
              exact absurd H (by simp)
        · rw [if_neg c6] at H
          exact absurd H (by simp)
      · rw [if_neg c5] at H
        have c5b0 : decide (x7_1 < (a0.size : Int)) = false := decide_eq_false c5
        clear c5
        by_cases c16 : x5_1.length < 8796093022208
        · rw [if_pos c16] at H
          have LMc16 := Aside0.mk c16
          clear c16
          obtain ⟨y323, hy323⟩ : ∃ y_ : List ByteArray, y_ = (x5_1 ++ [x6_1]) := ⟨_, rfl⟩
          replace H : (some y323) = some r := by first | (rw [hy323]; with_reducible exact H) | (have H2_ := (Option.bind_some _ _).symm.trans H; rw [hy323]; with_reducible exact H2_) | (have H2_ := (Option.bind_some _ _).symm.trans H; with_reducible exact H2_) | with_reducible exact H | (rw [hy323]; exact H) | exact H
          have Ny323 := Aside0.mk hy323
          clear hy323
          obtain rfl := Option.some.inj H
          go_wp2_with (first | ((with_reducible refine gate_builtin (b := .append) (xs := #[.tmp 31, .tmp 33]) rfl ?_); at_builtin; refine Kd.R_append Kd.string (w0 := w) w.heap.size rfl (.tmp 31) (.tmp 33) 33 9 (.string ⟨#[]⟩) 16 rfl Tryd.underlying33 info9 rfl (by decide) (by omega) u5 x5_1 x6_1 [.string x6_1] (fun _ => True) (fun _ => False) rfl rfl ?aP (fun _ hk => hk.elim) ?aF ?aO ?aB ?aS ?aL ?_; (case aP => exact rfl); (case aB => exact (by repeat (first | (with_reducible first | exact HB.out | apply below_alloc | apply pw_below_drewN | apply below_drew1) | exact HB.out))); (case aF => exact (fun _ _ => trivial)); (case aO => exact (by (with_reducible repeat (first | apply Kd.R_alloc | apply Kd.R_drewN | apply Kd.R_drew)); exact HO_5.out)); (case aS => exact (below_size (by repeat (first | (with_reducible first | exact HB.out | apply below_alloc | apply pw_below_drewN | apply below_drew1) | exact HB.out)))); (case aL => have := LMc16.out; omega); intro v324 w17 ho hb hg hat; rw [← Ny323.out] at ho; have n0_ := Aside0.mk (hb); have n1_ := Aside0.mk (ho); clear HB; clear HO_5; have HB := n0_; have HO325 := n1_; clear n0_ n1_; clear ho hb hg hat))
          go_ret
          exact ⟨_, by first | rfl | (simp [errW_none, errW_some] <;> rfl) | (simp [*, errW_none, errW_some] <;> rfl), by (with_reducible repeat (first | apply Kd.R_alloc | apply Kd.R_drewN | apply Kd.R_drew)); exact HO325.out, by repeat (first | (with_reducible first | exact HB.out | apply below_alloc | apply pw_below_drewN | apply below_drew1) | exact HB.out)⟩
        · rw [if_neg c16] at H
          exact absurd H (by simp)

end Go.Proofs.YtijnlgmclaphhaaDoorZ
-- Written by a program of this session (gprint.py, over the kit's printer).
namespace Go.Proofs.YtijnlgmclaphhaaDoorZ
open Go.RowKit Go.Proofs.YtijnlgmclaphhaaDoorW.PrintWords Go.Proofs.YtijnlgmclaphhaaDoorW.PrintLast Go.Proofs.YtijnlgmclaphhaaDoorW.PrintMore
attribute [local go_sem] max2_int min2_int max_two min_two max_three min_three max_four min_four   -- for this text's walks alone
set_option linter.unusedVariables false
set_option linter.unusedSimpArgs false

/-! ### gatehouseref13_Split: function 25 -/
mutual
def gatehouseref13_Split.l0 : Nat → List ByteArray → List ByteArray → Int → Int → Option (List ByteArray × Int)
  | 0, _, _, _, _ => none
  | k + 1, x4, x13, x14, x15 => if x15 < x14 then (if 0 ≤ x15 then (if x15 < (x13.length : Int) then (gatehouseref13_Split.l1 k x4 (rdOf ByteArray.empty x13 x15) 0 x13 x14 x15) else (none)) else (none)) else (if (x4.length : Int) > 16 then (some (([] : List ByteArray), 32)) else (some (x4, 0)))
def gatehouseref13_Split.l1 : Nat → List ByteArray → ByteArray → Int → List ByteArray → Int → Int → Option (List ByteArray × Int)
  | 0, _, _, _, _, _, _ => none
  | k + 1, x4, x6, x7, x13, x14, x15 => if x7 < (x6.size : Int) then (if 0 ≤ x7 then (if (bt x6 x7) = 0 then (some (([] : List ByteArray), 31)) else (gatehouseref13_Split.l1 k x4 x6 (wrap64 (x7 + 1)) x13 x14 x15)) else (none)) else (if (x6.size : Int) > 32 then (some (([] : List ByteArray), 32)) else (if x6.toList = ([] : List UInt8) then (gatehouseref13_Split.j2 k x4 x6 x13 x14 x15 true) else (gatehouseref13_Split.j2 k x4 x6 x13 x14 x15 (x6.toList == ([46] : List UInt8)))))
def gatehouseref13_Split.j2 : Nat → List ByteArray → ByteArray → List ByteArray → Int → Int → Bool → Option (List ByteArray × Int)
  | 0, _, _, _, _, _, _ => none
  | k + 1, x4, x6, x13, x14, x15, x37 => if x37 = true then (gatehouseref13_Split.l0 k x4 x13 x14 (wrap64 (x15 + 1))) else (if x6.toList = ([46, 46] : List UInt8) then (if (x4.length : Int) > 0 then ((some (([] : List ByteArray) : List ByteArray)).bind fun y333 => (if 0 ≤ (wrap64 ((x4.length : Int) - 1)) then (if (wrap64 ((x4.length : Int) - 1)) ≤ (x4.length : Int) then ((some (x4.take ((wrap64 ((x4.length : Int) - 1)) : Int).toNat : List ByteArray)).bind fun y336 => (if y333.length + y336.length < 8796093022208 then (gatehouseref13_Split.l0 k (y333 ++ y336) x13 x14 (wrap64 (x15 + 1))) else (none))) else (none)) else (none))) else (gatehouseref13_Split.l0 k x4 x13 x14 (wrap64 (x15 + 1)))) else (if x4.length < 8796093022208 then (gatehouseref13_Split.l0 k (x4 ++ [x6]) x13 x14 (wrap64 (x15 + 1))) else (none)))
end
def gatehouseref13_Split.f (k : Nat) (a0 : ByteArray) : Option (List ByteArray × Int) := if (a0.size : Int) > 256 then (some (([] : List ByteArray), 32)) else ((gatehouseref02_Words.f k a0 47).bind fun t329 => (gatehouseref13_Split.l0 k (([] : List ByteArray)) t329 (t329.length : Int) 0))
theorem gatehouseref13_Split.mono_l : ∀ k, (∀ y0 y1 y2 y3, LeO (gatehouseref13_Split.l0 k y0 y1 y2 y3) (gatehouseref13_Split.l0 (k + 1) y0 y1 y2 y3)) ∧ (∀ y0 y1 y2 y3 y4 y5, LeO (gatehouseref13_Split.l1 k y0 y1 y2 y3 y4 y5) (gatehouseref13_Split.l1 (k + 1) y0 y1 y2 y3 y4 y5)) ∧ (∀ y0 y1 y2 y3 y4 y5, LeO (gatehouseref13_Split.j2 k y0 y1 y2 y3 y4 y5) (gatehouseref13_Split.j2 (k + 1) y0 y1 y2 y3 y4 y5))
  | 0 => ⟨fun _ _ _ _ r h => by simp [gatehouseref13_Split.l0] at h, fun _ _ _ _ _ _ r h => by simp [gatehouseref13_Split.l1] at h, fun _ _ _ _ _ _ r h => by simp [gatehouseref13_Split.j2] at h⟩
  | k + 1 => by
    obtain ⟨ih0, ih1, ih2⟩ := gatehouseref13_Split.mono_l k
    refine ⟨?_, ?_, ?_⟩
    · intro y0 y1 y2 y3
      unfold gatehouseref13_Split.l0
      repeat' first
      | (with_reducible exact ih0 _ _ _ _)
      | (with_reducible exact ih1 _ _ _ _ _ _)
      | (with_reducible exact ih2 _ _ _ _ _ _)
      | (with_reducible exact gatehouseref02_Words.mono _ _ _)
      | (with_reducible exact LeO.refl _)
      | (with_reducible exact LeO.none _)
      | (with_reducible refine LeO.ite ?_ ?_)
      | (with_reducible refine LeO.bind ?_ (fun _ => ?_))
      | exact ih0 _ _ _ _
      | exact ih1 _ _ _ _ _ _
      | exact ih2 _ _ _ _ _ _
      | exact gatehouseref02_Words.mono _ _ _
      | exact LeO.none _
      | refine LeO.ite ?_ ?_
      | refine LeO.bind ?_ (fun _ => ?_)
    · intro y0 y1 y2 y3 y4 y5
      unfold gatehouseref13_Split.l1
      repeat' first
      | (with_reducible exact ih0 _ _ _ _)
      | (with_reducible exact ih1 _ _ _ _ _ _)
      | (with_reducible exact ih2 _ _ _ _ _ _)
      | (with_reducible exact gatehouseref02_Words.mono _ _ _)
      | (with_reducible exact LeO.refl _)
      | (with_reducible exact LeO.none _)
      | (with_reducible refine LeO.ite ?_ ?_)
      | (with_reducible refine LeO.bind ?_ (fun _ => ?_))
      | exact ih0 _ _ _ _
      | exact ih1 _ _ _ _ _ _
      | exact ih2 _ _ _ _ _ _
      | exact gatehouseref02_Words.mono _ _ _
      | exact LeO.none _
      | refine LeO.ite ?_ ?_
      | refine LeO.bind ?_ (fun _ => ?_)
    · intro y0 y1 y2 y3 y4 y5
      unfold gatehouseref13_Split.j2
      repeat' first
      | (with_reducible exact ih0 _ _ _ _)
      | (with_reducible exact ih1 _ _ _ _ _ _)
      | (with_reducible exact ih2 _ _ _ _ _ _)
      | (with_reducible exact gatehouseref02_Words.mono _ _ _)
      | (with_reducible exact LeO.refl _)
      | (with_reducible exact LeO.none _)
      | (with_reducible refine LeO.ite ?_ ?_)
      | (with_reducible refine LeO.bind ?_ (fun _ => ?_))
      | exact ih0 _ _ _ _
      | exact ih1 _ _ _ _ _ _
      | exact ih2 _ _ _ _ _ _
      | exact gatehouseref02_Words.mono _ _ _
      | exact LeO.none _
      | refine LeO.ite ?_ ?_
      | refine LeO.bind ?_ (fun _ => ?_)
theorem gatehouseref13_Split.mono : ∀ a0 k, LeO (gatehouseref13_Split.f k a0) (gatehouseref13_Split.f (k + 1) a0) := by
  intro a0 k
  obtain ⟨ih0, ih1, ih2⟩ := gatehouseref13_Split.mono_l k
  unfold gatehouseref13_Split.f
  repeat' first
      | (with_reducible exact ih0 _ _ _ _)
      | (with_reducible exact ih1 _ _ _ _ _ _)
      | (with_reducible exact ih2 _ _ _ _ _ _)
      | (with_reducible exact gatehouseref02_Words.mono _ _ _)
      | (with_reducible exact LeO.refl _)
      | (with_reducible exact LeO.none _)
      | (with_reducible refine LeO.ite ?_ ?_)
      | (with_reducible refine LeO.bind ?_ (fun _ => ?_))
      | exact ih0 _ _ _ _
      | exact ih1 _ _ _ _ _ _
      | exact ih2 _ _ _ _ _ _
      | exact gatehouseref02_Words.mono _ _ _
      | exact LeO.none _
      | refine LeO.ite ?_ ?_
      | refine LeO.bind ?_ (fun _ => ?_)
set_option maxHeartbeats 8000000 in
set_option maxRecDepth 100000 in
theorem gatehouseref13_Split.calls (k : Nat) (a0 : ByteArray) (r1 : List ByteArray) (r2 : Int) (w : World) (h : gatehouseref13_Split.f k a0 = some (r1, r2)) :
    Calls Tryd.prog 25 #[.string a0] w fun e w' => ∃ v0_ : Value, e = .returned (.tuple #[v0_, .int .i64 r2]) ∧ Kd.R Kd.string 9 w' w.heap.size (fun _ => True) v0_ r1 ∧ Below w.heap.size w w' := by
  have HB := Aside0.mk (Below.refl w.heap.size w)
  have H : (if (a0.size : Int) > 256 then (some (([] : List ByteArray), 32)) else ((gatehouseref02_Words.f k a0 47).bind fun t329 => (gatehouseref13_Split.l0 k (([] : List ByteArray)) t329 (t329.length : Int) 0))) = some (r1, r2) := h
  clear h
  by_cases c2 : (a0.size : Int) > 256
  · rw [if_pos c2] at H
    have c2b0 : decide (256 < (a0.size : Int)) = true := decide_eq_true c2
    have c2b1 : decide (256 < a0.size) = true := decide_eq_true (by omega)
    clear c2
    simp only [Option.some.injEq, Prod.mk.injEq] at H
    obtain ⟨rfl, rfl⟩ := H
    go_enter Tryd.func25, Tryd.ntmps25
    go_wp2
    go_ret2
    exact ⟨_, by first | rfl | (simp [errW_none, errW_some] <;> rfl) | (simp [*, errW_none, errW_some] <;> rfl), by first | exact Kd.R_nil _ _ _ _ _ | exact Kd.N_nil _ _ _ _ _ | exact Kd.V_nil _ _ _ _ _ | exact Kd.Q_nil _ _ _ _ _ | exact Kd.S_nil _ _ _ _ _, by repeat (first | (with_reducible first | exact HB.out | apply below_alloc | apply pw_below_drewN | apply below_drew1) | exact HB.out)⟩
  · rw [if_neg c2] at H
    have c2b0 : decide (256 < (a0.size : Int)) = false := decide_eq_false c2
    have c2b1 : decide (256 < a0.size) = false := decide_eq_false (by omega)
    clear c2
    obtain ⟨y326, hy326⟩ : ∃ y_ : List ByteArray, y_ = (([] : List ByteArray)) := ⟨_, rfl⟩
    replace H : ((gatehouseref02_Words.f k a0 47).bind fun t329 => (gatehouseref13_Split.l0 k y326 t329 (t329.length : Int) 0)) = some (r1, r2) := by first | (rw [hy326]; with_reducible exact H) | (have H2_ := (Option.bind_some _ _).symm.trans H; rw [hy326]; with_reducible exact H2_) | (have H2_ := (Option.bind_some _ _).symm.trans H; with_reducible exact H2_) | with_reducible exact H | (rw [hy326]; exact H) | exact H
    have Ny326 := Aside0.mk hy326
    clear hy326
    replace H := Option.bind_eq_some_iff.mp H
    obtain ⟨t329, A30, H⟩ := H
    replace H : (gatehouseref13_Split.l0 k y326 t329 (t329.length : Int) 0) = some (r1, r2) := H
    have A3 := Aside0.mk A30
    clear A30
    have H' := Aside0.mk H
    clear H
    go_enter Tryd.func25, Tryd.ntmps25
    go_wp2_with (first | ((with_reducible refine gate_dst (N := 11) rfl ?_); refine Kd.R_lit Kd.string _ 9 ?hg (N := 11) ?hd (xs := ([] : List ByteArray)) (inner := []) (ok := fun _ => True) (okp := fun _ => True) ?hr ?hp (fun _ hk => hk) trivial (Below.refl _ _) (Nat.le_refl _) (by simp) ?_; (case hd => rfl); (case hg => rfl); (case hr => first | (go_simp; done) | (go_simp; rfl)); (case hp => exact (Reps.none _ _)); intro v327 w4 ho5 hb hg_ hnew_; clear hg_ hnew_; (first | rw [← Ny326.out] at ho5 | (simp only [Int.reduceToNat] at ho5; rw [← Ny326.out] at ho5)); have n0_ := Aside0.mk (Kd.R_lower ho5 (below_size (by repeat (first | (with_reducible first | exact HB.out | apply below_alloc | apply pw_below_drewN | apply below_drew1) | exact HB.out)))); have n1_ := Aside0.mk (below_step (by repeat (first | (with_reducible first | exact HB.out | apply below_alloc | apply pw_below_drewN | apply below_drew1) | exact HB.out)) hb); clear HB; have HO328 := n0_; have HB := n1_; clear n0_ n1_; clear hb ho5) | ((with_reducible refine gate_callee (f := 47) rfl ?_); refine goesL_ (some 13) rfl rfl Tryd.func47 (by kernel_rfl) rfl #[.string a0, .int .u8 47] rfl (by (try simp only [List.map_toArray, List.map_cons, List.map_nil]); first | done | rfl | (simp only [List.length_drop, List.length_take]; rfl)) ?_; (with_reducible refine (gatehouseref02_Words.calls k a0 47 t329 _ A3.out).mono ?_); rintro e w6 ⟨v330, rfl, ho0, hb⟩; refine ⟨_, rfl, ?_⟩; have n0_ := Aside0.mk (Kd.R_elder' (by (with_reducible repeat (first | apply Kd.R_alloc | apply Kd.R_drewN | apply Kd.R_drew)); exact HO328.out) (Kd.R_base ho0) hb); have n1_ := Aside0.mk (Kd.R_lower (Kd.R_new' ho0 (Kd.R_lt (by (with_reducible repeat (first | apply Kd.R_alloc | apply Kd.R_drewN | apply Kd.R_drew)); exact HO328.out))) (below_size (by repeat (first | (with_reducible first | exact HB.out | apply below_alloc | apply pw_below_drewN | apply below_drew1) | exact HB.out)))); have n2_ := Aside0.mk (below_step (by repeat (first | (with_reducible first | exact HB.out | apply below_alloc | apply pw_below_drewN | apply below_drew1) | exact HB.out)) hb); clear HO328; clear HB; have HO328 := n0_; have HO331 := n1_; have HB := n2_; clear n0_ n1_ n2_; (try clear hb); (try clear hb2); (try clear hk); (try clear hi); (try clear ho0); obtain ⟨Ao7, co7, eo7⟩ := Kd.R_slice HO331.out; subst eo7))
    go_loopg [4, 15] k (fun kq v4 v15 w' => ∃ (x4_1 : List ByteArray) (x15_1 : Int), v15 = .int .i64 x15_1 ∧ Aside0 (gatehouseref13_Split.l0 kq x4_1 t329 (t329.length : Int) x15_1 = some (r1, r2)) ∧ Aside0 (kq ≤ k) ∧ Aside0 (Kd.R Kd.string 9 w' w.heap.size (fun k_ => some k_ ≠ ((.slice Ao7 t329.length co7) : Value).ownBlock) v4 x4_1) ∧ Aside0 (Kd.R Kd.string 9 w' w.heap.size (fun k_ => some k_ ≠ (v4 : Value).ownBlock) (.slice Ao7 t329.length co7) t329) ∧ Aside0 (Below w.heap.size w w'))
    case atStart => exact ⟨(y326), (0), (by first | rfl | (simp; done) | (simp [*]; done)), H', ⟨Nat.le_refl _⟩, ⟨by (with_reducible repeat (first | apply Kd.R_alloc | apply Kd.R_drewN | apply Kd.R_drew)); exact Kd.R_mono HO328.out (fun _ hk => hk.2)⟩, ⟨by (with_reducible repeat (first | apply Kd.R_alloc | apply Kd.R_drewN | apply Kd.R_drew)); exact Kd.R_mono HO331.out (fun _ hk => hk.2)⟩, ⟨by repeat (first | (with_reducible first | exact HB.out | apply below_alloc | apply pw_below_drewN | apply below_drew1) | exact HB.out)⟩⟩
    case round =>
      clear H'
      try clear c2
      try clear c2b0
      try clear c2b1
      try clear p2
      try clear c4
      obtain ⟨x4_1, x15_1, rfl, HA, HK1, HO_4, HO_13, HB⟩ := hrel
      cases gk with
      | zero => exact absurd HA.out (by simp [gatehouseref13_Split.l0])
      | succ k1 =>
        have H := HA.out
        clear HA
        simp only [gatehouseref13_Split.l0] at H
        by_cases c8 : x15_1 < (t329.length : Int)
        · rw [if_pos c8] at H
          have c8b0 : decide (x15_1 < (t329.length : Int)) = true := decide_eq_true c8
          clear c8
          by_cases c9 : 0 ≤ x15_1
          · rw [if_pos c9] at H
            have c9b0 : decide (0 ≤ x15_1) = true := decide_eq_true c9
            clear c9
            by_cases c10 : x15_1 < (t329.length : Int)
            · rw [if_pos c10] at H
              have c10b0 : decide (x15_1 < (t329.length : Int)) = true := decide_eq_true c10
              clear c10
              have H' := Aside0.mk H
              clear H
              have p332 : 0 ≤ (x15_1 : Int) := of_decide_eq_true (by first | (with_reducible assumption) | assumption)
              have q332 : x15_1 < (t329.length : Int) := of_decide_eq_true (by first | (with_reducible assumption) | assumption)
              obtain ⟨ad332, e332, hx332_0⟩ := Kd.at_string (Kd.R_reads' HO_13.out).2.2 x15_1 p332 q332
              cases e332
              replace p332 := eq_true p332
              replace q332 := eq_true q332
              go_wp2
              go_loopg [7] k1 (fun kq v7 w' => ∃ (x7_2 : Int), v7 = .int .i64 x7_2 ∧ Aside0 (gatehouseref13_Split.l1 kq x4_1 (rdOf ByteArray.empty t329 x15_1) x7_2 t329 (t329.length : Int) x15_1 = some (r1, r2)) ∧ Aside0 (kq ≤ k1) ∧ Aside0 (Kd.R Kd.string 9 w' w.heap.size (fun k_ => some k_ ≠ ((.slice (some ad332) t329.length co7) : Value).ownBlock) u4 x4_1) ∧ Aside0 (Kd.R Kd.string 9 w' w.heap.size (fun k_ => some k_ ≠ (u4 : Value).ownBlock) (.slice (some ad332) t329.length co7) t329) ∧ Aside0 (Below w.heap.size w w'))
              case atStart => exact ⟨(0), (by first | rfl | (simp; done) | (simp [*]; done)), H', ⟨Nat.le_refl _⟩, ⟨by (with_reducible repeat (first | apply Kd.R_alloc | apply Kd.R_drewN | apply Kd.R_drew)); exact HO_4.out⟩, ⟨by (with_reducible repeat (first | apply Kd.R_alloc | apply Kd.R_drewN | apply Kd.R_drew)); exact HO_13.out⟩, ⟨by repeat (first | (with_reducible first | exact HB.out | apply below_alloc | apply pw_below_drewN | apply below_drew1) | exact HB.out)⟩⟩
              case round =>
                clear H'
                try clear c1
                try clear c2
                try clear c2b0
                try clear c2b1
                try clear p2
                try clear p3
                try clear q3
                try clear hx3
                try clear c4
                try clear c8
                try clear c8b0
                try clear c9
                try clear c9b0
                try clear c10
                try clear c10b0
                try clear hx332_0
                try clear p2
                try clear p332
                try clear q332
                obtain ⟨x7_2, rfl, HA, HK2, HO_4, HO_13, HB⟩ := hrel
                cases gk with
                | zero => exact absurd HA.out (by simp [gatehouseref13_Split.l1])
                | succ k2 =>
                  have H := HA.out
                  clear HA
                  simp only [gatehouseref13_Split.l1] at H
                  by_cases c11 : x7_2 < ((rdOf ByteArray.empty t329 x15_1).size : Int)
                  · rw [if_pos c11] at H
                    have c11b0 : decide (x7_2 < ((rdOf ByteArray.empty t329 x15_1).size : Int)) = true := decide_eq_true c11
                    clear c11
                    by_cases c12 : 0 ≤ x7_2
                    · rw [if_pos c12] at H
                      have c12b0 : decide (0 ≤ x7_2) = true := decide_eq_true c12
                      clear c12
                      by_cases c14 : (bt (rdOf ByteArray.empty t329 x15_1) x7_2) = 0
                      · rw [if_pos c14] at H
                        have c14b0 : ((bt (rdOf ByteArray.empty t329 x15_1) x7_2) == 0) = true := beq_iff_eq.mpr c14
                        have c14b1 : ((bt (rdOf ByteArray.empty t329 x15_1) x7_2) != 0) = false := bne_eq_false_iff_eq.mpr c14
                        clear c14
                        simp only [Option.some.injEq, Prod.mk.injEq] at H
                        obtain ⟨rfl, rfl⟩ := H
                        have p13 : 0 ≤ (x7_2 : Int) := of_decide_eq_true (by first | (with_reducible assumption) | assumption)
                        have q13 : x7_2 < ((rdOf ByteArray.empty t329 x15_1).size : Int) := of_decide_eq_true (by first | (with_reducible assumption) | assumption)
                        have hx13 := bt_at (rdOf ByteArray.empty t329 x15_1) x7_2
                        replace p13 := eq_true p13
                        replace q13 := eq_true q13
                        go_wp2
                        go_ret2
                        exact ⟨_, by first | rfl | (simp [errW_none, errW_some] <;> rfl) | (simp [*, errW_none, errW_some] <;> rfl), by first | exact Kd.R_nil _ _ _ _ _ | exact Kd.N_nil _ _ _ _ _ | exact Kd.V_nil _ _ _ _ _ | exact Kd.Q_nil _ _ _ _ _ | exact Kd.S_nil _ _ _ _ _, by repeat (first | (with_reducible first | exact HB.out | apply below_alloc | apply pw_below_drewN | apply below_drew1) | exact HB.out)⟩
                      · rw [if_neg c14] at H
                        have c14b0 : ((bt (rdOf ByteArray.empty t329 x15_1) x7_2) == 0) = false := beq_eq_false_iff_ne.mpr c14
                        have c14b1 : ((bt (rdOf ByteArray.empty t329 x15_1) x7_2) != 0) = true := bne_iff_ne.mpr c14
                        have H' := Aside0.mk H
                        clear H
                        have p13 : 0 ≤ (x7_2 : Int) := of_decide_eq_true (by first | (with_reducible assumption) | assumption)
                        have q13 : x7_2 < ((rdOf ByteArray.empty t329 x15_1).size : Int) := of_decide_eq_true (by first | (with_reducible assumption) | assumption)
                        have hx13 := bt_at (rdOf ByteArray.empty t329 x15_1) x7_2
                        replace p13 := eq_true p13
                        replace q13 := eq_true q13
                        go_wp2
                        go_roundg k2
                        case measure => have := HK1.out; have := HK2.out; omega
                        case rel => exact ⟨(wrap64 (x7_2 + 1)), (by first | rfl | (simp; done) | (simp [*]; done)), H', ⟨by have := HK1.out; have := HK2.out; omega⟩, ⟨by (with_reducible repeat (first | apply Kd.R_alloc | apply Kd.R_drewN | apply Kd.R_drew)); exact HO_4.out⟩, ⟨by (with_reducible repeat (first | apply Kd.R_alloc | apply Kd.R_drewN | apply Kd.R_drew)); exact HO_13.out⟩, ⟨by repeat (first | (with_reducible first | exact HB.out | apply below_alloc | apply pw_below_drewN | apply below_drew1) | exact HB.out)⟩⟩
                    · rw [if_neg c12] at H
                      exact absurd H (by simp)
                  · rw [if_neg c11] at H
                    have c11b0 : decide (x7_2 < ((rdOf ByteArray.empty t329 x15_1).size : Int)) = false := decide_eq_false c11
                    clear c11
                    by_cases c15 : ((rdOf ByteArray.empty t329 x15_1).size : Int) > 32
                    · rw [if_pos c15] at H
                      have c15b0 : decide (32 < ((rdOf ByteArray.empty t329 x15_1).size : Int)) = true := decide_eq_true c15
                      have c15b1 : decide (32 < (rdOf ByteArray.empty t329 x15_1).size) = true := decide_eq_true (by omega)
                      clear c15
                      simp only [Option.some.injEq, Prod.mk.injEq] at H
                      obtain ⟨rfl, rfl⟩ := H
                      go_wp2
                      go_ret2
                      exact ⟨_, by first | rfl | (simp [errW_none, errW_some] <;> rfl) | (simp [*, errW_none, errW_some] <;> rfl), by first | exact Kd.R_nil _ _ _ _ _ | exact Kd.N_nil _ _ _ _ _ | exact Kd.V_nil _ _ _ _ _ | exact Kd.Q_nil _ _ _ _ _ | exact Kd.S_nil _ _ _ _ _, by repeat (first | (with_reducible first | exact HB.out | apply below_alloc | apply pw_below_drewN | apply below_drew1) | exact HB.out)⟩
                    · rw [if_neg c15] at H
                      have c15b0 : decide (32 < ((rdOf ByteArray.empty t329 x15_1).size : Int)) = false := decide_eq_false c15
                      have c15b1 : decide (32 < (rdOf ByteArray.empty t329 x15_1).size) = false := decide_eq_false (by omega)
                      clear c15
                      have HC16 := Aside0.mk H
                      clear H
                      go_upto_region 14 with (fail)
                      go_cut [37] (fun v37 wc => ∃ (kq : Nat) (x37_15 : Bool), v37 = .bool x37_15 ∧ Aside0 (gatehouseref13_Split.j2 kq x4_1 (rdOf ByteArray.empty t329 x15_1) t329 (t329.length : Int) x15_1 x37_15 = some (r1, r2)) ∧ Aside0 (kq ≤ k2) ∧ Aside0 (Kd.R Kd.string 9 wc w.heap.size (fun k_ => some k_ ≠ ((.slice (some ad332) t329.length co7) : Value).ownBlock) u4 x4_1) ∧ Aside0 (Kd.R Kd.string 9 wc w.heap.size (fun k_ => some k_ ≠ (u4 : Value).ownBlock) (.slice (some ad332) t329.length co7) t329) ∧ Aside0 (Below w.heap.size w wc))
                      case first =>
                        have H := HC16.out
                        clear HC16
                        by_cases c17 : (rdOf ByteArray.empty t329 x15_1).toList = ([] : List UInt8)
                        · rw [if_pos c17] at H
                          have c17b0 : ((rdOf ByteArray.empty t329 x15_1).toList == ([] : List UInt8)) = true := beq_iff_eq.mpr c17
                          have c17b1 : ((rdOf ByteArray.empty t329 x15_1).toList != ([] : List UInt8)) = false := bne_eq_false_iff_eq.mpr c17
                          clear c17
                          (first | rw [c17b0] | (simp only [i64_w, i32_w]; rw [c17b0]) | skip)
                          have H' := Aside0.mk H
                          clear H
                          go_wp2
                          go_meet
                          case rel => exact ⟨_, (true), (by first | rfl | (simp; done) | (simp [*]; done)), H', ⟨by have := HK1.out; have := HK2.out; first | omega | exact Nat.le_refl _⟩, ⟨by (with_reducible repeat (first | apply Kd.R_alloc | apply Kd.R_drewN | apply Kd.R_drew)); exact HO_4.out⟩, ⟨by (with_reducible repeat (first | apply Kd.R_alloc | apply Kd.R_drewN | apply Kd.R_drew)); exact HO_13.out⟩, ⟨by repeat (first | (with_reducible first | exact HB.out | apply below_alloc | apply pw_below_drewN | apply below_drew1) | exact HB.out)⟩⟩
                        · rw [if_neg c17] at H
                          have c17b0 : ((rdOf ByteArray.empty t329 x15_1).toList == ([] : List UInt8)) = false := beq_eq_false_iff_ne.mpr c17
                          have c17b1 : ((rdOf ByteArray.empty t329 x15_1).toList != ([] : List UInt8)) = true := bne_iff_ne.mpr c17
                          (first | rw [c17b0] | (simp only [i64_w, i32_w]; rw [c17b0]) | skip)
                          have H' := Aside0.mk H
                          clear H
                          go_wp2
                          go_meet
                          case rel => exact ⟨_, (((rdOf ByteArray.empty t329 x15_1).toList == ([46] : List UInt8))), (by first | rfl | (simp; done) | (simp [*]; done)), H', ⟨by have := HK1.out; have := HK2.out; first | omega | exact Nat.le_refl _⟩, ⟨by (with_reducible repeat (first | apply Kd.R_alloc | apply Kd.R_drewN | apply Kd.R_drew)); exact HO_4.out⟩, ⟨by (with_reducible repeat (first | apply Kd.R_alloc | apply Kd.R_drewN | apply Kd.R_drew)); exact HO_13.out⟩, ⟨by repeat (first | (with_reducible first | exact HB.out | apply below_alloc | apply pw_below_drewN | apply below_drew1) | exact HB.out)⟩⟩
                      case rest =>
                        clear HC16
                        try clear c1
                        try clear p1
                        try clear q1
                        try clear hx1
                        try clear c2
                        try clear c2b0
                        try clear c2b1
                        try clear p2
                        try clear p3
                        try clear q3
                        try clear hx3
                        try clear c4
                        try clear p6
                        try clear c8
                        try clear c8b0
                        try clear c9
                        try clear c9b0
                        try clear c10
                        try clear c10b0
                        try clear c11
                        try clear c11b0
                        try clear c12
                        try clear c12b0
                        try clear p13
                        try clear q13
                        try clear hx13
                        try clear c14
                        try clear c14b0
                        try clear c14b1
                        try clear c15
                        try clear c15b0
                        try clear c15b1
                        try clear c17
                        try clear c17b0
                        try clear c17b1
                        try clear hx332_0
                        try clear p13
                        try clear p2
                        try clear p3
                        try clear p332
                        try clear q13
                        try clear q3
                        try clear q332
                        obtain ⟨kq, x37_15, rfl, HA, HJ15, HO_4, HO_13, HB⟩ := hcut
                        cases kq with
                        | zero => exact absurd HA.out (by simp [gatehouseref13_Split.j2])
                        | succ kj15 =>
                          have H := HA.out
                          clear HA
                          simp only [gatehouseref13_Split.j2] at H
                          by_cases c18 : x37_15 = true
                          · subst c18
                            have H1 : (gatehouseref13_Split.l0 kj15 x4_1 t329 (t329.length : Int) (wrap64 (x15_1 + 1))) = some (r1, r2) := by rw [if_pos rfl] at H; exact H
                            clear H
                            have H := H1
                            clear H1
                            have H' := Aside0.mk H
                            clear H
                            go_wp2
                            go_roundg kj15
                            case measure => have := HK1.out; have := HK2.out; have := HJ15.out; omega
                            case rel => exact ⟨(x4_1), (wrap64 (x15_1 + 1)), (by first | rfl | (simp; done) | (simp [*]; done)), H', ⟨by have := HK1.out; have := HK2.out; have := HJ15.out; omega⟩, ⟨by (with_reducible repeat (first | apply Kd.R_alloc | apply Kd.R_drewN | apply Kd.R_drew)); exact HO_4.out⟩, ⟨by (with_reducible repeat (first | apply Kd.R_alloc | apply Kd.R_drewN | apply Kd.R_drew)); exact HO_13.out⟩, ⟨by repeat (first | (with_reducible first | exact HB.out | apply below_alloc | apply pw_below_drewN | apply below_drew1) | exact HB.out)⟩⟩
                          · replace c18 := Bool.eq_false_iff.mpr c18
                            subst c18
                            have H1 : (if (rdOf ByteArray.empty t329 x15_1).toList = ([46, 46] : List UInt8) then (if (x4_1.length : Int) > 0 then ((some (([] : List ByteArray) : List ByteArray)).bind fun y333 => (if 0 ≤ (wrap64 ((x4_1.length : Int) - 1)) then (if (wrap64 ((x4_1.length : Int) - 1)) ≤ (x4_1.length : Int) then ((some (x4_1.take ((wrap64 ((x4_1.length : Int) - 1)) : Int).toNat : List ByteArray)).bind fun y336 => (if y333.length + y336.length < 8796093022208 then (gatehouseref13_Split.l0 kj15 (y333 ++ y336) t329 (t329.length : Int) (wrap64 (x15_1 + 1))) else (none))) else (none)) else (none))) else (gatehouseref13_Split.l0 kj15 x4_1 t329 (t329.length : Int) (wrap64 (x15_1 + 1)))) else (if x4_1.length < 8796093022208 then (gatehouseref13_Split.l0 kj15 (x4_1 ++ [(rdOf ByteArray.empty t329 x15_1)]) t329 (t329.length : Int) (wrap64 (x15_1 + 1))) else (none))) = some (r1, r2) := by rw [if_neg (show ¬ (false = true) by decide)] at H; exact H
                            clear H
                            have H := H1
                            clear H1
                            by_cases c19 : (rdOf ByteArray.empty t329 x15_1).toList = ([46, 46] : List UInt8)
                            · rw [if_pos c19] at H
                              have c19b0 : ((rdOf ByteArray.empty t329 x15_1).toList == ([46, 46] : List UInt8)) = true := beq_iff_eq.mpr c19
                              have c19b1 : ((rdOf ByteArray.empty t329 x15_1).toList != ([46, 46] : List UInt8)) = false := bne_eq_false_iff_eq.mpr c19
                              clear c19
                              by_cases c20 : (x4_1.length : Int) > 0
                              · rw [if_pos c20] at H
                                have c20b0 : decide (0 < (x4_1.length : Int)) = true := decide_eq_true c20
                                have c20b1 : decide (0 < x4_1.length) = true := decide_eq_true (by omega)
                                clear c20
                                obtain ⟨y333, hy333⟩ : ∃ y_ : List ByteArray, y_ = (([] : List ByteArray)) := ⟨_, rfl⟩
                                replace H : (if 0 ≤ (wrap64 ((x4_1.length : Int) - 1)) then (if (wrap64 ((x4_1.length : Int) - 1)) ≤ (x4_1.length : Int) then ((some (x4_1.take ((wrap64 ((x4_1.length : Int) - 1)) : Int).toNat : List ByteArray)).bind fun y336 => (if y333.length + y336.length < 8796093022208 then (gatehouseref13_Split.l0 kj15 (y333 ++ y336) t329 (t329.length : Int) (wrap64 (x15_1 + 1))) else (none))) else (none)) else (none)) = some (r1, r2) := by first | (rw [hy333]; with_reducible exact H) | (have H2_ := (Option.bind_some _ _).symm.trans H; rw [hy333]; with_reducible exact H2_) | (have H2_ := (Option.bind_some _ _).symm.trans H; with_reducible exact H2_) | with_reducible exact H | (rw [hy333]; exact H) | exact H
                                have Ny333 := Aside0.mk hy333
                                clear hy333
                                obtain ⟨ji21, hji21⟩ : ∃ j_ : Int, (wrap64 ((x4_1.length : Int) - 1)) = j_ := ⟨_, rfl⟩
                                replace H : (if 0 ≤ (ji21) then (if (ji21) ≤ (x4_1.length : Int) then ((some (x4_1.take ((ji21) : Int).toNat : List ByteArray)).bind fun y336 => (if y333.length + y336.length < 8796093022208 then (gatehouseref13_Split.l0 kj15 (y333 ++ y336) t329 (t329.length : Int) (wrap64 (x15_1 + 1))) else (none))) else (none)) else (none)) = some (r1, r2) := by first | (rw [hji21] at H; exact H) | (simp only [hji21] at H ⊢; exact H)
                                have hji21w : (IntKind.i64.wrap ((x4_1.length : Int) - 1)) = ji21 := (i64_w _).trans hji21
                                by_cases c22 : 0 ≤ (ji21)
                                · rw [if_pos c22] at H
                                  have c22b0 := eq_true c22
                                  have c22b1 : decide (0 ≤ (ji21)) = true := decide_eq_true c22
                                  clear c22
                                  by_cases c23 : (ji21) ≤ (x4_1.length : Int)
                                  · rw [if_pos c23] at H
                                    have c23b0 := eq_true c23
                                    have c23b1 : decide ((ji21) ≤ (x4_1.length : Int)) = true := decide_eq_true c23
                                    clear c23
                                    obtain ⟨y336, hy336⟩ : ∃ y_ : List ByteArray, y_ = (x4_1.take ((ji21) : Int).toNat) := ⟨_, rfl⟩
                                    replace H : (if y333.length + y336.length < 8796093022208 then (gatehouseref13_Split.l0 kj15 (y333 ++ y336) t329 (t329.length : Int) (wrap64 (x15_1 + 1))) else (none)) = some (r1, r2) := by first | (rw [hy336]; with_reducible exact H) | (have H2_ := (Option.bind_some _ _).symm.trans H; rw [hy336]; with_reducible exact H2_) | (have H2_ := (Option.bind_some _ _).symm.trans H; with_reducible exact H2_) | with_reducible exact H | (rw [hy336]; exact H) | exact H
                                    have Ny336 := Aside0.mk hy336
                                    clear hy336
                                    by_cases c24 : y333.length + y336.length < 8796093022208
                                    · rw [if_pos c24] at H
                                      have LMc24 := Aside0.mk c24
                                      clear c24
                                      obtain ⟨y340, hy340⟩ : ∃ y_ : List ByteArray, y_ = (y333 ++ y336) := ⟨_, rfl⟩
                                      replace H : (gatehouseref13_Split.l0 kj15 y340 t329 (t329.length : Int) (wrap64 (x15_1 + 1))) = some (r1, r2) := by first | (rw [hy340]; with_reducible exact H) | (have H2_ := (Option.bind_some _ _).symm.trans H; rw [hy340]; with_reducible exact H2_) | (have H2_ := (Option.bind_some _ _).symm.trans H; with_reducible exact H2_) | with_reducible exact H | (rw [hy340]; exact H) | exact H
                                      have Ny340 := Aside0.mk hy340
                                      clear hy340
                                      have H' := Aside0.mk H
                                      clear H
                                      obtain ⟨Ao25, co25, eo25⟩ := Kd.R_slice HO_4.out
                                      subst eo25
                                      go_wp2_with (first | ((with_reducible refine gate_dst (N := 43) rfl ?_); refine Kd.R_lit Kd.string _ 9 ?hg (N := 43) ?hd (xs := ([] : List ByteArray)) (inner := []) (ok := fun _ => True) (okp := fun _ => True) ?hr ?hp (fun _ hk => hk) trivial (Below.refl _ _) (Nat.le_refl _) (by simp) ?_; (case hd => rfl); (case hg => rfl); (case hr => first | (go_simp; done) | (go_simp; rfl)); (case hp => exact (Reps.none _ _)); intro v334 w26 ho27 hb hg_ hnew_; clear hg_ hnew_; (first | rw [← Ny333.out] at ho27 | (simp only [Int.reduceToNat] at ho27; rw [← Ny333.out] at ho27)); have n0_ := Aside0.mk (Kd.R_elder' (by (with_reducible repeat (first | apply Kd.R_alloc | apply Kd.R_drewN | apply Kd.R_drew)); exact HO_4.out) (Kd.R_base ho27) hb); have n1_ := Aside0.mk (Kd.R_elder' (by (with_reducible repeat (first | apply Kd.R_alloc | apply Kd.R_drewN | apply Kd.R_drew)); exact HO_13.out) (Kd.R_base ho27) hb); have n2_ := Aside0.mk (Kd.R_lower (Kd.R_new' (Kd.R_new' ho27 (Kd.R_lt (by (with_reducible repeat (first | apply Kd.R_alloc | apply Kd.R_drewN | apply Kd.R_drew)); exact HO_4.out))) (Kd.R_lt (by (with_reducible repeat (first | apply Kd.R_alloc | apply Kd.R_drewN | apply Kd.R_drew)); exact HO_13.out))) (below_size (by repeat (first | (with_reducible first | exact HB.out | apply below_alloc | apply pw_below_drewN | apply below_drew1) | exact HB.out)))); have n3_ := Aside0.mk (below_step (by repeat (first | (with_reducible first | exact HB.out | apply below_alloc | apply pw_below_drewN | apply below_drew1) | exact HB.out)) hb); clear HO_4; clear HO_13; clear HB; have HO_4 := n0_; have HO_13 := n1_; have HO335 := n2_; have HB := n3_; clear n0_ n1_ n2_ n3_; clear hb ho27; have q28 : ((ji21) : Int) ≤ ((x4_1.length : Int) : Int) := of_decide_eq_true (by first | (with_reducible assumption) | assumption); obtain ⟨i028, hi028, _, hsz28, _⟩ := info_parts info9; have hroom28 : x4_1.length ≤ co25 := (Kd.R_reads' HO_4.out).2.1; have hC28 : Kd.C Kd.string _ Ao25 x4_1.length x4_1 := (Kd.R_reads' HO_4.out).2.2; have hcut28 := cut_to (P := Tryd.prog) 33 9 .i64 Tryd.underlying33 hi028 Ao25 x4_1.length co25 (ji21) (of_decide_eq_true (by first | (with_reducible assumption) | assumption)) q28 hroom28; have hr28 := Kd.C_take (m := ((ji21) : Int).toNat) hC28 (by omega); have hy28 : y336.length = ((ji21) : Int).toNat := (by rw [Ny336.out, List.length_take]; omega); rw [← Ny336.out] at hr28; rw [← hy28] at hcut28; have HR339 := Aside0.mk hr28; have HC339 := Aside0.mk (show y336.length ≤ co25 from by omega); clear hr28 hC28 hroom28 hi028 hsz28; have KY28 := Aside0.mk hy28; clear hy28; have KL28 := Aside0.mk (show ((ji21) : Int).toNat ≤ x4_1.length from by omega); replace q28 := eq_true q28) | ((with_reducible refine gate_builtin (b := .append) (xs := #[.tmp 43, .tmp 48]) rfl ?_); at_builtin; refine Kd.R_append_rows Kd.string (w0 := w) w.heap.size rfl (.tmp 43) (.tmp 48) 33 9 (.string ⟨#[]⟩) 16 rfl Tryd.underlying33 info9 rfl (by decide) (by omega) v334 y333 y336 _ _ _ (fun k_ => some k_ ≠ (.slice Ao25 x4_1.length co25 : Value).ownBlock ∧ some k_ ≠ (.slice (some ad332) t329.length co7 : Value).ownBlock) (fun _ => False) rfl rfl ?aO ?aR (fun _ _ h => h) (fun _ h => h.elim) ?aF ?aB ?aS ?aL ?_; (case aR => repeat (first | exact (by repeat (first | (with_reducible exact HR339.out) | (with_reducible refine Kd.C_alloc ?_ _) | (with_reducible refine Kd.C_drewN ?_ _) | (with_reducible refine Kd.C_drew ?_) | exact HR339.out)) | (with_reducible refine Kd.C_alloc ?_ _) | (with_reducible refine Kd.C_drewN ?_ _) | (with_reducible refine Kd.C_drew ?_))); (case aB => exact (by repeat (first | (with_reducible first | exact HB.out | apply below_alloc | apply pw_below_drewN | apply below_drew1) | exact HB.out))); (case aF => exact (fun k_ hk => ⟨Kd.fresh' (Kd.R_lt (by (with_reducible repeat (first | apply Kd.R_alloc | apply Kd.R_drewN | apply Kd.R_drew)); exact HO_4.out)) k_ hk, Kd.fresh' (Kd.R_lt (by (with_reducible repeat (first | apply Kd.R_alloc | apply Kd.R_drewN | apply Kd.R_drew)); exact HO_13.out)) k_ hk⟩)); (case aO => exact (by (with_reducible repeat (first | apply Kd.R_alloc | apply Kd.R_drewN | apply Kd.R_drew)); exact Kd.R_mono HO335.out (fun _ hk => ⟨hk.1.2, hk.2⟩))); (case aS => exact (below_size (by repeat (first | (with_reducible first | exact HB.out | apply below_alloc | apply pw_below_drewN | apply below_drew1) | exact HB.out)))); (case aL => have := LMc24.out; omega); intro v341 w29 ho hb hg hat; rw [← Ny340.out] at ho; have n0_ := Aside0.mk (Kd.R_after (ok := (fun k_ => some k_ ≠ (.slice (some ad332) t329.length co7 : Value).ownBlock)) (by (with_reducible repeat (first | apply Kd.R_alloc | apply Kd.R_drewN | apply Kd.R_drew)); exact HO_4.out) hg hat); have n1_ := Aside0.mk (Kd.R_after (ok := (fun k_ => some k_ ≠ (.slice Ao25 x4_1.length co25 : Value).ownBlock)) (by (with_reducible repeat (first | apply Kd.R_alloc | apply Kd.R_drewN | apply Kd.R_drew)); exact HO_13.out) hg hat); have n2_ := Aside0.mk (hb); have n3_ := Aside0.mk ((show Kd.C Kd.string w29 Ao25 y336.length y336 from by rw [Ny336.out]; exact Kd.C_take (m := ((ji21) : Int).toNat) ((Kd.R_reads' (Kd.R_after (ok := (fun k_ => some k_ ≠ (.slice (some ad332) t329.length co7 : Value).ownBlock)) (by (with_reducible repeat (first | apply Kd.R_alloc | apply Kd.R_drewN | apply Kd.R_drew)); exact HO_4.out) hg hat)).2.2) KL28.out)); have n4_ := Aside0.mk (ho); clear HO_4; clear HO_13; clear HB; clear HR339; clear HO335; have HO_4 := n0_; have HO_13 := n1_; have HB := n2_; have HR339 := n3_; have HO342 := n4_; clear n0_ n1_ n2_ n3_ n4_; clear ho hb hg hat))
                                      go_roundg kj15
                                      case measure => have := HK1.out; have := HK2.out; have := HJ15.out; omega
                                      case rel => exact ⟨(y340), (wrap64 (x15_1 + 1)), (by first | rfl | (simp; done) | (simp [*]; done)), H', ⟨by have := HK1.out; have := HK2.out; have := HJ15.out; omega⟩, ⟨by (with_reducible repeat (first | apply Kd.R_alloc | apply Kd.R_drewN | apply Kd.R_drew)); exact Kd.R_mono HO342.out (fun _ hk => hk.2)⟩, ⟨by (with_reducible repeat (first | apply Kd.R_alloc | apply Kd.R_drewN | apply Kd.R_drew)); exact Kd.R_mono HO_13.out (fun _ hk => hk.2)⟩, ⟨by repeat (first | (with_reducible first | exact HB.out | apply below_alloc | apply pw_below_drewN | apply below_drew1) | exact HB.out)⟩⟩
                                    · rw [if_neg c24] at H
                                      exact absurd H (by simp)
                                  · rw [if_neg c23] at H
                                    exact absurd H (by simp)
                                · rw [if_neg c22] at H
                                  exact absurd H (by simp)
                              · rw [if_neg c20] at H
                                have c20b0 : decide (0 < (x4_1.length : Int)) = false := decide_eq_false c20
                                have c20b1 : decide (0 < x4_1.length) = false := decide_eq_false (by omega)
                                clear c20
                                have H' := Aside0.mk H
                                clear H
                                obtain ⟨Ao30, co30, eo30⟩ := Kd.R_slice HO_4.out
                                subst eo30
                                go_wp2
                                go_roundg kj15
                                case measure => have := HK1.out; have := HK2.out; have := HJ15.out; omega
                                case rel => exact ⟨(x4_1), (wrap64 (x15_1 + 1)), (by first | rfl | (simp; done) | (simp [*]; done)), H', ⟨by have := HK1.out; have := HK2.out; have := HJ15.out; omega⟩, ⟨by (with_reducible repeat (first | apply Kd.R_alloc | apply Kd.R_drewN | apply Kd.R_drew)); exact HO_4.out⟩, ⟨by (with_reducible repeat (first | apply Kd.R_alloc | apply Kd.R_drewN | apply Kd.R_drew)); exact HO_13.out⟩, ⟨by repeat (first | (with_reducible first | exact HB.out | apply below_alloc | apply pw_below_drewN | apply below_drew1) | exact HB.out)⟩⟩
                            · rw [if_neg c19] at H
                              have c19b0 : ((rdOf ByteArray.empty t329 x15_1).toList == ([46, 46] : List UInt8)) = false := beq_eq_false_iff_ne.mpr c19
                              have c19b1 : ((rdOf ByteArray.empty t329 x15_1).toList != ([46, 46] : List UInt8)) = true := bne_iff_ne.mpr c19
                              by_cases c31 : x4_1.length < 8796093022208
                              · rw [if_pos c31] at H
                                have LMc31 := Aside0.mk c31
                                clear c31
                                obtain ⟨y343, hy343⟩ : ∃ y_ : List ByteArray, y_ = (x4_1 ++ [(rdOf ByteArray.empty t329 x15_1)]) := ⟨_, rfl⟩
                                replace H : (gatehouseref13_Split.l0 kj15 y343 t329 (t329.length : Int) (wrap64 (x15_1 + 1))) = some (r1, r2) := by first | (rw [hy343]; with_reducible exact H) | (have H2_ := (Option.bind_some _ _).symm.trans H; rw [hy343]; with_reducible exact H2_) | (have H2_ := (Option.bind_some _ _).symm.trans H; with_reducible exact H2_) | with_reducible exact H | (rw [hy343]; exact H) | exact H
                                have Ny343 := Aside0.mk hy343
                                clear hy343
                                have H' := Aside0.mk H
                                clear H
                                go_wp2_with (first | ((with_reducible refine gate_builtin (b := .append) (xs := #[.tmp 50, .tmp 52]) rfl ?_); at_builtin; refine Kd.R_append Kd.string (w0 := w) w.heap.size rfl (.tmp 50) (.tmp 52) 33 9 (.string ⟨#[]⟩) 16 rfl Tryd.underlying33 info9 rfl (by decide) (by omega) u4 x4_1 (rdOf ByteArray.empty t329 x15_1) [.string (rdOf ByteArray.empty t329 x15_1)] (fun k_ => some k_ ≠ (.slice (some ad332) t329.length co7 : Value).ownBlock) (fun _ => False) rfl rfl ?aP (fun _ hk => hk.elim) ?aF ?aO ?aB ?aS ?aL ?_; (case aP => exact rfl); (case aB => exact (by repeat (first | (with_reducible first | exact HB.out | apply below_alloc | apply pw_below_drewN | apply below_drew1) | exact HB.out))); (case aF => exact (fun k_ hk => Kd.fresh' (Kd.R_lt (by (with_reducible repeat (first | apply Kd.R_alloc | apply Kd.R_drewN | apply Kd.R_drew)); exact HO_13.out)) k_ hk)); (case aO => exact (by (with_reducible repeat (first | apply Kd.R_alloc | apply Kd.R_drewN | apply Kd.R_drew)); exact HO_4.out)); (case aS => exact (below_size (by repeat (first | (with_reducible first | exact HB.out | apply below_alloc | apply pw_below_drewN | apply below_drew1) | exact HB.out)))); (case aL => have := LMc31.out; omega); intro v344 w32 ho hb hg hat; rw [← Ny343.out] at ho; have n0_ := Aside0.mk (Kd.R_after (ok := (fun _ => True)) (by (with_reducible repeat (first | apply Kd.R_alloc | apply Kd.R_drewN | apply Kd.R_drew)); exact Kd.R_mono HO_13.out (fun _ hk => ⟨trivial, hk⟩)) hg hat); have n1_ := Aside0.mk (hb); have n2_ := Aside0.mk (ho); clear HO_13; clear HB; clear HO_4; have HO_13 := n0_; have HB := n1_; have HO345 := n2_; clear n0_ n1_ n2_; clear ho hb hg hat))
                                go_roundg kj15
                                case measure => have := HK1.out; have := HK2.out; have := HJ15.out; omega
                                case rel => exact ⟨(y343), (wrap64 (x15_1 + 1)), (by first | rfl | (simp; done) | (simp [*]; done)), H', ⟨by have := HK1.out; have := HK2.out; have := HJ15.out; omega⟩, ⟨by (with_reducible repeat (first | apply Kd.R_alloc | apply Kd.R_drewN | apply Kd.R_drew)); exact HO345.out⟩, ⟨by (with_reducible repeat (first | apply Kd.R_alloc | apply Kd.R_drewN | apply Kd.R_drew)); exact Kd.R_mono HO_13.out (fun _ hk => hk.2)⟩, ⟨by repeat (first | (with_reducible first | exact HB.out | apply below_alloc | apply pw_below_drewN | apply below_drew1) | exact HB.out)⟩⟩
                              · rw [if_neg c31] at H
                                exact absurd H (by simp)
            · rw [if_neg c10] at H
              exact absurd H (by simp)
          · rw [if_neg c9] at H
            exact absurd H (by simp)
        · rw [if_neg c8] at H
          have c8b0 : decide (x15_1 < (t329.length : Int)) = false := decide_eq_false c8
          clear c8
          by_cases c33 : (x4_1.length : Int) > 16
          · rw [if_pos c33] at H
            have c33b0 : decide (16 < (x4_1.length : Int)) = true := decide_eq_true c33
            have c33b1 : decide (16 < x4_1.length) = true := decide_eq_true (by omega)
            clear c33
            simp only [Option.some.injEq, Prod.mk.injEq] at H
            obtain ⟨rfl, rfl⟩ := H
            obtain ⟨Ao34, co34, eo34⟩ := Kd.R_slice HO_4.out
            subst eo34
            go_wp2
            go_ret2
            exact ⟨_, by first | rfl | (simp [errW_none, errW_some] <;> rfl) | (simp [*, errW_none, errW_some] <;> rfl), by first | exact Kd.R_nil _ _ _ _ _ | exact Kd.N_nil _ _ _ _ _ | exact Kd.V_nil _ _ _ _ _ | exact Kd.Q_nil _ _ _ _ _ | exact Kd.S_nil _ _ _ _ _, by repeat (first | (with_reducible first | exact HB.out | apply below_alloc | apply pw_below_drewN | apply below_drew1) | exact HB.out)⟩
          · rw [if_neg c33] at H
            have c33b0 : decide (16 < (x4_1.length : Int)) = false := decide_eq_false c33
            have c33b1 : decide (16 < x4_1.length) = false := decide_eq_false (by omega)
            clear c33
            simp only [Option.some.injEq, Prod.mk.injEq] at H
            obtain ⟨rfl, rfl⟩ := H
            obtain ⟨Ao35, co35, eo35⟩ := Kd.R_slice HO_4.out
            subst eo35
            go_wp2
            go_ret2
            exact ⟨_, by first | rfl | (simp [errW_none, errW_some] <;> rfl) | (simp [*, errW_none, errW_some] <;> rfl), by (with_reducible repeat (first | apply Kd.R_alloc | apply Kd.R_drewN | apply Kd.R_drew)); exact Kd.R_mono HO_4.out (fun _ hk => trivial), by repeat (first | (with_reducible first | exact HB.out | apply below_alloc | apply pw_below_drewN | apply below_drew1) | exact HB.out)⟩

end Go.Proofs.YtijnlgmclaphhaaDoorZ
-- Written by a program of this session (gprint.py, over the kit's printer).
namespace Go.Proofs.YtijnlgmclaphhaaDoorZ
open Go.RowKit Go.Proofs.YtijnlgmclaphhaaDoorW.PrintWords Go.Proofs.YtijnlgmclaphhaaDoorW.PrintLast Go.Proofs.YtijnlgmclaphhaaDoorW.PrintMore
attribute [local go_sem] max2_int min2_int max_two min_two max_three min_three max_four min_four   -- for this text's walks alone
set_option linter.unusedVariables false
set_option linter.unusedSimpArgs false

/-! ### gatehouseref13_Join: function 28 -/
def gatehouseref13_Join.l0 : Nat → ByteArray → List ByteArray → Int → Int → Option (ByteArray)
  | 0, _, _, _, _ => none
  | k + 1, x3, x6, x7, x8 => if x8 < x7 then (if 0 ≤ x8 then (if x8 < (x6.length : Int) then (if x8 > 0 then (if x3.size + 1 ≤ 9223372036854775807 then (if (x3 ++ (⟨#[47]⟩ : ByteArray)).size + (rdOf ByteArray.empty x6 x8).size ≤ 9223372036854775807 then (gatehouseref13_Join.l0 k ((x3 ++ (⟨#[47]⟩ : ByteArray)) ++ (rdOf ByteArray.empty x6 x8)) x6 x7 (wrap64 (x8 + 1))) else (none)) else (none)) else (if x3.size + (rdOf ByteArray.empty x6 x8).size ≤ 9223372036854775807 then (gatehouseref13_Join.l0 k (x3 ++ (rdOf ByteArray.empty x6 x8)) x6 x7 (wrap64 (x8 + 1))) else (none))) else (none)) else (none)) else (some x3)
def gatehouseref13_Join.f (k : Nat) (l0 : List ByteArray) : Option (ByteArray) := gatehouseref13_Join.l0 k (⟨#[47]⟩ : ByteArray) l0 (l0.length : Int) 0
theorem gatehouseref13_Join.mono_l : ∀ k, (∀ y0 y1 y2 y3, LeO (gatehouseref13_Join.l0 k y0 y1 y2 y3) (gatehouseref13_Join.l0 (k + 1) y0 y1 y2 y3))
  | 0 => fun _ _ _ _ r h => by simp [gatehouseref13_Join.l0] at h
  | k + 1 => by
    have ih0 := gatehouseref13_Join.mono_l k
    · intro y0 y1 y2 y3
      unfold gatehouseref13_Join.l0
      repeat' first
      | (with_reducible exact ih0 _ _ _ _)
      | (with_reducible exact LeO.refl _)
      | (with_reducible exact LeO.none _)
      | (with_reducible refine LeO.ite ?_ ?_)
      | (with_reducible refine LeO.bind ?_ (fun _ => ?_))
      | exact ih0 _ _ _ _
      | exact LeO.none _
      | refine LeO.ite ?_ ?_
      | refine LeO.bind ?_ (fun _ => ?_)
theorem gatehouseref13_Join.mono : ∀ a0 k, LeO (gatehouseref13_Join.f k a0) (gatehouseref13_Join.f (k + 1) a0) := by
  intro a0 k
  have ih0 := gatehouseref13_Join.mono_l k
  unfold gatehouseref13_Join.f
  repeat' first
      | (with_reducible exact ih0 _ _ _ _)
      | (with_reducible exact LeO.refl _)
      | (with_reducible exact LeO.none _)
      | (with_reducible refine LeO.ite ?_ ?_)
      | (with_reducible refine LeO.bind ?_ (fun _ => ?_))
      | exact ih0 _ _ _ _
      | exact LeO.none _
      | refine LeO.ite ?_ ?_
      | refine LeO.bind ?_ (fun _ => ?_)
set_option maxHeartbeats 8000000 in
set_option maxRecDepth 100000 in
theorem gatehouseref13_Join.calls (k : Nat) (A0 : Option Addr) (c0 : Nat) (l0 : List ByteArray) (r : ByteArray) (w : World) (hr0 : Kd.C Kd.string w A0 l0.length l0) (hc0 : l0.length ≤ c0) (h : gatehouseref13_Join.f k l0 = some r) :
    Calls Tryd.prog 28 #[.slice A0 l0.length c0] w fun e w' => e = .returned (.string r) ∧ Drawn0 w w' := by
  have HR0 := Aside0.mk hr0
  have HC0 := Aside0.mk hc0
  clear hr0 hc0
  have H : (gatehouseref13_Join.l0 k (⟨#[47]⟩ : ByteArray) l0 (l0.length : Int) 0) = some r := h
  clear h
  have H' := Aside0.mk H
  clear H
  go_enter Tryd.func28, Tryd.ntmps28
  go_wp2
  go_loopg [3, 8] k (fun kq v3 v8 w' => ∃ (x3_1 : ByteArray) (x8_1 : Int), v3 = .string x3_1 ∧ v8 = .int .i64 x8_1 ∧ Aside0 (gatehouseref13_Join.l0 kq x3_1 l0 (l0.length : Int) x8_1 = some r) ∧ Aside0 (kq ≤ k) ∧ Drawn0 w w')
  case atStart => exact ⟨((⟨#[47]⟩ : ByteArray)), (0), (by first | rfl | (simp; done) | (simp [*]; done)), (by first | rfl | (simp; done) | (simp [*]; done)), H', ⟨Nat.le_refl _⟩, by repeat (first | exact Drawn0.refl _ | apply Drawn0.step)⟩
  case round =>
    clear H'
    obtain ⟨x3_1, x8_1, rfl, rfl, HA, HK1, ⟨m1, rfl⟩⟩ := hrel
    cases gk with
    | zero => exact absurd HA.out (by simp [gatehouseref13_Join.l0])
    | succ k1 =>
      have H := HA.out
      clear HA
      simp only [gatehouseref13_Join.l0] at H
      by_cases c2 : x8_1 < (l0.length : Int)
      · rw [if_pos c2] at H
        have c2b0 : decide (x8_1 < (l0.length : Int)) = true := decide_eq_true c2
        clear c2
        by_cases c3 : 0 ≤ x8_1
        · rw [if_pos c3] at H
          have c3b0 : decide (0 ≤ x8_1) = true := decide_eq_true c3
          clear c3
          by_cases c4 : x8_1 < (l0.length : Int)
          · rw [if_pos c4] at H
            have c4b0 : decide (x8_1 < (l0.length : Int)) = true := decide_eq_true c4
            clear c4
            by_cases c5 : x8_1 > 0
            · rw [if_pos c5] at H
              have c5b0 : decide (0 < x8_1) = true := decide_eq_true c5
              clear c5
              by_cases c6 : x3_1.size + 1 ≤ 9223372036854775807
              · rw [if_pos c6] at H
                have c6b0 := eq_true c6
                have c6b1 : decide (x3_1.size + 1 ≤ 9223372036854775807) = true := decide_eq_true c6
                try have c6b2 : (9223372036854775807 < x3_1.size + 1) = False := eq_false (Nat.not_lt.2 c6)
                by_cases c7 : (x3_1 ++ (⟨#[47]⟩ : ByteArray)).size + (rdOf ByteArray.empty l0 x8_1).size ≤ 9223372036854775807
                · rw [if_pos c7] at H
                  have c7b0 := eq_true c7
                  have c7b1 : decide ((x3_1 ++ (⟨#[47]⟩ : ByteArray)).size + (rdOf ByteArray.empty l0 x8_1).size ≤ 9223372036854775807) = true := decide_eq_true c7
                  try have c7b2 : (9223372036854775807 < (x3_1 ++ (⟨#[47]⟩ : ByteArray)).size + (rdOf ByteArray.empty l0 x8_1).size) = False := eq_false (Nat.not_lt.2 c7)
                  have H' := Aside0.mk H
                  clear H
                  have p347 : 0 ≤ (x8_1 : Int) := of_decide_eq_true (by first | (with_reducible assumption) | assumption)
                  have q347 : x8_1 < (l0.length : Int) := of_decide_eq_true (by first | (with_reducible assumption) | assumption)
                  obtain ⟨ad347, e347, hx347_0⟩ := Kd.at_string HR0.out x8_1 p347 q347
                  cases e347
                  replace p347 := eq_true p347
                  replace q347 := eq_true q347
                  go_wp2
                  go_roundg k1
                  case measure => have := HK1.out; omega
                  case rel => exact ⟨((x3_1 ++ (⟨#[47]⟩ : ByteArray)) ++ (rdOf ByteArray.empty l0 x8_1)), (wrap64 (x8_1 + 1)), (by first | rfl | (simp; done) | (simp [*]; done)), (by first | rfl | (simp; done) | (simp [*]; done)), H', ⟨by have := HK1.out; omega⟩, by repeat (first | exact Drawn0.refl _ | apply Drawn0.step)⟩
                · rw [if_neg c7] at H
                  exact absurd H (by simp)
              · rw [if_neg c6] at H
                exact absurd H (by simp)
            · rw [if_neg c5] at H
              have c5b0 : decide (0 < x8_1) = false := decide_eq_false c5
              clear c5
              by_cases c8 : x3_1.size + (rdOf ByteArray.empty l0 x8_1).size ≤ 9223372036854775807
              · rw [if_pos c8] at H
                have c8b0 := eq_true c8
                have c8b1 : decide (x3_1.size + (rdOf ByteArray.empty l0 x8_1).size ≤ 9223372036854775807) = true := decide_eq_true c8
                try have c8b2 : (9223372036854775807 < x3_1.size + (rdOf ByteArray.empty l0 x8_1).size) = False := eq_false (Nat.not_lt.2 c8)
                have H' := Aside0.mk H
                clear H
                have p347 : 0 ≤ (x8_1 : Int) := of_decide_eq_true (by first | (with_reducible assumption) | assumption)
                have q347 : x8_1 < (l0.length : Int) := of_decide_eq_true (by first | (with_reducible assumption) | assumption)
                obtain ⟨ad347, e347, hx347_0⟩ := Kd.at_string HR0.out x8_1 p347 q347
                cases e347
                replace p347 := eq_true p347
                replace q347 := eq_true q347
                go_wp2
                go_roundg k1
                case measure => have := HK1.out; omega
                case rel => exact ⟨(x3_1 ++ (rdOf ByteArray.empty l0 x8_1)), (wrap64 (x8_1 + 1)), (by first | rfl | (simp; done) | (simp [*]; done)), (by first | rfl | (simp; done) | (simp [*]; done)), H', ⟨by have := HK1.out; omega⟩, by repeat (first | exact Drawn0.refl _ | apply Drawn0.step)⟩
              · rw [if_neg c8] at H
                exact absurd H (by simp)
          · rw [if_neg c4] at H
            exact absurd H (by simp)
        · rw [if_neg c3] at H
          exact absurd H (by simp)
      · rw [if_neg c2] at H
        have c2b0 : decide (x8_1 < (l0.length : Int)) = false := decide_eq_false c2
        clear c2
        obtain rfl := Option.some.inj H
        go_wp2
        go_ret
        exact ⟨by first | rfl | (simp; done) | (simp [*]; done), by repeat (first | exact Drawn0.refl _ | apply Drawn0.step)⟩

end Go.Proofs.YtijnlgmclaphhaaDoorZ
-- Written by a program of this session (gprint.py, over the kit's printer).
namespace Go.Proofs.YtijnlgmclaphhaaDoorZ
open Go.RowKit Go.Proofs.YtijnlgmclaphhaaDoorW.PrintWords Go.Proofs.YtijnlgmclaphhaaDoorW.PrintLast Go.Proofs.YtijnlgmclaphhaaDoorW.PrintMore
attribute [local go_sem] max2_int min2_int max_two min_two max_three min_three max_four min_four   -- for this text's walks alone
set_option linter.unusedVariables false
set_option linter.unusedSimpArgs false

/-! ### gatehouselaw13_DirPaths: function 7 -/
def gatehouselaw13_DirPaths.f (k : Nat) (a0 : ByteArray) (l1 : List ByteArray) : Option (Bool) := (gatehouselaw13_lives.f k).bind fun t348 => (if t348 = true then ((dir_Split.f a0).bind fun bt349 => ((gatehouseref13_Split.f k a0).bind fun bt353 => (if bt349.2 = bt353.2 then ((gatehouseref13_SameTexts.f k bt349.1 bt353.1).bind fun t357 => (if t357 = true then ((dir_Join.f l1).bind fun t358 => ((gatehouseref13_Join.f k l1).bind fun t359 => (some (t358.toList == t359.toList)))) else (some false))) else (some false)))) else (some false))
theorem gatehouselaw13_DirPaths.mono : ∀ a0 a1 k, LeO (gatehouselaw13_DirPaths.f k a0 a1) (gatehouselaw13_DirPaths.f (k + 1) a0 a1) := by
  intro a0 a1 k
  unfold gatehouselaw13_DirPaths.f
  repeat' first
      | (with_reducible exact gatehouselaw13_lives.mono _)
      | (with_reducible exact gatehouseref13_Join.mono _ _)
      | (with_reducible exact gatehouseref13_SameTexts.mono _ _ _)
      | (with_reducible exact gatehouseref13_Split.mono _ _)
      | (with_reducible exact LeO.refl _)
      | (with_reducible exact LeO.none _)
      | (with_reducible refine LeO.ite ?_ ?_)
      | (with_reducible refine LeO.bind ?_ (fun _ => ?_))
      | exact gatehouselaw13_lives.mono _
      | exact gatehouseref13_Join.mono _ _
      | exact gatehouseref13_SameTexts.mono _ _ _
      | exact gatehouseref13_Split.mono _ _
      | exact LeO.none _
      | refine LeO.ite ?_ ?_
      | refine LeO.bind ?_ (fun _ => ?_)
set_option maxHeartbeats 8000000 in
set_option maxRecDepth 100000 in
theorem gatehouselaw13_DirPaths.calls (k : Nat) (a0 : ByteArray) (A1 : Option Addr) (c1 : Nat) (l1 : List ByteArray) (r : Bool) (w : World) (hr1 : Kd.C Kd.string w A1 l1.length l1) (hc1 : l1.length ≤ c1) (h : gatehouselaw13_DirPaths.f k a0 l1 = some r) :
    Calls Tryd.prog 7 #[.string a0, .slice A1 l1.length c1] w fun e w' => e = .returned (.bool r) ∧ Below w.heap.size w w' := by
  have HR1 := Aside0.mk hr1
  have HC1 := Aside0.mk hc1
  clear hr1 hc1
  have HB := Aside0.mk (Below.refl w.heap.size w)
  have H : ((gatehouselaw13_lives.f k).bind fun t348 => (if t348 = true then ((dir_Split.f a0).bind fun bt349 => ((gatehouseref13_Split.f k a0).bind fun bt353 => (if bt349.2 = bt353.2 then ((gatehouseref13_SameTexts.f k bt349.1 bt353.1).bind fun t357 => (if t357 = true then ((dir_Join.f l1).bind fun t358 => ((gatehouseref13_Join.f k l1).bind fun t359 => (some (t358.toList == t359.toList)))) else (some false))) else (some false)))) else (some false))) = some r := h
  clear h
  replace H := Option.bind_eq_some_iff.mp H
  obtain ⟨t348, A30, H⟩ := H
  replace H : (if t348 = true then ((dir_Split.f a0).bind fun bt349 => ((gatehouseref13_Split.f k a0).bind fun bt353 => (if bt349.2 = bt353.2 then ((gatehouseref13_SameTexts.f k bt349.1 bt353.1).bind fun t357 => (if t357 = true then ((dir_Join.f l1).bind fun t358 => ((gatehouseref13_Join.f k l1).bind fun t359 => (some (t358.toList == t359.toList)))) else (some false))) else (some false)))) else (some false)) = some r := H
  have A3 := Aside0.mk A30
  clear A30
  by_cases c4 : t348 = true
  · subst c4
    have H1 : ((dir_Split.f a0).bind fun bt349 => ((gatehouseref13_Split.f k a0).bind fun bt353 => (if bt349.2 = bt353.2 then ((gatehouseref13_SameTexts.f k bt349.1 bt353.1).bind fun t357 => (if t357 = true then ((dir_Join.f l1).bind fun t358 => ((gatehouseref13_Join.f k l1).bind fun t359 => (some (t358.toList == t359.toList)))) else (some false))) else (some false)))) = some r := by rw [if_pos rfl] at H; exact H
    clear H
    have H := H1
    clear H1
    replace H := Option.bind_eq_some_iff.mp H
    obtain ⟨⟨t349, t350⟩, A50, H⟩ := H
    replace H : ((gatehouseref13_Split.f k a0).bind fun bt353 => (if t350 = bt353.2 then ((gatehouseref13_SameTexts.f k t349 bt353.1).bind fun t357 => (if t357 = true then ((dir_Join.f l1).bind fun t358 => ((gatehouseref13_Join.f k l1).bind fun t359 => (some (t358.toList == t359.toList)))) else (some false))) else (some false))) = some r := H
    have A5 := Aside0.mk A50
    clear A50
    replace H := Option.bind_eq_some_iff.mp H
    obtain ⟨⟨t353, t354⟩, A60, H⟩ := H
    replace H : (if t350 = t354 then ((gatehouseref13_SameTexts.f k t349 t353).bind fun t357 => (if t357 = true then ((dir_Join.f l1).bind fun t358 => ((gatehouseref13_Join.f k l1).bind fun t359 => (some (t358.toList == t359.toList)))) else (some false))) else (some false)) = some r := H
    have A6 := Aside0.mk A60
    clear A60
    by_cases c7 : t350 = t354
    · rw [if_pos c7] at H
      have c7b0 : (t350 == t354) = true := beq_iff_eq.mpr c7
      have c7b1 : (t350 != t354) = false := bne_eq_false_iff_eq.mpr c7
      clear c7
      replace H := Option.bind_eq_some_iff.mp H
      obtain ⟨t357, A80, H⟩ := H
      replace H : (if t357 = true then ((dir_Join.f l1).bind fun t358 => ((gatehouseref13_Join.f k l1).bind fun t359 => (some (t358.toList == t359.toList)))) else (some false)) = some r := H
      have A8 := Aside0.mk A80
      clear A80
      by_cases c9 : t357 = true
      · subst c9
        have H1 : ((dir_Join.f l1).bind fun t358 => ((gatehouseref13_Join.f k l1).bind fun t359 => (some (t358.toList == t359.toList)))) = some r := by rw [if_pos rfl] at H; exact H
        clear H
        have H := H1
        clear H1
        replace H := Option.bind_eq_some_iff.mp H
        obtain ⟨t358, A100, H⟩ := H
        replace H : ((gatehouseref13_Join.f k l1).bind fun t359 => (some (t358.toList == t359.toList))) = some r := H
        have A10 := Aside0.mk A100
        clear A100
        replace H := Option.bind_eq_some_iff.mp H
        obtain ⟨t359, A110, H⟩ := H
        replace H : (some (t358.toList == t359.toList)) = some r := H
        have A11 := Aside0.mk A110
        clear A110
        obtain rfl := Option.some.inj H
        go_enter Tryd.func7, Tryd.ntmps7
        go_wp2_with (first | ((with_reducible refine gate_callee (f := 10) rfl ?_); refine goesL_ (some 9) rfl rfl Tryd.func10 (by kernel_rfl) rfl #[] rfl (by (try simp only [List.map_toArray, List.map_cons, List.map_nil]); first | done | rfl | (simp only [List.length_drop, List.length_take]; rfl)) ?_; (with_reducible refine (gatehouselaw13_lives.calls k  true _ A3.out).mono ?_); rintro e w12 ⟨rfl, hb⟩; refine ⟨_, rfl, ?_⟩; have n0_ := Aside0.mk (below_step (by repeat (first | (with_reducible first | exact HB.out | apply below_alloc | apply pw_below_drewN | apply below_drew1) | exact HB.out)) hb); clear HB; have HB := n0_; clear n0_; (try clear hb); (try clear hb2); (try clear hk); (try clear hi)) | ((with_reducible refine gate_callee (f := 24) rfl ?_); refine goesL_ (some 13) rfl rfl Tryd.func24 (by kernel_rfl) rfl #[.string a0] rfl (by (try simp only [List.map_toArray, List.map_cons, List.map_nil]); first | done | rfl | (simp only [List.length_drop, List.length_take]; rfl)) ?_; (with_reducible refine (dir_Split.calls a0 t349 t350 _ A5.out).mono ?_); rintro e w13 ⟨v351, rfl, ho0, hb⟩; refine ⟨_, rfl, ?_⟩; have n0_ := Aside0.mk (Kd.R_lower ho0 (below_size (by repeat (first | (with_reducible first | exact HB.out | apply below_alloc | apply pw_below_drewN | apply below_drew1) | exact HB.out)))); have n1_ := Aside0.mk (below_step (by repeat (first | (with_reducible first | exact HB.out | apply below_alloc | apply pw_below_drewN | apply below_drew1) | exact HB.out)) hb); clear HB; have HO352 := n0_; have HB := n1_; clear n0_ n1_; (try clear hb); (try clear hb2); (try clear hk); (try clear hi); (try clear ho0)) | ((with_reducible refine gate_callee (f := 25) rfl ?_); refine goesL_ (some 18) rfl rfl Tryd.func25 (by kernel_rfl) rfl #[.string a0] rfl (by (try simp only [List.map_toArray, List.map_cons, List.map_nil]); first | done | rfl | (simp only [List.length_drop, List.length_take]; rfl)) ?_; (with_reducible refine (gatehouseref13_Split.calls k a0 t353 t354 _ A6.out).mono ?_); rintro e w14 ⟨v355, rfl, ho0, hb⟩; refine ⟨_, rfl, ?_⟩; have n0_ := Aside0.mk (Kd.R_elder' (by (with_reducible repeat (first | apply Kd.R_alloc | apply Kd.R_drewN | apply Kd.R_drew)); exact HO352.out) (Kd.R_base ho0) hb); have n1_ := Aside0.mk (Kd.R_lower (Kd.R_new' ho0 (Kd.R_lt (by (with_reducible repeat (first | apply Kd.R_alloc | apply Kd.R_drewN | apply Kd.R_drew)); exact HO352.out))) (below_size (by repeat (first | (with_reducible first | exact HB.out | apply below_alloc | apply pw_below_drewN | apply below_drew1) | exact HB.out)))); have n2_ := Aside0.mk (below_step (by repeat (first | (with_reducible first | exact HB.out | apply below_alloc | apply pw_below_drewN | apply below_drew1) | exact HB.out)) hb); clear HO352; clear HB; have HO352 := n0_; have HO356 := n1_; have HB := n2_; clear n0_ n1_ n2_; (try clear hb); (try clear hb2); (try clear hk); (try clear hi); (try clear ho0); obtain ⟨Ao15, co15, eo15⟩ := Kd.R_slice HO352.out; subst eo15; obtain ⟨Ao16, co16, eo16⟩ := Kd.R_slice HO356.out; subst eo16) | (go_at_call 26; (with_reducible refine (gatehouseref13_SameTexts.calls k _ _ t349 _ _ t353 true _ ?side1 ?side2 ?side3 ?side4 A8.out).mono ?_); (case side1 => repeat (first | exact (Kd.R_reads' HO352.out).2.2 | (with_reducible refine Kd.C_alloc ?_ _) | (with_reducible refine Kd.C_drewN ?_ _) | (with_reducible refine Kd.C_drew ?_))); (case side2 => exact (Kd.R_reads' HO352.out).2.1); (case side3 => repeat (first | exact (Kd.R_reads' HO356.out).2.2 | (with_reducible refine Kd.C_alloc ?_ _) | (with_reducible refine Kd.C_drewN ?_ _) | (with_reducible refine Kd.C_drew ?_))); (case side4 => exact (Kd.R_reads' HO356.out).2.1); rintro e w' ⟨rfl, ⟨nd, rfl⟩⟩) | (go_at_call 27; (with_reducible refine (dir_Join.calls _ _ l1 t358 _ ?side1 ?side2 A10.out).mono ?_); (case side1 => repeat (first | exact (Kd.C_below HR1.out (by repeat (first | (with_reducible first | exact HB.out | apply below_alloc | apply pw_below_drewN | apply below_drew1) | exact HB.out))) | (with_reducible refine Kd.C_alloc ?_ _) | (with_reducible refine Kd.C_drewN ?_ _) | (with_reducible refine Kd.C_drew ?_))); (case side2 => exact HC1.out); rintro e w17 ⟨rfl, hb⟩; have n0_ := Aside0.mk (Kd.R_below (by (with_reducible repeat (first | apply Kd.R_alloc | apply Kd.R_drewN | apply Kd.R_drew)); exact HO352.out) hb); have n1_ := Aside0.mk (Kd.R_below (by (with_reducible repeat (first | apply Kd.R_alloc | apply Kd.R_drewN | apply Kd.R_drew)); exact HO356.out) hb); have n2_ := Aside0.mk (below_step (by repeat (first | (with_reducible first | exact HB.out | apply below_alloc | apply pw_below_drewN | apply below_drew1) | exact HB.out)) hb); clear HO352; clear HO356; clear HB; have HO352 := n0_; have HO356 := n1_; have HB := n2_; clear n0_ n1_ n2_; (try clear hb); (try clear hb2); (try clear hk); (try clear hi)) | (go_at_call 28; (with_reducible refine (gatehouseref13_Join.calls k _ _ l1 t359 _ ?side1 ?side2 A11.out).mono ?_); (case side1 => repeat (first | exact (Kd.C_below HR1.out HB.out) | (with_reducible refine Kd.C_alloc ?_ _) | (with_reducible refine Kd.C_drewN ?_ _) | (with_reducible refine Kd.C_drew ?_))); (case side2 => exact HC1.out); rintro e w' ⟨rfl, ⟨nd, rfl⟩⟩))
        go_ret
        exact ⟨by first | rfl | (simp [errW_none, errW_some] <;> rfl) | (simp [*, errW_none, errW_some] <;> rfl), by repeat (first | (with_reducible first | exact HB.out | apply below_alloc | apply pw_below_drewN | apply below_drew1) | exact HB.out)⟩
      · replace c9 := Bool.eq_false_iff.mpr c9
        subst c9
        have H1 : (some false) = some r := by rw [if_neg (show ¬ (false = true) by decide)] at H; exact H
        clear H
        have H := H1
        clear H1
        obtain rfl := Option.some.inj H
        go_enter Tryd.func7, Tryd.ntmps7
        go_wp2_with (first | ((with_reducible refine gate_callee (f := 10) rfl ?_); refine goesL_ (some 9) rfl rfl Tryd.func10 (by kernel_rfl) rfl #[] rfl (by (try simp only [List.map_toArray, List.map_cons, List.map_nil]); first | done | rfl | (simp only [List.length_drop, List.length_take]; rfl)) ?_; (with_reducible refine (gatehouselaw13_lives.calls k  true _ A3.out).mono ?_); rintro e w18 ⟨rfl, hb⟩; refine ⟨_, rfl, ?_⟩; have n0_ := Aside0.mk (below_step (by repeat (first | (with_reducible first | exact HB.out | apply below_alloc | apply pw_below_drewN | apply below_drew1) | exact HB.out)) hb); clear HB; have HB := n0_; clear n0_; (try clear hb); (try clear hb2); (try clear hk); (try clear hi)) | ((with_reducible refine gate_callee (f := 24) rfl ?_); refine goesL_ (some 13) rfl rfl Tryd.func24 (by kernel_rfl) rfl #[.string a0] rfl (by (try simp only [List.map_toArray, List.map_cons, List.map_nil]); first | done | rfl | (simp only [List.length_drop, List.length_take]; rfl)) ?_; (with_reducible refine (dir_Split.calls a0 t349 t350 _ A5.out).mono ?_); rintro e w19 ⟨v351, rfl, ho0, hb⟩; refine ⟨_, rfl, ?_⟩; have n0_ := Aside0.mk (Kd.R_lower ho0 (below_size (by repeat (first | (with_reducible first | exact HB.out | apply below_alloc | apply pw_below_drewN | apply below_drew1) | exact HB.out)))); have n1_ := Aside0.mk (below_step (by repeat (first | (with_reducible first | exact HB.out | apply below_alloc | apply pw_below_drewN | apply below_drew1) | exact HB.out)) hb); clear HB; have HO352 := n0_; have HB := n1_; clear n0_ n1_; (try clear hb); (try clear hb2); (try clear hk); (try clear hi); (try clear ho0)) | ((with_reducible refine gate_callee (f := 25) rfl ?_); refine goesL_ (some 18) rfl rfl Tryd.func25 (by kernel_rfl) rfl #[.string a0] rfl (by (try simp only [List.map_toArray, List.map_cons, List.map_nil]); first | done | rfl | (simp only [List.length_drop, List.length_take]; rfl)) ?_; (with_reducible refine (gatehouseref13_Split.calls k a0 t353 t354 _ A6.out).mono ?_); rintro e w20 ⟨v355, rfl, ho0, hb⟩; refine ⟨_, rfl, ?_⟩; have n0_ := Aside0.mk (Kd.R_elder' (by (with_reducible repeat (first | apply Kd.R_alloc | apply Kd.R_drewN | apply Kd.R_drew)); exact HO352.out) (Kd.R_base ho0) hb); have n1_ := Aside0.mk (Kd.R_lower (Kd.R_new' ho0 (Kd.R_lt (by (with_reducible repeat (first | apply Kd.R_alloc | apply Kd.R_drewN | apply Kd.R_drew)); exact HO352.out))) (below_size (by repeat (first | (with_reducible first | exact HB.out | apply below_alloc | apply pw_below_drewN | apply below_drew1) | exact HB.out)))); have n2_ := Aside0.mk (below_step (by repeat (first | (with_reducible first | exact HB.out | apply below_alloc | apply pw_below_drewN | apply below_drew1) | exact HB.out)) hb); clear HO352; clear HB; have HO352 := n0_; have HO356 := n1_; have HB := n2_; clear n0_ n1_ n2_; (try clear hb); (try clear hb2); (try clear hk); (try clear hi); (try clear ho0); obtain ⟨Ao21, co21, eo21⟩ := Kd.R_slice HO352.out; subst eo21; obtain ⟨Ao22, co22, eo22⟩ := Kd.R_slice HO356.out; subst eo22) | (go_at_call 26; (with_reducible refine (gatehouseref13_SameTexts.calls k _ _ t349 _ _ t353 false _ ?side1 ?side2 ?side3 ?side4 A8.out).mono ?_); (case side1 => repeat (first | exact (Kd.R_reads' HO352.out).2.2 | (with_reducible refine Kd.C_alloc ?_ _) | (with_reducible refine Kd.C_drewN ?_ _) | (with_reducible refine Kd.C_drew ?_))); (case side2 => exact (Kd.R_reads' HO352.out).2.1); (case side3 => repeat (first | exact (Kd.R_reads' HO356.out).2.2 | (with_reducible refine Kd.C_alloc ?_ _) | (with_reducible refine Kd.C_drewN ?_ _) | (with_reducible refine Kd.C_drew ?_))); (case side4 => exact (Kd.R_reads' HO356.out).2.1); rintro e w' ⟨rfl, ⟨nd, rfl⟩⟩))
        go_ret
        exact ⟨by first | rfl | (simp [errW_none, errW_some] <;> rfl) | (simp [*, errW_none, errW_some] <;> rfl), by repeat (first | (with_reducible first | exact HB.out | apply below_alloc | apply pw_below_drewN | apply below_drew1) | exact HB.out)⟩
    · rw [if_neg c7] at H
      have c7b0 : (t350 == t354) = false := beq_eq_false_iff_ne.mpr c7
      have c7b1 : (t350 != t354) = true := bne_iff_ne.mpr c7
      obtain rfl := Option.some.inj H
      go_enter Tryd.func7, Tryd.ntmps7
      go_wp2_with (first | ((with_reducible refine gate_callee (f := 10) rfl ?_); refine goesL_ (some 9) rfl rfl Tryd.func10 (by kernel_rfl) rfl #[] rfl (by (try simp only [List.map_toArray, List.map_cons, List.map_nil]); first | done | rfl | (simp only [List.length_drop, List.length_take]; rfl)) ?_; (with_reducible refine (gatehouselaw13_lives.calls k  true _ A3.out).mono ?_); rintro e w23 ⟨rfl, hb⟩; refine ⟨_, rfl, ?_⟩; have n0_ := Aside0.mk (below_step (by repeat (first | (with_reducible first | exact HB.out | apply below_alloc | apply pw_below_drewN | apply below_drew1) | exact HB.out)) hb); clear HB; have HB := n0_; clear n0_; (try clear hb); (try clear hb2); (try clear hk); (try clear hi)) | ((with_reducible refine gate_callee (f := 24) rfl ?_); refine goesL_ (some 13) rfl rfl Tryd.func24 (by kernel_rfl) rfl #[.string a0] rfl (by (try simp only [List.map_toArray, List.map_cons, List.map_nil]); first | done | rfl | (simp only [List.length_drop, List.length_take]; rfl)) ?_; (with_reducible refine (dir_Split.calls a0 t349 t350 _ A5.out).mono ?_); rintro e w24 ⟨v351, rfl, ho0, hb⟩; refine ⟨_, rfl, ?_⟩; have n0_ := Aside0.mk (Kd.R_lower ho0 (below_size (by repeat (first | (with_reducible first | exact HB.out | apply below_alloc | apply pw_below_drewN | apply below_drew1) | exact HB.out)))); have n1_ := Aside0.mk (below_step (by repeat (first | (with_reducible first | exact HB.out | apply below_alloc | apply pw_below_drewN | apply below_drew1) | exact HB.out)) hb); clear HB; have HO352 := n0_; have HB := n1_; clear n0_ n1_; (try clear hb); (try clear hb2); (try clear hk); (try clear hi); (try clear ho0)) | ((with_reducible refine gate_callee (f := 25) rfl ?_); refine goesL_ (some 18) rfl rfl Tryd.func25 (by kernel_rfl) rfl #[.string a0] rfl (by (try simp only [List.map_toArray, List.map_cons, List.map_nil]); first | done | rfl | (simp only [List.length_drop, List.length_take]; rfl)) ?_; (with_reducible refine (gatehouseref13_Split.calls k a0 t353 t354 _ A6.out).mono ?_); rintro e w25 ⟨v355, rfl, ho0, hb⟩; refine ⟨_, rfl, ?_⟩; have n0_ := Aside0.mk (Kd.R_elder' (by (with_reducible repeat (first | apply Kd.R_alloc | apply Kd.R_drewN | apply Kd.R_drew)); exact HO352.out) (Kd.R_base ho0) hb); have n1_ := Aside0.mk (Kd.R_lower (Kd.R_new' ho0 (Kd.R_lt (by (with_reducible repeat (first | apply Kd.R_alloc | apply Kd.R_drewN | apply Kd.R_drew)); exact HO352.out))) (below_size (by repeat (first | (with_reducible first | exact HB.out | apply below_alloc | apply pw_below_drewN | apply below_drew1) | exact HB.out)))); have n2_ := Aside0.mk (below_step (by repeat (first | (with_reducible first | exact HB.out | apply below_alloc | apply pw_below_drewN | apply below_drew1) | exact HB.out)) hb); clear HO352; clear HB; have HO352 := n0_; have HO356 := n1_; have HB := n2_; clear n0_ n1_ n2_; (try clear hb); (try clear hb2); (try clear hk); (try clear hi); (try clear ho0)))
      go_ret
      exact ⟨by first | rfl | (simp [errW_none, errW_some] <;> rfl) | (simp [*, errW_none, errW_some] <;> rfl), by repeat (first | (with_reducible first | exact HB.out | apply below_alloc | apply pw_below_drewN | apply below_drew1) | exact HB.out)⟩
  · replace c4 := Bool.eq_false_iff.mpr c4
    subst c4
    have H1 : (some false) = some r := by rw [if_neg (show ¬ (false = true) by decide)] at H; exact H
    clear H
    have H := H1
    clear H1
    obtain rfl := Option.some.inj H
    go_enter Tryd.func7, Tryd.ntmps7
    go_wp2_with (first | ((with_reducible refine gate_callee (f := 10) rfl ?_); refine goesL_ (some 9) rfl rfl Tryd.func10 (by kernel_rfl) rfl #[] rfl (by (try simp only [List.map_toArray, List.map_cons, List.map_nil]); first | done | rfl | (simp only [List.length_drop, List.length_take]; rfl)) ?_; (with_reducible refine (gatehouselaw13_lives.calls k  false _ A3.out).mono ?_); rintro e w26 ⟨rfl, hb⟩; refine ⟨_, rfl, ?_⟩; have n0_ := Aside0.mk (below_step (by repeat (first | (with_reducible first | exact HB.out | apply below_alloc | apply pw_below_drewN | apply below_drew1) | exact HB.out)) hb); clear HB; have HB := n0_; clear n0_; (try clear hb); (try clear hb2); (try clear hk); (try clear hi)))
    go_ret
    exact ⟨by first | rfl | (simp [errW_none, errW_some] <;> rfl) | (simp [*, errW_none, errW_some] <;> rfl), by repeat (first | (with_reducible first | exact HB.out | apply below_alloc | apply pw_below_drewN | apply below_drew1) | exact HB.out)⟩

end Go.Proofs.YtijnlgmclaphhaaDoorZ
namespace Go.Proofs.YtijnlgmclaphhaaDoor
open Go Go.RowKit Go.Proofs.YtijnlgmclaphhaaDoorZ Go.Proofs.YtijnlgmclaphhaaDoorW.PrintWords

def glue (w : List UInt8) : List (List UInt8) → List (List UInt8)
  | [] => [w]
  | p :: ps => (w ++ p) :: ps
theorem glue_eq (w l : List UInt8) : glue w (cutAt 47 (47 :: l)) = w :: cutAt 47 l := by rw [cut_eq]; simp [glue]
theorem glue_ne (w l : List UInt8) (c : UInt8) (h : ¬ c = 47) : glue w (cutAt 47 (c :: l)) = glue (w ++ [c]) (cutAt 47 l) := by
  obtain ⟨p, ps, e⟩ := cut_some 47 l
  rw [cut_ne h e, e]; simp [glue]
theorem glue_nil (l : List UInt8) : glue [] (cutAt 47 l) = cutAt 47 l := by
  obtain ⟨p, ps, e⟩ := cut_some 47 l
  rw [e]; rfl
theorem bt_list (s : ByteArray) (i : Nat) (h : i < s.data.toList.length) : bt s (i : Int) = ((s.data.toList[i]).toNat : Int) := by
  have e : s.size = s.data.toList.length := size_data s
  unfold bt
  rw [Int.toNat_natCast, dif_pos (by omega)]
  rfl
theorem one_str (c : UInt8) : strOfNums [((c.toNat : Nat) : Int)] = mkB [c] := by
  unfold strOfNums mkB
  simp
theorem words_loop (s : ByteArray) (hs : s.size ≤ 1000000) (n : Nat) : ∀ (k i : Nat) (x5 : List ByteArray) (x6 : ByteArray), s.size - i = n → i ≤ s.size → n < k → x5.length ≤ i → x6.size ≤ i →
    cutAt 47 s.data.toList = x5.map (·.data.toList) ++ glue x6.data.toList (cutAt 47 (s.data.toList.drop i)) → gatehouseref02_Words.l0 k s 47 x5 x6 (i : Int) = some (pieces s) := by
  have hd := size_data s
  induction n with
  | zero =>
    intro k i x5 x6 h hi hk h5 h6 he
    obtain ⟨k, rfl⟩ : ∃ q, k = q + 1 := ⟨k - 1, by omega⟩
    simp only [gatehouseref02_Words.l0]
    rw [if_neg (by omega), if_pos (by omega)]
    rw [List.drop_of_length_le (by omega)] at he
    have e2 : glue x6.data.toList (cutAt 47 []) = [x6.data.toList] := by simp [cutAt, glue]
    rw [e2] at he
    rw [pieces_eq, he, List.map_append, List.map_map]
    have e3 : x5.map (mkB ∘ fun n => n.data.toList) = x5 := (List.map_congr_left (g := id) fun n _ => mkB_data n).trans (List.map_id _)
    rw [e3, List.map_cons, List.map_nil, mkB_data]
  | succ n ih =>
    intro k i x5 x6 h hi hk h5 h6 he
    obtain ⟨k, rfl⟩ : ∃ q, k = q + 1 := ⟨k - 1, by omega⟩
    have hlt : i < s.data.toList.length := by omega
    simp only [gatehouseref02_Words.l0]
    rw [if_pos (by omega), if_pos (by omega), bt_list s i hlt, w64 (x := (i : Int) + 1) (by omega) (by omega)]
    rw [List.drop_eq_getElem_cons hlt] at he
    by_cases hc : s.data.toList[i] = 47
    · rw [if_pos (by rw [hc]; rfl), if_pos (by omega)]
      refine ih k (i + 1) _ _ (by omega) (by omega) (by omega) (by simp; omega) (by show 0 ≤ _; omega) ?_
      rw [hc, glue_eq] at he
      have : (⟨#[]⟩ : ByteArray).data.toList = [] := rfl
      rw [he, List.map_append, this, glue_nil]; simp
    · have hne : ¬ (((s.data.toList[i]).toNat : Int) = 47) := fun e => hc (by
        apply UInt8.toNat_inj.1
        have : (47 : UInt8).toNat = 47 := rfl
        rw [this]; omega)
      have h1 : (strOfNums [(((s.data.toList[i]).toNat : Nat) : Int)]).size = 1 := by rw [one_str, mkB_size]; rfl
      rw [if_neg hne, Option.bind_some, if_pos (by rw [h1]; omega), one_str]
      refine ih k (i + 1) _ _ (by omega) (by omega) (by omega) (by omega) (by rw [size_data, app_data, List.length_append, ← size_data, data_mkB]; simp; omega) ?_
      rw [glue_ne _ _ _ hc] at he
      rw [he, app_data, data_mkB]
theorem words_f (s : ByteArray) (hs : s.size ≤ 1000000) (k : Nat) (hk : s.size < k) : gatehouseref02_Words.f k s 47 = some (pieces s) := by
  unfold gatehouseref02_Words.f
  refine words_loop s hs s.size k 0 [] ⟨#[]⟩ (by omega) (by omega) hk (by simp) (by decide) ?_
  have : (⟨#[]⟩ : ByteArray).data.toList = [] := rfl
  rw [this, glue_nil]; rfl

def splitR (ps out : List ByteArray) : List ByteArray × Int := match firstBad ps with
  | some e => ([], e)
  | none => if 16 < (ps.foldl stepP out).length then ([], 32) else (ps.foldl stepP out, 0)
theorem has0_iff (p : ByteArray) : has0 p = decide ((0 : UInt8) ∈ p.data.toList) := by
  unfold has0
  have : ∀ l : List UInt8, (0 ≤ Lib.indexByte l 0) ↔ (0 : UInt8) ∈ l := by
    intro l
    constructor
    · intro h
      obtain ⟨o, ho⟩ : ∃ o : Nat, Lib.indexByte l 0 = o := ⟨(Lib.indexByte l 0).toNat, by omega⟩
      exact List.mem_of_getElem? (Lib.indexByte_some ho).1
    · intro h
      by_cases hn : Lib.indexByte l 0 < 0
      · exact absurd h (fun hm => by
          obtain ⟨i, hi, e⟩ := List.getElem_of_mem hm
          exact (Lib.indexByte_none (show Lib.indexByte l 0 = -1 by have := Lib.indexByte_ge l 0; omega)) i (by rw [List.getElem?_eq_getElem hi, e]))
      · omega
  exact decide_eq_decide.2 (this _)
theorem out_len (p : ByteArray) (out : List ByteArray) : (stepP out p).length ≤ out.length + 1 := by
  unfold stepP
  split
  · omega
  · split
    · rw [List.length_dropLast]; omega
    · simp
theorem splitR_cons (p : ByteArray) (ps out : List ByteArray) : splitR (p :: ps) out = match badP p with | some e => ([], e) | none => splitR ps (stepP out p) := by
  unfold splitR firstBad
  rw [List.findSome?_cons]
  cases badP p with
  | none => rfl
  | some e => rfl
theorem split_l1 (ps : List ByteArray) (i : Nat) (out : List ByteArray) (q : ByteArray) (hq : q.size ≤ 1000000) (K : Nat) (R : List ByteArray × Int) (hR : badP q = none → gatehouseref13_Split.l1 (K + 1) out q (q.size : Int) ps (ps.length : Int) (i : Int) = some R)
    (hB : ∀ e, badP q = some e → R = ([], e)) (n : Nat) : ∀ j, q.size - j = n → j ≤ q.size → (∀ m, m < j → q.data.toList[m]? ≠ some 0) → gatehouseref13_Split.l1 (K + 1 + n) out q (j : Int) ps (ps.length : Int) (i : Int) = some R := by
  have hd := size_data q
  induction n with
  | zero =>
    intro j h hj hz
    obtain rfl : j = q.size := by omega
    have h0 : has0 q = false := by
      rw [has0_iff, decide_eq_false_iff_not]
      intro hm
      obtain ⟨m, hm1, hm2⟩ := List.getElem_of_mem hm
      exact hz m (by omega) (by rw [List.getElem?_eq_getElem hm1, hm2])
    cases hb : badP q with
    | none => exact hR hb
    | some e =>
      have hbig : 32 < q.size := by
        unfold badP at hb
        rw [if_neg (by rw [h0]; simp)] at hb
        split at hb
        · assumption
        · cases hb
      have he : e = 32 := by
        unfold badP at hb
        rw [if_neg (by rw [h0]; simp), if_pos hbig] at hb
        exact (Option.some.inj hb).symm
      rw [hB e hb, he]
      simp only [gatehouseref13_Split.l1]
      rw [if_neg (by omega), if_pos (by omega)]
  | succ n ih =>
    intro j h hj hz
    have hlt : j < q.data.toList.length := by omega
    rw [show K + 1 + (n + 1) = (K + 1 + n) + 1 from rfl]
    conv => lhs; rw [gatehouseref13_Split.l1]
    rw [if_pos (by omega), if_pos (by omega), bt_list q j hlt, w64 (x := (j : Int) + 1) (by omega) (by omega)]
    by_cases hc : q.data.toList[j] = 0
    · have hb : badP q = some 31 := by
        unfold badP
        rw [if_pos]
        rw [has0_iff, decide_eq_true_iff, ← hc]
        exact List.getElem_mem hlt
      rw [if_pos (by rw [hc]; rfl), hB 31 hb]
    · have hne : ¬ (((q.data.toList[j]).toNat : Int) = 0) := fun e => hc (by
        apply UInt8.toNat_inj.1
        have : (0 : UInt8).toNat = 0 := rfl
        rw [this]; omega)
      rw [if_neg hne]
      refine ih (j + 1) (by omega) (by omega) fun m hm => ?_
      by_cases hmj : m = j
      · subst hmj
        rw [List.getElem?_eq_getElem hlt]
        intro e; exact hc (Option.some.inj e)
      · exact hz m (by omega)
theorem split_l0 (ps : List ByteArray) (hps : ps.length ≤ 1000) (hsz : ∀ p ∈ ps, p.size ≤ 300) (n : Nat) : ∀ (k i : Nat) (out : List ByteArray), ps.length - i = n → i ≤ ps.length → 400 * n < k → out.length ≤ i →
    gatehouseref13_Split.l0 k out ps (ps.length : Int) (i : Int) = some (splitR (ps.drop i) out) := by
  induction n with
  | zero =>
    intro k i out h hi hk ho
    obtain ⟨k, rfl⟩ : ∃ q, k = q + 1 := ⟨k - 1, by omega⟩
    obtain rfl : i = ps.length := by omega
    simp only [gatehouseref13_Split.l0]
    rw [if_neg (by omega), List.drop_length]
    show _ = some (if 16 < out.length then ([], 32) else (out, 0))
    by_cases h16 : 16 < out.length
    · rw [if_pos (by omega), if_pos h16]
    · rw [if_neg (by omega), if_neg h16]
  | succ n ih =>
    intro k i out h hi hk ho
    have hlt : i < ps.length := by omega
    have hq := hsz _ (List.getElem_mem hlt)
    obtain ⟨K, rfl⟩ : ∃ K, k = (K + 1 + 1 + (ps[i]).size) + 1 := ⟨k - 3 - (ps[i]).size, by omega⟩
    simp only [gatehouseref13_Split.l0]
    rw [if_pos (by omega), if_pos (by omega), if_pos (by omega), rdB_at ps i hlt, List.drop_eq_getElem_cons hlt, splitR_cons]
    refine split_l1 ps i out ps[i] (by omega) (K + 1) _ ?_ ?_ (ps[i]).size 0 (by omega) (by omega) (fun m hm => by omega)
    · intro hb
      rw [hb]
      have h32 := (badP_none hb).2
      have hol := out_len ps[i] out
      have next : ∀ o, o = stepP out ps[i] → gatehouseref13_Split.l0 K o ps (ps.length : Int) ((i : Int) + 1) = some (splitR (ps.drop (i + 1)) (stepP out ps[i])) := by
        rintro o rfl
        exact ih K (i + 1) _ (by omega) (by omega) (by omega) (by omega)
      have wi : wrap64 ((i : Int) + 1) = (i : Int) + 1 := w64 (by omega) (by omega)
      conv => lhs; rw [gatehouseref13_Split.l1]
      rw [if_neg (by omega), if_neg (by omega)]
      by_cases h0 : (ps[i]).toList = []
      · rw [if_pos h0, gatehouseref13_Split.j2, if_pos rfl, wi]
        exact next out (by unfold stepP; rw [if_pos (.inl h0)])
      · rw [if_neg h0]
        by_cases h1 : (ps[i]).toList = [46]
        · rw [h1, gatehouseref13_Split.j2, if_pos (by decide), wi]
          exact next out (by unfold stepP; rw [if_pos (.inr h1)])
        · rw [gatehouseref13_Split.j2, if_neg (by simpa using h1)]
          by_cases h2 : (ps[i]).toList = [46, 46]
          · rw [if_pos h2]
            have hst : stepP out ps[i] = out.dropLast := by unfold stepP; rw [if_neg (by rintro (h | h); exact h0 h; exact h1 h), if_pos h2]
            by_cases hl : (out.length : Int) > 0
            · rw [if_pos hl, Option.bind_some, w64 (x := (out.length : Int) - 1) (by omega) (by omega), if_pos (by omega), if_pos (by omega), Option.bind_some, if_pos (by simp; omega), wi, List.nil_append]
              refine next _ ?_
              rw [hst, List.dropLast_eq_take, show ((out.length : Int) - 1).toNat = out.length - 1 by omega]
            · rw [if_neg hl, wi]
              refine next _ ?_
              have : out = [] := List.eq_nil_of_length_eq_zero (by omega)
              rw [hst, this]; rfl
          · rw [if_neg h2, if_pos (by omega), wi]
            exact next _ (by unfold stepP; rw [if_neg (by rintro (h | h); exact h0 h; exact h1 h), if_neg h2])
    · intro e hb
      rw [hb]
theorem mem_wt {p : ByteArray} : ∀ {l : List ByteArray}, p ∈ l → p.size + 1 ≤ wt l
  | x :: l, h => by
    rw [wt_cons]
    rcases List.mem_cons.1 h with rfl | h
    · omega
    · have := mem_wt h; omega
theorem split_f (s : ByteArray) (k : Nat) (hk : 200000 < k) : gatehouseref13_Split.f k s = some (splitL s) := by
  unfold gatehouseref13_Split.f splitL
  by_cases h : 256 < s.size
  · rw [if_pos (by omega), if_pos h]
  · rw [if_neg (by omega), if_neg h, words_f s (by omega) k (by omega), Option.bind_some]
    have hl := pieces_len s
    have hp : ∀ p ∈ pieces s, p.size ≤ 300 := by
      intro p hp
      have hw := wt_pieces s
      have := mem_wt hp
      omega
    have hs := split_l0 (pieces s) (by omega) hp (pieces s).length k 0 [] (by omega) (by omega) (by omega) (by simp)
    rw [List.drop_zero] at hs
    refine hs.trans ?_
    unfold splitR outP
    cases firstBad (pieces s) with
    | some e => rfl
    | none => rfl

theorem joinB_take (l : List ByteArray) (i : Nat) (h : i < l.length) : joinB (l.take (i + 1)) = joinB (l.take i) ++ (if 0 < i then [47] else []) ++ (l[i]).data.toList := by
  rw [List.take_succ_eq_append_getElem h]
  cases hi : l.take i with
  | nil =>
    have h0 : i = 0 := by
      have := congrArg List.length hi
      rw [List.length_take, List.length_nil] at this
      omega
    subst h0
    rw [List.nil_append, joinB_cons]
    simp [Lib.joinTail, joinB, Lib.join_nil]
  | cons x r =>
    have h0 : 0 < i := by
      have := congrArg List.length hi
      rw [List.length_take, List.length_cons] at this
      omega
    rw [if_pos h0, List.cons_append, joinB_cons, joinB_cons]
    simp [Lib.joinTail, List.append_assoc]
theorem wt_take_le (l : List ByteArray) (i : Nat) : wt (l.take i) ≤ wt l := by
  conv => rhs; rw [← List.take_append_drop i l]
  rw [wt_append]; omega
theorem joinB_le (l : List ByteArray) : (joinB l).length ≤ wt l := by
  cases l with
  | nil => exact Nat.zero_le _
  | cons x r => have := joinB_len r x; omega
theorem join_loop (l : List ByteArray) (hw : wt l ≤ 1048576) (hl : l.length ≤ 1048576) (n : Nat) : ∀ (k i : Nat) (t : ByteArray), l.length - i = n → i ≤ l.length → n < k → t.data.toList = 47 :: joinB (l.take i) →
    gatehouseref13_Join.l0 k t l (l.length : Int) (i : Int) = some (joinL l) := by
  induction n with
  | zero =>
    intro k i t h hi hk ht
    obtain ⟨k, rfl⟩ : ∃ q, k = q + 1 := ⟨k - 1, by omega⟩
    obtain rfl : i = l.length := by omega
    rw [List.take_length] at ht
    simp only [gatehouseref13_Join.l0]
    rw [if_neg (by omega)]
    congr 1
    apply toList_inj
    rw [Lib.toList_data, Lib.toList_data, ht, joinL_data]
  | succ n ih =>
    intro k i t h hi hk ht
    obtain ⟨k, rfl⟩ : ∃ q, k = q + 1 := ⟨k - 1, by omega⟩
    have hlt : i < l.length := by omega
    have hts : t.size ≤ 1048577 := by
      have h1 := joinB_le (l.take i)
      have h2 := wt_take_le l i
      rw [size_data, ht, List.length_cons]; omega
    have hps : (l[i]).size ≤ 1048576 := by
      have h1 := mem_wt (List.getElem_mem hlt)
      omega
    have hjt := joinB_take l i hlt
    simp only [gatehouseref13_Join.l0]
    rw [if_pos (by omega), if_pos (by omega), if_pos (by omega), rdB_at l i hlt, w64 (x := (i : Int) + 1) (by omega) (by omega)]
    by_cases h0 : 0 < i
    · have hsz : (t ++ (⟨#[47]⟩ : ByteArray)).size = t.size + 1 := by rw [size_data, app_data, List.length_append, ← size_data]; rfl
      rw [if_pos (by omega), if_pos (by omega), if_pos (by omega)]
      refine ih k (i + 1) _ (by omega) (by omega) (by omega) ?_
      rw [hjt, if_pos h0, app_data, app_data, ht]
      simp
    · rw [if_neg (by omega), if_pos (by omega)]
      refine ih k (i + 1) _ (by omega) (by omega) (by omega) ?_
      rw [hjt, if_neg h0, app_data, ht]
      simp
theorem dirPaths_pure (s : ByteArray) (names : List ByteArray) (hw : wt names ≤ 1048576) : ∃ k, gatehouselaw13_DirPaths.f k s names = some true := by
  have hl : names.length ≤ 1048576 := by
    have : names.length ≤ wt names := by
      unfold wt
      have : ∀ l : List ByteArray, l.length ≤ (l.map fun p => p.size + 1).sum := by
        intro l
        induction l with
        | nil => simp
        | cons x l ih => simp only [List.length_cons, List.map_cons, List.sum_cons]; omega
      exact this names
    omega
  have hjl := joinB_le names
  refine ⟨2000000, ?_⟩
  unfold gatehouselaw13_DirPaths.f
  rw [lives_f _ (by omega), Option.bind_some, if_pos rfl]
  unfold dir_Split.f
  have hlen : (splitL s).1.length ≤ 16 := by
    rcases split_cases s with ⟨h1, _⟩ | ⟨_, _, _, h, _⟩
    · rw [h1]; simp
    · exact h
  have hj : dir_Join.f names = some (joinL names) := by unfold dir_Join.f; rw [if_pos ⟨by omega, by omega⟩]
  have hr : gatehouseref13_Join.f 2000000 names = some (joinL names) := by
    unfold gatehouseref13_Join.f
    exact join_loop names hw hl names.length _ 0 _ (by omega) (by omega) (by omega) rfl
  rw [Option.bind_some, split_f s _ (by omega), Option.bind_some, if_pos rfl, texts_self _ (by omega) _ (by omega), Option.bind_some, if_pos rfl, hj, Option.bind_some, hr, Option.bind_some]
  simp
end Go.Proofs.YtijnlgmclaphhaaDoor
/-! What the second form's bound says of the arguments. -/
namespace Go.Proofs.YtijnlgmclaphhaaDoor
open Go Go.RowKit

theorem bulk_mem {H : Type} : ∀ {ds : List (DataW H)} {d : DataW H}, d ∈ ds → Rows.uptoBulk d ≤ Rows.uptoBulkAll ds
  | x :: r, d, h => by
    rw [Rows.uptoBulkAll]
    rcases List.mem_cons.1 h with rfl | h
    · omega
    · have := bulk_mem h; omega
theorem bulk_at {H : Type} {ds : List (DataW H)} (h : Rows.uptoSmall H ds = true) {j : Nat} {d : DataW H} (hd : ds[j]? = some d) : Rows.uptoBulk d ≤ 1048576 :=
  Nat.le_trans (bulk_mem (List.mem_of_getElem? hd)) (of_decide_eq_true h)
theorem bulk_str {H : Type} {ds : List (DataW H)} (h : Rows.uptoSmall H ds = true) {j : Nat} {s : ByteArray} (hd : ds[j]? = some (.lit (.string s.data.toList))) : s.size ≤ 1048576 := by
  have := bulk_at h hd
  rw [Rows.uptoBulk] at this
  rw [size_data]; omega
theorem bulk_pos {H : Type} (d : DataW H) : 1 ≤ Rows.uptoBulk d := by
  cases d with
  | lit l => cases l <;> simp [Rows.uptoBulk]
  | _ => simp [Rows.uptoBulk]
theorem bulk_len {H : Type} : ∀ l : List (DataW H), l.length ≤ Rows.uptoBulkAll l
  | [] => Nat.zero_le _
  | d :: r => by
    have h1 := bulk_pos d
    have h2 := bulk_len r
    rw [Rows.uptoBulkAll, List.length_cons]; omega
theorem bulk_nms {H : Type} {ds : List (DataW H)} (h : Rows.uptoSmall H ds = true) {j n : Nat} {d : DataW H} {l : List Nm} (hn : l.length = n) (hd : ds[j]? = some d) (hx : d = .nil ∧ l = [] ∨ ∃ es sp, d = .slice es sp ∧ es.length = n) : l.length ≤ 1048576 := by
  have h1 := bulk_at h hd
  rcases hx with ⟨_, rfl⟩ | ⟨es, sp, rfl, he⟩
  · exact Nat.zero_le _
  · rw [Rows.uptoBulk] at h1
    have := bulk_len es
    omega
theorem bulk_wt {H : Type} : ∀ l : List ByteArray, Rows.uptoBulkAll (l.map fun s => (DataW.lit (.string s.data.toList) : DataW H)) = wt l
  | [] => rfl
  | s :: l => by rw [List.map_cons, Rows.uptoBulkAll, Rows.uptoBulk, bulk_wt l, wt_cons, size_data]
theorem bulk_strs {H : Type} {ds : List (DataW H)} (h : Rows.uptoSmall H ds = true) {j n : Nat} {d : DataW H} {l : List ByteArray} (hd : ds[j]? = some d)
    (hx : d = .nil ∧ l = [] ∨ ∃ es sp, d = .slice es sp ∧ es = l.map (fun s => DataW.lit (.string s.data.toList)) ∧ es.length = n) : wt l ≤ 1048576 := by
  have h1 := bulk_at h hd
  rcases hx with ⟨_, rfl⟩ | ⟨es, sp, rfl, he, _⟩
  · exact Nat.zero_le _
  · rw [Rows.uptoBulk, he, bulk_wt] at h1
    omega
end Go.Proofs.YtijnlgmclaphhaaDoor
