import Derived.Test.YtcgmlcblcioaeaaMRows0
import Derived.Test.YtcgmlcblcioaeaaMRows1
import Derived.Test.YtcgmlcblcioaeaaMRows2
namespace Go.Proofs.YtcgmlcblcioaeaaP
open Go Go.RowKit Go.Proofs.YtcgmlcblcioaeaaZ Go.Proofs.YtcgmlcblcioaeaaW.PrintWords Go.Proofs.YtcgmlcblcioaeaaW.PrintLast Go.Proofs.YtcgmlcblcioaeaaW.PrintMore
open Go.Proofs.Ytcgmlcblcioaeaa (Mp Pc rightL rightFrom atI spanL spanFrom idOk putL cutL insL clash good_out right_good right_from right_order rightL_from atI_le takeWhile_at)

def meets (m x : Mp) : Bool := decide (x.va < m.va + m.pages ∧ m.va < x.va + x.pages)
theorem any_meets {m : Mp} (hm : m.good = true) : ∀ (L : List Mp) (f : Int), rightFrom f L = true → L.any (meets m) = clash L m := by
  intro L
  have g := good_out hm
  induction L with
  | nil => intro f _; rfl
  | cons a L ih =>
    intro f hr
    simp only [rightFrom, Bool.and_eq_true, decide_eq_true_eq] at hr
    rw [List.any_cons, clash_cons]
    by_cases h : a.va + a.pages ≤ m.va
    · rw [if_pos h, show meets m a = false from decide_eq_false (by omega), Bool.false_or, ih _ hr.2]
    · rw [if_neg h]
      by_cases h2 : a.va < m.va + m.pages
      · rw [show meets m a = true from decide_eq_true (by omega), decide_eq_true h2, Bool.true_or]
      · rw [show meets m a = false from decide_eq_false (by omega), decide_eq_false h2, Bool.false_or, List.any_eq_false]
        intro x hx
        have := right_from hr.2 x hx
        have ga := good_out hr.1.1
        rw [show meets m x = false from decide_eq_false (by omega)]
        simp
theorem rput_laid (l : List S31) (hmax : l.length ≤ 100) (x : S31) : ∀ (d k i : Nat) (acc : List S31), i + d = l.length → acc.length ≤ 1000 + i → d < k →
    gatehouseref05_Put.l1 k acc true l l.length i x.f0 x.f1 x.f2 x.f3 x.f4 x.f5 x.f6 = some (acc ++ l.drop i, 0) := by
  intro d
  induction d with
  | zero =>
    intro k i acc hi ha hk
    obtain ⟨k, rfl⟩ : ∃ m, k = m + 1 := ⟨k - 1, by omega⟩
    rw [gatehouseref05_Put.l1, if_neg (by omega), if_pos rfl, List.drop_eq_nil_of_le (by omega), List.append_nil]
  | succ d ih =>
    intro k i acc hi ha hk
    obtain ⟨k, rfl⟩ : ∃ m, k = m + 1 := ⟨k - 1, by omega⟩
    have hlt : i < l.length := by omega
    rw [gatehouseref05_Put.l1, if_pos (by omega), if_pos (by omega), if_pos (by omega), if_pos rfl, if_pos (by omega), rd31 l i hlt, wrap_in (by omega) (by omega), show ((i : Int) + 1) = ((i + 1 : Nat) : Int) by omega, ih k (i + 1) _ (by omega) (by simp; omega) (by omega), List.drop_eq_getElem_cons hlt, List.append_assoc]
    rfl
theorem rput_lay (l : List S31) (hmax : l.length ≤ 100) (x : S31) (hx : x.m.good = true) (f : Int) : ∀ (d k i : Nat) (acc : List S31) (f : Int), i + d = l.length → acc.length ≤ i → d + 1 < k → rightFrom f ((l.map S31.m).drop i) = true → clash ((l.map S31.m).drop i) x.m = false →
    gatehouseref05_Put.l1 k acc false l l.length i x.f0 x.f1 x.f2 x.f3 x.f4 x.f5 x.f6 = some (acc ++ (insL ((l.map S31.m).drop i) x.m).map ofMp, 0) := by
  intro d
  have gx := good_out hx
  simp only [S31.m] at gx
  induction d with
  | zero =>
    intro k i acc f hi ha hk _ _
    obtain ⟨k, rfl⟩ : ∃ m, k = m + 1 := ⟨k - 1, by omega⟩
    rw [gatehouseref05_Put.l1, if_neg (by omega), if_neg (by simp), if_pos (by omega), List.drop_eq_nil_of_le (by simp; omega), insL_nil]
    rfl
  | succ d ih =>
    intro k i acc f hi ha hk hr hc
    obtain ⟨k, rfl⟩ : ∃ m, k = m + 1 := ⟨k - 1, by omega⟩
    have hlt : i < l.length := by omega
    rw [drop31 l i hlt] at hr hc ⊢
    simp only [rightFrom, Bool.and_eq_true, decide_eq_true_eq] at hr
    have ga := good_out hr.1.1
    simp only [S31.m] at ga
    rw [clash_cons] at hc
    rw [insL_cons, gatehouseref05_Put.l1, if_pos (by omega), if_pos (by omega), if_pos (by omega), if_neg (by simp), rd31 l i hlt]
    by_cases h : (l[i]).m.va + (l[i]).m.pages ≤ x.m.va
    · rw [if_pos h] at hc ⊢
      simp only [S31.m] at h
      rw [if_neg (by omega), if_pos (by omega), wrap_in (by omega) (by omega), show ((i : Int) + 1) = ((i + 1 : Nat) : Int) by omega, ih k (i + 1) _ _ (by omega) (by simp; omega) (by omega) hr.2 hc]
      simp [ofMp_m]
    · rw [if_neg h] at hc ⊢
      have hc' : ¬ (l[i]).f0 < x.f0 + x.f1 := of_decide_eq_false hc
      rw [if_pos (by omega), if_pos (by omega), Option.bind_some, if_pos (by simp; omega), wrap_in (by omega) (by omega), show ((i : Int) + 1) = ((i + 1 : Nat) : Int) by omega, rput_laid l hmax x d k (i + 1) _ (by omega) (by simp; omega) (by omega)]
      rw [List.map_cons, List.map_cons, ofMp_m, ofMp_m, ← List.map_drop, map_of_m, List.append_assoc, List.append_assoc]
      rfl
theorem rput_meet (l : List S31) (hmax : l.length ≤ 100) (hg : ∀ y ∈ l, y.m.good = true) (x : S31) (hx : x.m.good = true) : ∀ (d k i : Nat), i + d = l.length →
    gatehouseref05_Put.l0 (k + d + 1) l l l.length i x.f0 x.f1 x.f2 x.f3 x.f4 x.f5 x.f6 = if ((l.map S31.m).drop i).any (meets x.m) = true then some ([], 2) else if (l.length : Int) = 16 then some ([], 7) else gatehouseref05_Put.l1 k [] false l l.length 0 x.f0 x.f1 x.f2 x.f3 x.f4 x.f5 x.f6 := by
  intro d
  induction d with
  | zero =>
    intro k i hi
    rw [gatehouseref05_Put.l0, if_neg (by omega), List.drop_eq_nil_of_le (by simp; omega), if_neg (show ¬ (([] : List Mp).any (meets x.m) = true) by simp)]
  | succ d ih =>
    intro k i hi
    have hlt : i < l.length := by omega
    rw [show k + (d + 1) + 1 = (k + d + 1) + 1 by omega, gatehouseref05_Put.l0, if_pos (by omega), if_pos (by omega), if_pos (by omega), rd31 l i hlt, rmeet_eq _ _ (hg _ (List.getElem_mem hlt)) hx, Option.bind_some, drop31 l i hlt, List.any_cons]
    by_cases h : (l[i]).f0 < x.f0 + x.f1 ∧ x.f0 < (l[i]).f0 + (l[i]).f1
    · rw [decide_eq_true h, if_pos rfl, show meets x.m (l[i]).m = true from decide_eq_true h, Bool.true_or, if_pos rfl]
    · rw [decide_eq_false h, if_neg (by simp), show meets x.m (l[i]).m = false from decide_eq_false h, Bool.false_or, wrap_in (by omega) (by omega), show ((i : Int) + 1) = ((i + 1 : Nat) : Int) by omega]
      exact ih k (i + 1) (by omega)
theorem rput_f (l : List S31) (x : S31) (k : Nat) (hk : 600 < k) : gatehouseref05_Put.f k l x.f0 x.f1 x.f2 x.f3 x.f4 x.f5 x.f6 = some ((putL (l.map S31.m) x.m).1.map ofMp, (putL (l.map S31.m) x.m).2) := by
  have no : ¬ (rightL (l.map S31.m) = true ∧ x.m.good = true) → putL (l.map S31.m) x.m = ([], 1) := fun h => by unfold putL; rw [if_neg h]
  unfold gatehouseref05_Put.f
  rw [rright_f l k (by omega), Option.bind_some]
  obtain ⟨k, rfl⟩ : ∃ m, k = m + 1 := ⟨k - 1, by omega⟩
  cases hr : rightL (l.map S31.m)
  · rw [if_neg (by simp), gatehouseref05_Put.j0, if_pos rfl, no (by rw [hr]; simp)]
    rfl
  · rw [if_pos rfl, rgood_eq x (k + 1) (by omega), Option.bind_some, gatehouseref05_Put.j0]
    cases hg : x.m.good
    · rw [if_pos (show (!false) = true from rfl), no (by rw [hg]; simp)]
      rfl
    · obtain ⟨hf, h16⟩ := rightL_from hr
      have h16' : l.length ≤ 16 := by rwa [List.length_map] at h16
      have yes : putL (l.map S31.m) x.m = if clash (l.map S31.m) x.m = true then ([], 2) else if 16 ≤ (l.map S31.m).length then ([], 7) else (insL (l.map S31.m) x.m, 0) := by unfold putL; rw [if_pos ⟨hr, hg⟩]
      rw [if_neg (show ¬ (!true) = true by simp), yes]
      obtain ⟨k, rfl⟩ : ∃ m, k = m + l.length + 1 := ⟨k - l.length - 1, by omega⟩
      have h1 := rput_meet l (by omega) (fun y hy => right_good hf y.m (by rw [List.mem_map]; exact ⟨y, hy, rfl⟩)) x hg l.length k 0 (by omega)
      rw [show ((0 : Nat) : Int) = 0 from rfl, List.drop_zero] at h1
      rw [h1, any_meets hg _ 0 hf]
      cases hc : clash (l.map S31.m) x.m
      · rw [if_neg (show ¬ (false = true) by simp), if_neg (show ¬ (false = true) by simp), List.length_map]
        by_cases h2 : l.length = 16
        · rw [if_pos (show (l.length : Int) = 16 by omega), if_pos (show 16 ≤ l.length by omega)]; rfl
        · rw [if_neg (show ¬ (l.length : Int) = 16 by omega), if_neg (show ¬ 16 ≤ l.length by omega)]
          have h3 := rput_lay l (by omega) x hg 0 l.length k 0 [] 0 (by omega) (by simp) (by omega) (by rw [List.drop_zero]; exact hf) (by rw [List.drop_zero]; exact hc)
          rw [show ((0 : Nat) : Int) = 0 from rfl, List.drop_zero] at h3
          rw [h3]
          rfl
      · rw [if_pos (show true = true from rfl), if_pos (show true = true from rfl)]; rfl
theorem rcut_loop (l : List S31) (hmax : l.length ≤ 100) (p : Int) : ∀ (d k i : Nat) (acc : List S31), i + d = l.length → acc.length ≤ i → d < k →
    gatehouseref05_Cut.l0 k l p acc l l.length i = some (if (acc ++ (l.drop i).filter (fun x => x.f0 != p)).length = l.length then ([], 4) else (acc ++ (l.drop i).filter (fun x => x.f0 != p), 0)) := by
  intro d
  induction d with
  | zero =>
    intro k i acc hi ha hk
    obtain ⟨k, rfl⟩ : ∃ m, k = m + 1 := ⟨k - 1, by omega⟩
    rw [gatehouseref05_Cut.l0, if_neg (by omega), List.drop_eq_nil_of_le (by omega), List.filter_nil, List.append_nil]
    by_cases h : acc.length = l.length
    · rw [if_pos h, if_pos (by omega)]
    · rw [if_neg h, if_neg (by omega)]
  | succ d ih =>
    intro k i acc hi ha hk
    obtain ⟨k, rfl⟩ : ∃ m, k = m + 1 := ⟨k - 1, by omega⟩
    have hlt : i < l.length := by omega
    rw [gatehouseref05_Cut.l0, if_pos (by omega), if_pos (by omega), if_pos (by omega), rd31 l i hlt, List.drop_eq_getElem_cons hlt, List.filter_cons]
    by_cases h : (l[i]).f0 = p
    · rw [if_pos h, wrap_in (by omega) (by omega), show ((i : Int) + 1) = ((i + 1 : Nat) : Int) by omega, ih k (i + 1) acc (by omega) (by omega) (by omega), if_neg (show ¬ ((l[i]).f0 != p) = true by simp [h])]
    · rw [if_neg h, if_pos (by omega), wrap_in (by omega) (by omega), show ((i : Int) + 1) = ((i + 1 : Nat) : Int) by omega, ih k (i + 1) _ (by omega) (by simp; omega) (by omega), if_pos (show ((l[i]).f0 != p) = true by simp [h])]
      simp
theorem rcut_f (l : List S31) (p : Int) (k : Nat) (hk : 600 < k) : gatehouseref05_Cut.f k l p = some ((cutL (l.map S31.m) p).1.map ofMp, (cutL (l.map S31.m) p).2) := by
  unfold gatehouseref05_Cut.f
  rw [rright_f l k (by omega), Option.bind_some]
  unfold cutL
  cases hr : rightL (l.map S31.m)
  · rw [if_neg (by simp), if_neg (by simp)]; rfl
  · rw [if_pos rfl, if_pos rfl]
    have h16 := (rightL_from hr).2
    rw [List.length_map] at h16
    have h1 := rcut_loop l (by omega) p l.length k 0 [] (by omega) (by simp) (by omega)
    rw [show ((0 : Nat) : Int) = 0 from rfl, List.drop_zero, List.nil_append] at h1
    rw [h1]
    have hfil : ((l.map S31.m).filter (fun m => m.va != p)).map ofMp = l.filter (fun x => x.f0 != p) := by
      rw [List.filter_map, map_of_m]; rfl
    have hany : (l.map S31.m).any (fun m => m.va == p) = true ↔ ¬ (l.filter (fun x => x.f0 != p)).length = l.length := by
      rw [List.length_filter_eq_length_iff, List.any_map, List.any_eq_true]
      constructor
      · rintro ⟨x, hx, h2⟩ h3
        have := h3 x hx
        simp only [Function.comp_apply, S31.m, beq_iff_eq] at h2
        simp [h2] at this
      · intro h
        apply Classical.byContradiction
        intro h2
        apply h
        intro x hx
        simp only [bne_iff_ne, ne_eq]
        intro h3
        exact h2 ⟨x, hx, by simp only [Function.comp_apply, S31.m, beq_iff_eq]; exact h3⟩
    by_cases h2 : (l.map S31.m).any (fun m => m.va == p) = true
    · rw [if_pos h2, if_neg (hany.1 h2)]
      simp only [hfil]
    · rw [if_neg h2, if_pos (Classical.not_not.1 (fun h => h2 (hany.2 h)))]; rfl
theorem putL_len (l : List S31) (m : Mp) : (putL (l.map S31.m) m).1.length ≤ l.length + 1 := by
  by_cases h : (putL (l.map S31.m) m).2 = 0
  · rw [(put_ok h).2.2.2.2, insL_length, List.length_map]; exact Nat.le_refl _
  · rw [put_no h]; simp
theorem cutL_len (l : List S31) (p : Int) : (cutL (l.map S31.m) p).1.length ≤ l.length := by
  unfold cutL
  split
  · split
    · have := List.length_filter_le (fun m => m.va != p) (l.map S31.m)
      rwa [List.length_map] at this
    · simp
  · simp
theorem rows_f (l : List S31) (hmax : l.length * 48 ≤ 140737488351232) (a0 a1 a2 a3 a4 : Int) (a5 a6 : Bool) (p : Int) : ∃ k, gatehouselaw05_SpaceRows.f k l a0 a1 a2 a3 a4 a5 a6 p = some true := by
  refine ⟨l.length + 1000, ?_⟩
  generalize hK : l.length + 1000 = K
  unfold gatehouselaw05_SpaceRows.f
  have hpl := putL_len l ⟨a0, a1, a2, a3, a4, a5, a6⟩
  have hcl := cutL_len l p
  have h3 := rput_f l ⟨a0, a1, a2, a3, a4, a5, a6⟩ K (by omega)
  simp only [S31.m] at h3
  rw [lives_f K (by omega), Option.bind_some, if_pos rfl, Option.bind_some, if_pos (by simp; omega), Option.bind_some, if_pos (by simp; omega), Option.bind_some, if_pos (by omega), if_pos (by simp; omega)]
  rw [show (([] : List S31) ++ l ++ [(⟨-7, 0, 0, 0, 0, false, false⟩ : S31)]).take ((l.length : Int)).toNat = l by rw [Int.toNat_natCast, List.nil_append, List.take_left]]
  unfold space_Put.f space_Cut.f
  rw [Option.bind_some, h3, Option.bind_some, Option.bind_some, rcut_f l p K (by omega), Option.bind_some, right_f l (by omega) K (by omega), Option.bind_some, rright_f l K (by omega), Option.bind_some, if_pos (by simp), if_pos rfl, if_pos rfl,
    same_f _ _ (by rw [List.length_map]; omega) K (by rw [List.length_map]; omega), Option.bind_some, if_pos (by simp), same_f _ _ (by rw [List.length_map]; omega) K (by rw [List.length_map]; omega), Option.bind_some, if_pos (by simp), same_f l l (by omega) K (by omega), Option.bind_some, if_pos (by simp), if_pos (by simp; omega)]
  rw [rd31 _ l.length (by simp)]
  simp
end Go.Proofs.YtcgmlcblcioaeaaP
