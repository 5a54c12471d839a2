import Derived.Test.YtcgmlcblcioaeaaPB
import Derived.Test.YtcgmlcblcioaeaaZ18
import Derived.Test.YtcgmlcblcioaeaaZ30
namespace Go.Proofs.YtcgmlcblcioaeaaP
open Go Go.RowKit Go.Proofs.YtcgmlcblcioaeaaZ Go.Proofs.YtcgmlcblcioaeaaW.PrintWords Go.Proofs.YtcgmlcblcioaeaaW.PrintLast Go.Proofs.YtcgmlcblcioaeaaW.PrintMore
open Go.Proofs.Ytcgmlcblcioaeaa (Mp Pc rightL rightFrom atI spanL spanFrom idOk putL cutL insL clash good_out right_good right_from right_order rightL_from atI_le takeWhile_at)

theorem ne41 (x y : S41) : ((!(x.f0 == y.f0) || (!(x.f1 == y.f1) || (!(x.f2 == y.f2) || (!(x.f3 == y.f3))))) = true) ↔ ¬ x = y := by
  obtain ⟨a0, a1, a2, a3⟩ := x
  obtain ⟨b0, b1, b2, b3⟩ := y
  simp only [S41.mk.injEq]
  by_cases e0 : a0 = b0 <;> by_cases e1 : a1 = b1 <;> by_cases e2 : a2 = b2 <;> by_cases e3 : a3 = b3 <;> simp [e0, e1, e2, e3]
theorem ne31 (x y : S31) : ((!(x.f0 == y.f0) || (!(x.f1 == y.f1) || (!(x.f2 == y.f2) || (!(x.f3 == y.f3) || (!(x.f4 == y.f4) || (!(x.f5 == y.f5) || (!(x.f6 == y.f6)))))))) = true) ↔ ¬ x = y := by
  obtain ⟨a0, a1, a2, a3, a4, a5, a6⟩ := x
  obtain ⟨b0, b1, b2, b3, b4, b5, b6⟩ := y
  simp only [S31.mk.injEq]
  by_cases e0 : a0 = b0 <;> by_cases e1 : a1 = b1 <;> by_cases e2 : a2 = b2 <;> by_cases e3 : a3 = b3 <;> by_cases e4 : a4 = b4 <;> by_cases e5 : a5 = b5 <;> by_cases e6 : a6 = b6 <;> simp [e0, e1, e2, e3, e4, e5, e6]

open Classical in
theorem samePieces_loop (l r : List S41) (hn : l.length = r.length) (hmax : l.length ≤ 9223372036854775806) : ∀ (d k i : Nat), i + d = l.length → d < k →
    gatehouseref05_SamePieces.l0 k l r l.length i = some (decide (l.drop i = r.drop i)) := by
  intro d
  induction d with
  | zero =>
    intro k i hi hk
    obtain ⟨k, rfl⟩ : ∃ m, k = m + 1 := ⟨k - 1, by omega⟩
    rw [gatehouseref05_SamePieces.l0, if_neg (by omega), List.drop_eq_nil_of_le (by omega), List.drop_eq_nil_of_le (by omega), decide_eq_true rfl]
  | succ d ih =>
    intro k i hi hk
    obtain ⟨k, rfl⟩ : ∃ m, k = m + 1 := ⟨k - 1, by omega⟩
    have h1 : i < l.length := by omega
    have h2 : i < r.length := by omega
    rw [gatehouseref05_SamePieces.l0, if_pos (by omega), if_pos (by omega), if_pos (by omega), if_pos (by omega), rd41 l i h1, rd41 r i h2, List.drop_eq_getElem_cons h1, List.drop_eq_getElem_cons h2]
    by_cases e : l[i] = r[i]
    · rw [if_neg (fun h => (ne41 _ _).1 h e), wrap_in (by omega) (by omega), show ((i : Int) + 1) = ((i + 1 : Nat) : Int) by omega, ih k (i + 1) (by omega) (by omega)]
      congr 1
      exact decide_eq_decide.2 (by rw [List.cons.injEq]; exact ⟨fun h => ⟨e, h⟩, fun h => h.2⟩)
    · rw [if_pos ((ne41 _ _).2 e), decide_eq_false (fun h => e (by injection h))]
open Classical in
theorem samePieces_f (l r : List S41) (hmax : l.length ≤ 9223372036854775806) (k : Nat) (hk : l.length < k) : gatehouseref05_SamePieces.f k l r = some (decide (l = r)) := by
  unfold gatehouseref05_SamePieces.f
  by_cases hn : l.length = r.length
  · rw [if_pos (by omega)]
    have := samePieces_loop l r hn hmax l.length k 0 (by omega) hk
    simpa using this
  · rw [if_neg (by omega), decide_eq_false (fun h => hn (by rw [h]))]
open Classical in
theorem same_loop (l r : List S31) (hn : l.length = r.length) (hmax : l.length ≤ 9223372036854775806) : ∀ (d k i : Nat), i + d = l.length → d < k →
    gatehouseref05_Same.l0 k l r l.length i = some (decide (l.drop i = r.drop i)) := by
  intro d
  induction d with
  | zero =>
    intro k i hi hk
    obtain ⟨k, rfl⟩ : ∃ m, k = m + 1 := ⟨k - 1, by omega⟩
    rw [gatehouseref05_Same.l0, if_neg (by omega), List.drop_eq_nil_of_le (by omega), List.drop_eq_nil_of_le (by omega), decide_eq_true rfl]
  | succ d ih =>
    intro k i hi hk
    obtain ⟨k, rfl⟩ : ∃ m, k = m + 1 := ⟨k - 1, by omega⟩
    have h1 : i < l.length := by omega
    have h2 : i < r.length := by omega
    rw [gatehouseref05_Same.l0, if_pos (by omega), if_pos (by omega), if_pos (by omega), if_pos (by omega), rd31 l i h1, rd31 r i h2, List.drop_eq_getElem_cons h1, List.drop_eq_getElem_cons h2]
    by_cases e : l[i] = r[i]
    · rw [if_neg (fun h => (ne31 _ _).1 h e), wrap_in (by omega) (by omega), show ((i : Int) + 1) = ((i + 1 : Nat) : Int) by omega, ih k (i + 1) (by omega) (by omega)]
      congr 1
      exact decide_eq_decide.2 (by rw [List.cons.injEq]; exact ⟨fun h => ⟨e, h⟩, fun h => h.2⟩)
    · rw [if_pos ((ne31 _ _).2 e), decide_eq_false (fun h => e (by injection h))]
open Classical in
theorem same_f (l r : List S31) (hmax : l.length ≤ 9223372036854775806) (k : Nat) (hk : l.length < k) : gatehouseref05_Same.f k l r = some (decide (l = r)) := by
  unfold gatehouseref05_Same.f
  by_cases hn : l.length = r.length
  · rw [if_pos (by omega)]
    have := same_loop l r hn hmax l.length k 0 (by omega) hk
    simpa using this
  · rw [if_neg (by omega), decide_eq_false (fun h => hn (by rw [h]))]

theorem put_ex1 : space_Put.f [] 2 1 1 7 3 true false = some ([⟨2, 1, 1, 7, 3, true, false⟩], 0) := by kernel_rfl
theorem put_ex2 : space_Put.f [⟨2, 1, 1, 7, 3, true, false⟩] 3 2 1 8 0 false false = some ([⟨2, 1, 1, 7, 3, true, false⟩, ⟨3, 2, 1, 8, 0, false, false⟩], 0) := by kernel_rfl
theorem span_ex1 : spanR [⟨2, 1, 1, 7, 3, true, false⟩, ⟨3, 2, 1, 8, 0, false, false⟩] 190 4 0 = ([⟨1, 7, 254, 2⟩, ⟨1, 8, 0, 2⟩], 0) := by kernel_rfl
theorem span_ex2 : spanR [⟨2, 1, 1, 7, 3, true, false⟩] 130 4 2 = ([], 9) := by kernel_rfl
theorem lives_f (k : Nat) (hk : 20 < k) : gatehouselaw05_lives.f k = some true := by
  unfold gatehouselaw05_lives.f
  rw [put_ex1]
  simp only [Option.bind_some]
  rw [put_ex2]
  simp only [Option.bind_some]
  rw [span_f _ (by simp) 190 4 0 (by omega) k (by simp; omega), span_ex1]
  simp only [Option.bind_some]
  rw [span_f _ (by simp) 130 4 2 (by omega) k (by simp; omega), span_ex2]
  simp only [Option.bind_some]
  rw [if_pos trivial, if_pos trivial, if_pos trivial, if_pos trivial, samePieces_f _ _ (by simp) k (by simp; omega)]
  simp

/-! The span's laws. -/
theorem spanR_no {l : List S31} {a n need : Int} (h : (spanR l a n need).2 ≠ 0) : (spanR l a n need).1 = [] := by
  unfold spanR spanL at *
  split at h
  · rename_i h1
    rw [if_pos h1]
    split at h
    · rename_i h2
      rw [if_pos h2]
      split at h
      · rename_i h3
        rfl
      · exact absurd rfl h
    · rename_i h2
      rw [if_neg h2]; rfl
  · rename_i h1
    rw [if_neg h1]; rfl
theorem spanR_yes {l : List S31} {a n need : Int} (h : (spanR l a n need).2 = 0) : rightL (l.map S31.m) = true ∧ 1 ≤ n ∧ n ≤ 4096 ∧ 0 ≤ need ∧ need ≤ 2 ∧ a < 4294967296 ∧
    ∃ qs, spanFrom need ((l.map S31.m).drop (atI (l.map S31.m) (a / 64))) a n = some qs ∧ (spanR l a n need).1 = qs.map ofPc := by
  unfold spanR spanL at *
  split at h
  · rename_i h1
    rw [if_pos h1]
    split at h
    · rename_i h2
      rw [if_pos h2]
      split at h
      · cases h
      · rename_i qs h3
        exact ⟨h1.1, h1.2.1, h1.2.2.1, h1.2.2.2.1, h1.2.2.2.2, h2, qs, h3, rfl⟩
    · cases h
  · cases h
theorem spanFrom_len (need : Int) : ∀ (L : List Mp) (a n : Int) (qs : List Pc), spanFrom need L a n = some qs → qs.length ≤ L.length ∧ 0 < qs.length := by
  intro L
  induction L with
  | nil => intro a n qs h; cases h
  | cons m ms ih =>
    intro a n qs h
    rw [spanFrom] at h
    split at h
    · cases h
    · split at h
      · cases h
      · split at h
        · cases h; simp
        · rw [Option.map_eq_some_iff] at h
          obtain ⟨ps, h2, rfl⟩ := h
          have := ih _ _ _ h2
          simp; omega
theorem sums_f (l : List S31) (hmax : l.length ≤ 9223372036854775807) (a n need : Int) (ha : 0 ≤ a) : ∃ k, gatehouselaw05_SpaceSums.f k l a n need = some true := by
  refine ⟨7 * l.length + 100, ?_⟩
  generalize hK : 7 * l.length + 100 = K
  unfold gatehouselaw05_SpaceSums.f
  rw [lives_f K (by omega)]
  simp only [Option.bind_some, if_true]
  rw [span_f l hmax a n need ha K (by omega)]
  simp only [Option.bind_some]
  by_cases h : (spanR l a n need).2 = 0
  · rw [if_pos h]
    obtain ⟨hr, h1, h2, h3, h4, h5, qs, hq, he⟩ := spanR_yes h
    have hlen := spanFrom_len _ _ _ _ _ hq
    have hal := atI_le (l.map S31.m) (a / 64)
    have hn16 := (rightL_from hr).2
    rw [List.length_drop] at hlen
    rw [List.length_map] at hlen hal hn16
    have hpos : ∀ h : atI (l.map S31.m) (a / 64) < l.length, a < ((l[atI (l.map S31.m) (a / 64)]).f0 + (l[atI (l.map S31.m) (a / 64)]).f1) * 64 := fun h => by
      have := Ytcgmlcblcioaeaa.takeWhile_stop (List.getElem?_eq_getElem (l := l.map S31.m) (i := atI (l.map S31.m) (a / 64)) (by simpa using h))
      simp only [List.getElem_map, S31.m] at this
      omega
    rw [he]
    exact sums_loop l hmax hr a n need ⟨h3, h4⟩ ha qs ⟨h1, h2⟩ qs.length K 0 (atI (l.map S31.m) (a / 64)) a n (by omega) (by omega) (by omega) (by omega) (by omega) hal (fun _ => hpos) (fun h => by omega) (fun _ => by rw [List.drop_zero]; exact hq) (by omega) (by omega)
  · rw [if_neg h, spanR_no h]
    rfl
end Go.Proofs.YtcgmlcblcioaeaaP
