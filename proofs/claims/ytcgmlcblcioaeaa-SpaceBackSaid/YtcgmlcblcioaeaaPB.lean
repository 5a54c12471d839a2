import Derived.Test.YtcgmlcblcioaeaaPA
import Derived.Test.YtcgmlcblcioaeaaZ20
namespace Go.Proofs.YtcgmlcblcioaeaaP
open Go Go.RowKit Go.Proofs.YtcgmlcblcioaeaaZ Go.Proofs.YtcgmlcblcioaeaaW.PrintWords Go.Proofs.YtcgmlcblcioaeaaW.PrintLast Go.Proofs.YtcgmlcblcioaeaaW.PrintMore
open Go.Proofs.Ytcgmlcblcioaeaa (Mp Pc rightL rightFrom atI spanL spanFrom idOk putL cutL insL clash good_out right_good right_from right_order rightL_from atI_le takeWhile_at)

theorem u64_in {x : Int} (h0 : 0 ≤ x) (h1 : x ≤ 18446744073709551615) : IntKind.u64.wrap x = x := by
  unfold IntKind.wrap
  simp [IntKind.bits, IntKind.signed]
  omega
/-- Where a mapping is found. -/
theorem atI_eq {L : List Mp} (hr : rightL L = true) (j : Nat) (hj : j < L.length) (p : Int) (h0 : (L[j]).va ≤ p) (h1 : p < (L[j]).va + (L[j]).pages) : atI L p = j := by
  obtain ⟨hf, _⟩ := rightL_from hr
  refine takeWhile_at _ L j (by omega) (fun k h hk => ?_) (fun k h hk => ?_)
  · have := right_order hf k j h hj hk
    exact decide_eq_true (by omega)
  · rcases Nat.lt_or_ge j k with h2 | h2
    · have := right_order hf j k hj h h2
      have := good_out (right_good hf _ (List.getElem_mem h))
      exact decide_eq_false (by omega)
    · obtain rfl : k = j := by omega
      exact decide_eq_false (by omega)
theorem find_in {L : List Mp} (hr : rightL L = true) (j : Nat) (hj : j < L.length) (need b : Int) (hn : 0 ≤ need ∧ need ≤ 2) (h0 : (L[j]).va * 64 ≤ b) (h1 : b < ((L[j]).va + (L[j]).pages) * 64) (hm : (L[j]).may need = true) :
    spanL L b 1 need = (some [⟨(L[j]).inn, (L[j]).num, (L[j]).frm * 64 + (b - (L[j]).va * 64), 1⟩], 0) := by
  obtain ⟨hf, _⟩ := rightL_from hr
  have hg := good_out (right_good hf _ (List.getElem_mem hj))
  unfold spanL
  rw [if_pos ⟨hr, by omega, by omega, hn.1, hn.2⟩, if_pos (by omega), atI_eq hr j hj (b / 64) (by omega) (by omega), List.drop_eq_getElem_cons hj, spanFrom, if_neg (by omega), if_neg (by rw [hm]; simp), if_pos (by omega)]

theorem find_f (l : List S31) (hmax : l.length ≤ 9223372036854775807) (a need : Int) (ha : 0 ≤ a) (k : Nat) (hk : l.length + 3 < k) : space_Find.f k l a need = some (spanR l a 1 need) := by
  unfold space_Find.f
  rw [span_f l hmax a 1 need ha k hk]
  rfl
theorem list1 {α : Type} (l : List α) (h : l.length = 1) : ∃ a, l = [a] := by
  match l, h with
  | [a], _ => exact ⟨a, rfl⟩

theorem sums_one (l : List S31) (hmax : l.length ≤ 9223372036854775807) (a n need fr : Int) (ps : List S41) (i : Int) (x : S41) (k : Nat) (y0 y1 y2 : Int) (t : Nat) (ht : t < 3) (hk : l.length + 3 < k)
    (hy : 0 ≤ rd [y0, y1, y2] t ∧ rd [y0, y1, y2] t ≤ 4096) (hfr : 0 ≤ fr ∧ fr ≤ 4294971392) (hx : 0 ≤ x.f2 ∧ x.f2 ≤ 4096)
    (hF : spanR l (fr + rd [y0, y1, y2] t) 1 need = ([⟨x.f0, x.f1, x.f2 + rd [y0, y1, y2] t, 1⟩], 0)) :
    gatehouselaw05_SpaceSums.l1 (k + 1) l a n need fr ps ps.length i [y0, y1, y2] 3 t x.f0 x.f1 x.f2 x.f3 = gatehouselaw05_SpaceSums.l1 k l a n need fr ps ps.length i [y0, y1, y2] 3 ((t + 1 : Nat) : Int) x.f0 x.f1 x.f2 x.f3 := by
  rw [gatehouselaw05_SpaceSums.l1, if_pos (by omega), if_pos (by omega), if_pos (by simp only [List.length_cons, List.length_nil]; omega), u64_in (x := rd [y0, y1, y2] t) (by omega) (by omega), u64_in (x := fr + rd [y0, y1, y2] t) (by omega) (by omega), find_f l hmax _ need (by omega) k hk, hF]
  simp only [Option.bind_some, List.length_singleton]
  rw [if_pos trivial, if_pos (by omega), if_pos (by omega)]
  rw [wrap_in (x := x.f2 + rd [y0, y1, y2] t) (by omega) (by omega), wrap_in (x := (t : Int) + 1) (by omega) (by omega)]
  have : rd_T41 [(⟨x.f0, x.f1, x.f2 + rd [y0, y1, y2] t, 1⟩ : S41)] 0 = ⟨x.f0, x.f1, x.f2 + rd [y0, y1, y2] t, 1⟩ := rfl
  rw [this, if_neg (by simp)]
  congr 1

theorem sums_loop (l : List S31) (hmax : l.length ≤ 9223372036854775807) (hr : rightL (l.map S31.m) = true) (a n need : Int) (hneed : 0 ≤ need ∧ need ≤ 2) (ha : 0 ≤ a) (qs : List Pc) (hn : 1 ≤ n ∧ n ≤ 4096) :
    ∀ (d k i j : Nat) (fr n' : Int), i + d = qs.length → fr = a + n - n' → 0 ≤ n' → n' ≤ n → fr ≤ 4294971392 → j ≤ l.length →
      (0 < n' → ∀ h : j < l.length, fr < ((l[j]).f0 + (l[j]).f1) * 64) →
      (n' = 0 → d = 0) → (0 < n' → spanFrom need ((l.map S31.m).drop j) fr n' = some (qs.drop i)) → qs.length ≤ 1000000 → 6 * d + l.length + 10 < k →
    gatehouselaw05_SpaceSums.l0 k l a n need fr (qs.map ofPc) ((qs.map ofPc).length : Int) i = some true := by
  obtain ⟨hf, _⟩ := rightL_from hr
  intro d
  induction d with
  | zero =>
    intro k i j fr n' hi hfr h0 h1 hfm hj hp hz hs hql hk
    obtain ⟨k, rfl⟩ : ∃ m, k = m + 1 := ⟨k - 1, by omega⟩
    rw [gatehouselaw05_SpaceSums.l0, if_neg (by rw [List.length_map]; omega)]
    have : n' = 0 := by
      rcases Int.lt_or_le 0 n' with h | h
      · have h2 := hs h
        rw [show qs.drop i = [] from List.drop_eq_nil_of_le (by omega)] at h2
        generalize (l.map S31.m).drop j = D at h2
        cases D with
        | nil => rw [spanFrom] at h2; cases h2
        | cons m ms =>
          rw [spanFrom] at h2
          split at h2
          · cases h2
          · split at h2
            · cases h2
            · split at h2
              · cases h2
              · simp at h2
      · omega
    subst this
    subst hfr
    rw [show a + n - 0 - a = n by omega]
    simp
  | succ d ih =>
    intro k i j fr n' hi hfr h0 h1 hfm hj hp hz hs hql hk
    have hn' : 0 < n' := by
      rcases Int.lt_or_le 0 n' with h | h
      · exact h
      · exact absurd (hz (by omega)) (by omega)
    have hs' := hs hn'
    have hqi : i < qs.length := by omega
    rw [List.drop_eq_getElem_cons hqi] at hs'
    have hjl : j < l.length := by
      rcases Nat.lt_or_ge j l.length with h | h
      · exact h
      · rw [List.drop_eq_nil_of_le (by simpa using h), spanFrom] at hs'; cases hs'
    have hpj := hp hn' hjl
    have hjm : j < (l.map S31.m).length := by simpa using hjl
    have hgd := right_good hf (l[j]).m (by rw [List.mem_map]; exact ⟨_, List.getElem_mem hjl, rfl⟩)
    have hLj : (l.map S31.m)[j] = (l[j]).m := by simp
    have hnx : ∀ h : j + 1 < l.length, (l[j]).f0 + (l[j]).f1 ≤ (l[j + 1]).f0 ∧ 1 ≤ (l[j + 1]).f1 := fun h => by
      have h1 := right_order hf j (j + 1) hjm (by simpa using h) (by omega)
      have h2 := good_out (right_good hf (l[j + 1]).m (by rw [List.mem_map]; exact ⟨_, List.getElem_mem h, rfl⟩))
      simp only [List.getElem_map, S31.m] at h1 h2
      exact ⟨h1, h2.1⟩
    rw [drop31 l j hjl, spanFrom_cons] at hs'
    have hfind := fun (b : Int) (hb0 : (l[j]).f0 * 64 ≤ b) (hb1 : b < ((l[j]).f0 + (l[j]).f1) * 64) (hm : (l[j]).m.may need = true) => find_in hr j hjm need b hneed (by rw [hLj]; exact hb0) (by rw [hLj]; exact hb1) (by rw [hLj]; exact hm)
    rw [hLj] at hfind
    obtain ⟨g1, g2, g3, g4, g5, g6, _, _⟩ := good_out hgd
    generalize l[j] = x at *
    simp only [S31.m] at g1 g2 g3 g4 g5 g6
    split at hs'
    · cases hs'
    · rename_i hva
      split at hs'
      · cases hs'
      · rename_i hm
        have hm : x.m.may need = true := by simpa using hm
        -- the piece
        obtain ⟨hv, hv1, hv2, hq, hrest⟩ : ∃ hv : Int, 1 ≤ hv ∧ hv ≤ n' ∧ (hv ≤ x.f1 * 64 - (fr - x.f0 * 64) ∧ qs[i] = ⟨x.f2, x.f3, x.f4 * 64 + (fr - x.f0 * 64), hv⟩) ∧
            ((n' = hv ∧ qs.drop (i + 1) = []) ∨ (hv < n' ∧ hv = x.f1 * 64 - (fr - x.f0 * 64) ∧ spanFrom need ((l.map S31.m).drop (j + 1)) (fr + hv) (n' - hv) = some (qs.drop (i + 1)))) := by
          split at hs'
          · rename_i hle
            simp only [Option.some.injEq, List.cons.injEq] at hs'
            exact ⟨n', by omega, by omega, ⟨hle, hs'.1.symm⟩, .inl ⟨rfl, hs'.2.symm⟩⟩
          · rename_i hle
            rw [Option.map_eq_some_iff] at hs'
            obtain ⟨ps, h2, h3⟩ := hs'
            simp only [List.cons.injEq] at h3
            exact ⟨_, by omega, by omega, ⟨by omega, h3.1.symm⟩, .inr ⟨by omega, rfl, by rw [h2, h3.2]⟩⟩
        obtain ⟨hq1, hq2⟩ := hq
        have hrd : rd_T41 (qs.map ofPc) (i : Int) = ⟨x.f2, x.f3, x.f4 * 64 + (fr - x.f0 * 64), hv⟩ := by
          rw [rd41 _ i (by simpa using hqi), List.getElem_map, hq2]; rfl
        have hF : ∀ q : Int, 0 ≤ q → q < hv → spanR l (fr + q) 1 need = ([⟨x.f2, x.f3, x.f4 * 64 + (fr - x.f0 * 64) + q, 1⟩], 0) := fun q q0 q1 => by
          unfold spanR
          rw [hfind (fr + q) (by omega) (by omega) hm]
          simp only [Option.getD_some, List.map_cons, List.map_nil, ofPc, S31.m]
          rw [show x.f4 * 64 + (fr + q - x.f0 * 64) = x.f4 * 64 + (fr - x.f0 * 64) + q by omega]
        obtain ⟨k, rfl⟩ : ∃ m, k = m + 6 := ⟨k - 6, by omega⟩
        rw [show k + 6 = (k + 5) + 1 from rfl, gatehouselaw05_SpaceSums.l0, if_pos (by rw [List.length_map]; omega), if_pos (by omega), if_pos (by rw [List.length_map]; omega), hrd]
        simp only
        rw [if_neg (by omega), if_neg (by omega), wrap_in (x := 4096 - hv) (by omega) (by omega), decide_eq_false (by omega), show k + 5 = (k + 4) + 1 from rfl, gatehouselaw05_SpaceSums.j1, if_neg (by simp)]
        simp only [Option.bind_some]
        rw [Int.tdiv_eq_ediv_of_nonneg (by omega), wrap_in (x := hv / 2) (by omega) (by omega), wrap_in (x := hv - 1) (by omega) (by omega)]
        rw [show (([0, hv / 2, hv - 1] : List Int).length : Int) = 3 from rfl]
        have r0 : rd [0, hv / 2, hv - 1] ((0 : Nat) : Int) = 0 := rfl
        have r1 : rd [0, hv / 2, hv - 1] ((1 : Nat) : Int) = hv / 2 := rfl
        have r2 : rd [0, hv / 2, hv - 1] ((2 : Nat) : Int) = hv - 1 := rfl
        have s0 := sums_one l hmax a n need fr (qs.map ofPc) i ⟨x.f2, x.f3, x.f4 * 64 + (fr - x.f0 * 64), hv⟩ (k + 3) 0 (hv / 2) (hv - 1) 0 (by omega) (by omega) (by rw [r0]; omega) (by omega) (by show 0 ≤ x.f4 * 64 + (fr - x.f0 * 64) ∧ x.f4 * 64 + (fr - x.f0 * 64) ≤ 4096; omega) (by rw [r0]; exact hF _ (by omega) (by omega))
        have s1 := sums_one l hmax a n need fr (qs.map ofPc) i ⟨x.f2, x.f3, x.f4 * 64 + (fr - x.f0 * 64), hv⟩ (k + 2) 0 (hv / 2) (hv - 1) 1 (by omega) (by omega) (by rw [r1]; omega) (by omega) (by show 0 ≤ x.f4 * 64 + (fr - x.f0 * 64) ∧ x.f4 * 64 + (fr - x.f0 * 64) ≤ 4096; omega) (by rw [r1]; exact hF _ (by omega) (by omega))
        have s2 := sums_one l hmax a n need fr (qs.map ofPc) i ⟨x.f2, x.f3, x.f4 * 64 + (fr - x.f0 * 64), hv⟩ (k + 1) 0 (hv / 2) (hv - 1) 2 (by omega) (by omega) (by rw [r2]; omega) (by omega) (by show 0 ≤ x.f4 * 64 + (fr - x.f0 * 64) ∧ x.f4 * 64 + (fr - x.f0 * 64) ≤ 4096; omega) (by rw [r2]; exact hF _ (by omega) (by omega))
        have e0 : ((0 : Nat) : Int) = 0 := rfl
        rw [e0] at s0
        rw [show k + 4 = (k + 3) + 1 from rfl]
        refine s0.trans ?_
        rw [show k + 3 = (k + 2) + 1 from rfl]
        refine s1.trans ?_
        rw [show k + 2 = (k + 1) + 1 from rfl]
        refine s2.trans ?_
        rw [gatehouselaw05_SpaceSums.l1, if_neg (by omega), u64_in (x := hv) (by omega) (by omega), u64_in (x := fr + hv) (by omega) (by omega), wrap_in (x := (i : Int) + 1) (by omega) (by omega), show ((i : Int) + 1) = ((i + 1 : Nat) : Int) by omega]
        refine ih k (i + 1) (j + 1) (fr + hv) (n' - hv) (by omega) (by omega) (by omega) (by omega) ?_ (by omega) ?_ ?_ ?_ hql (by omega)
        · omega
        · intro h1 h2
          have := hnx h2
          rcases hrest with ⟨h3, _⟩ | ⟨h3, h4, _⟩
          · omega
          · omega
        · intro h1
          rcases hrest with ⟨h3, h4⟩ | ⟨h3, h4, _⟩
          · have := congrArg List.length h4
            simp at this
            omega
          · omega
        · intro h1
          rcases hrest with ⟨h3, h4⟩ | ⟨h3, h4, h5⟩
          · omega
          · exact h5
end Go.Proofs.YtcgmlcblcioaeaaP
