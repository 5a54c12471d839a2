import Derived.Test.YtcgmlcblcioaeaaZ9
import Derived.Test.YtcgmlcblcioaeaaZ10
import Derived.Test.YtcgmlcblcioaeaaG
import Derived.Test.YtcgmlcblcioaeaaT
namespace Go.Proofs.YtcgmlcblcioaeaaP
open Go Go.RowKit Go.Proofs.YtcgmlcblcioaeaaZ Go.Proofs.YtcgmlcblcioaeaaW.PrintWords Go.Proofs.YtcgmlcblcioaeaaW.PrintLast Go.Proofs.YtcgmlcblcioaeaaW.PrintMore
open Go.Proofs.Ytcgmlcblcioaeaa (Mp Pc rightL rightFrom atI spanL spanFrom idOk putL cutL insL clash good_out right_good right_from right_order rightL_from atI_le)

theorem wrap_in {x : Int} (h0 : -9223372036854775808 ≤ x) (h1 : x ≤ 9223372036854775807) : wrap64 x = x := by unfold wrap64; omega
theorem rd31 (l : List S31) (i : Nat) (h : i < l.length) : rd_T31 l (i : Int) = l[i] := by
  rw [rd_T31, Int.toNat_natCast, List.getD_eq_getElem?_getD, List.getElem?_eq_getElem h]; rfl
theorem rd41 (l : List S41) (i : Nat) (h : i < l.length) : rd_T41 l (i : Int) = l[i] := by
  rw [rd_T41, Int.toNat_natCast, List.getD_eq_getElem?_getD, List.getElem?_eq_getElem h]; rfl
theorem id_eq (n : Int) : space_id.f n = some (idOk n) := by
  unfold space_id.f idOk
  by_cases h : n ≥ 1
  · rw [if_pos h]
    congr 1
    exact decide_eq_decide.2 (by omega)
  · rw [if_neg h, decide_eq_false (by omega)]
theorem right_eq (x : S31) : space_right.f x.f0 x.f1 x.f2 x.f3 x.f4 x.f5 x.f6 = some x.m.good := by
  have no : ∀ h : ¬ (1 ≤ x.f1 ∧ x.f1 ≤ 64 ∧ 0 ≤ x.f0 ∧ x.f0 ≤ 67108864 - x.f1 ∧ 0 ≤ x.f4 ∧ x.f4 ≤ 64 - x.f1 ∧ idOk x.f2 = true ∧ idOk x.f3 = true), x.m.good = false := fun h => decide_eq_false h
  unfold space_right.f
  by_cases h1 : x.f1 ≥ 1
  · by_cases h2 : x.f1 ≤ 64
    · by_cases h3 : x.f0 ≥ 0
      · rw [if_pos h1, if_pos h2, if_pos h3, wrap_in (x := 67108864 - x.f1) (by omega) (by omega), wrap_in (x := 64 - x.f1) (by omega) (by omega)]
        by_cases h4 : x.f0 ≤ 67108864 - x.f1
        · by_cases h5 : x.f4 ≥ 0
          · by_cases h6 : x.f4 ≤ 64 - x.f1
            · rw [if_pos h4, if_pos h5, if_pos h6, id_eq, id_eq]
              simp only [Option.bind_some]
              cases hi : idOk x.f2
              · rw [if_neg (by simp), no (by rintro ⟨_, _, _, _, _, _, h, _⟩; rw [hi] at h; cases h)]
              · rw [if_pos rfl]
                congr 1
                cases hj : idOk x.f3
                · rw [no (by rintro ⟨_, _, _, _, _, _, _, h⟩; rw [hj] at h; cases h)]
                · exact (decide_eq_true ⟨h1, h2, h3, h4, h5, h6, hi, hj⟩).symm
            · rw [if_pos h4, if_pos h5, if_neg h6, no (by rintro ⟨_, _, _, _, _, h, _, _⟩; omega)]
          · rw [if_pos h4, if_neg h5, no (by rintro ⟨_, _, _, _, h, _, _, _⟩; omega)]
        · rw [if_neg h4, no (by rintro ⟨_, _, _, h, _, _, _, _⟩; omega)]
      · rw [if_pos h1, if_pos h2, if_neg h3, no (by rintro ⟨_, _, h, _, _, _, _, _⟩; omega)]
    · rw [if_pos h1, if_neg h2, no (by rintro ⟨_, h, _, _, _, _, _, _⟩; omega)]
  · rw [if_neg h1, no (by rintro ⟨h, _, _, _, _, _, _, _⟩; omega)]

theorem drop31 (l : List S31) (i : Nat) (h : i < l.length) : (l.map S31.m).drop i = (l[i]).m :: (l.map S31.m).drop (i + 1) := by
  rw [List.drop_eq_getElem_cons (by simpa using h)]
  simp
theorem right_loop (l : List S31) (hmax : l.length ≤ 9223372036854775807) : ∀ (d k i : Nat) (free : Int), i + d = l.length → 0 ≤ free → free ≤ 67108864 → d < k →
    space_Right.l0 k l free l l.length i = some (rightFrom free ((l.map S31.m).drop i) && decide (l.length ≤ 16)) := by
  intro d
  induction d with
  | zero =>
    intro k i free hi h0 h1 hk
    obtain ⟨k, rfl⟩ : ∃ m, k = m + 1 := ⟨k - 1, by omega⟩
    simp only [space_Right.l0]
    rw [if_neg (by omega), List.drop_eq_nil_of_le (by simp; omega), rightFrom, Bool.true_and]
    congr 1
    exact decide_eq_decide.2 (by omega)
  | succ d ih =>
    intro k i free hi h0 h1 hk
    obtain ⟨k, rfl⟩ : ∃ m, k = m + 1 := ⟨k - 1, by omega⟩
    have hlt : i < l.length := by omega
    simp only [space_Right.l0]
    rw [if_pos (by omega), if_pos (by omega), if_pos (by omega), rd31 l i hlt, right_eq, drop31 l i hlt, rightFrom]
    simp only [Option.bind_some]
    cases hg : (l[i]).m.good
    · rw [if_neg (by simp)]; rfl
    · obtain ⟨g1, g2, g3, g4, _⟩ := good_out hg
      simp only [S31.m] at g1 g2 g3 g4
      rw [if_pos rfl]
      by_cases hf : (l[i]).f0 < free
      · rw [if_pos hf, decide_eq_false (by simp only [S31.m]; omega)]; rfl
      · rw [if_neg hf, decide_eq_true (by simp only [S31.m]; omega), wrap_in (by omega) (by omega), wrap_in (by omega) (by omega), show ((i : Int) + 1) = ((i + 1 : Nat) : Int) by omega, ih k (i + 1) _ (by omega) (by omega) (by omega) (by omega)]
        rfl
theorem right_f (l : List S31) (hmax : l.length ≤ 9223372036854775807) (k : Nat) (hk : l.length < k) : space_Right.f k l = some (rightL (l.map S31.m)) := by
  unfold space_Right.f
  have := right_loop l hmax l.length k 0 0 (by omega) (by omega) (by omega) hk
  rw [List.drop_zero] at this
  rw [show ((0 : Nat) : Int) = 0 from rfl] at this
  rw [this, rightL, List.length_map]

def ofPc (p : Pc) : S41 := ⟨p.inn, p.num, p.off, p.n⟩
def S41.p (x : S41) : Pc := ⟨x.f0, x.f1, x.f2, x.f3⟩
def spanR (l : List S31) (a n need : Int) : List S41 × Int := (((spanL (l.map S31.m) a n need).1.getD []).map ofPc, (spanL (l.map S31.m) a n need).2)
theorem may_eq (x : S31) (need : Int) : space_may.f x.f0 x.f1 x.f2 x.f3 x.f4 x.f5 x.f6 need = some (x.m.may need) := by
  unfold space_may.f Ytcgmlcblcioaeaa.Mp.may
  split
  · rfl
  · split <;> rfl
theorem mn_eq (a b : Int) : mn a b = if a ≤ b then a else b := by unfold mn; split <;> split <;> omega
theorem spanFrom_cons (x : S31) (ms : List Mp) (a n need : Int) : spanFrom need (x.m :: ms) a n =
    if a < x.f0 * 64 then none else if x.m.may need = false then none else
    if n ≤ x.f1 * 64 - (a - x.f0 * 64) then some [⟨x.f2, x.f3, x.f4 * 64 + (a - x.f0 * 64), n⟩]
    else (spanFrom need ms (a + (x.f1 * 64 - (a - x.f0 * 64))) (n - (x.f1 * 64 - (a - x.f0 * 64)))).map (⟨x.f2, x.f3, x.f4 * 64 + (a - x.f0 * 64), x.f1 * 64 - (a - x.f0 * 64)⟩ :: ·) := rfl
def spanT (acc : List S41) : Option (List Pc) → List S41 × Int
  | none => ([], 9)
  | some ps => (acc ++ ps.map ofPc, 0)
theorem span_loop (l : List S31) (hr : rightL (l.map S31.m) = true) (need : Int) : ∀ (d k i : Nat) (n fr : Int) (acc : List S41), i + d = l.length → 0 ≤ fr → fr ≤ 4294971392 → 0 ≤ n → n ≤ 4096 → acc.length ≤ i →
      (0 < n → ∀ h : i < l.length, fr < ((l[i]).f0 + (l[i]).f1) * 64) → d + 1 < k →
    space_Span.l0 k l n need acc fr i = some (if n ≤ 0 then (acc, 0) else spanT acc (spanFrom need ((l.map S31.m).drop i) fr n)) := by
  obtain ⟨hf, hn16⟩ := rightL_from hr
  rw [List.length_map] at hn16
  intro d
  induction d with
  | zero =>
    intro k i n fr acc hi h0 h1 h2 h3 ha hp hk
    obtain ⟨k, rfl⟩ : ∃ m, k = m + 1 := ⟨k - 1, by omega⟩
    simp only [space_Span.l0]
    by_cases hn : n > 0
    · rw [if_pos hn, if_pos (by omega), if_neg (by omega), List.drop_eq_nil_of_le (by simp; omega), spanFrom, spanT]
    · rw [if_neg hn, if_pos (by omega)]
  | succ d ih =>
    intro k i n fr acc hi h0 h1 h2 h3 ha hp hk
    obtain ⟨k, rfl⟩ : ∃ m, k = m + 1 := ⟨k - 1, by omega⟩
    have hlt : i < l.length := by omega
    have hlm : i < (l.map S31.m).length := by simpa using hlt
    simp only [space_Span.l0]
    by_cases hn : n > 0
    · have hps := hp hn hlt
      have hgd := right_good hf (l[i]).m (by rw [List.mem_map]; exact ⟨_, List.getElem_mem hlt, rfl⟩)
      have hnx : ∀ h : i + 1 < l.length, (l[i]).f0 + (l[i]).f1 ≤ (l[i + 1]).f0 ∧ 1 ≤ (l[i + 1]).f1 := fun h => by
        have h1 := right_order hf i (i + 1) hlm (by simpa using h) (by omega)
        have h2 := good_out (right_good hf (l[i + 1]).m (by rw [List.mem_map]; exact ⟨_, List.getElem_mem h, rfl⟩))
        simp only [List.getElem_map, S31.m] at h1 h2
        exact ⟨h1, h2.1⟩
      rw [if_pos hn, if_neg (by omega), if_pos (by omega), if_pos (by omega), rd31 l i hlt, may_eq, if_neg (show ¬ n ≤ 0 by omega), drop31 l i hlt, spanFrom_cons]
      obtain ⟨g1, g2, g3, g4, g5, g6, _, _⟩ := good_out hgd
      generalize l[i] = x at *
      simp only [S31.m] at g1 g2 g3 g4 g5 g6
      rw [wrap_in (x := x.f0 * 64) (by omega) (by omega)]
      by_cases hva : x.f0 * 64 > fr
      · rw [if_pos hva, if_pos (by omega), spanT]
      · rw [if_neg hva, if_neg (show ¬ fr < x.f0 * 64 by omega)]
        simp only [Option.bind_some]
        cases hm : x.m.may need
        · rw [if_neg (show ¬ false = true by simp), if_pos rfl, spanT]
        · rw [if_pos rfl, if_neg (show ¬ true = false by simp), if_pos (show acc.length < 4398046511104 by omega)]
          rw [wrap_in (x := fr - x.f0 * 64) (by omega) (by omega), wrap_in (x := x.f1 * 64) (by omega) (by omega), wrap_in (x := x.f1 * 64 - (fr - x.f0 * 64)) (by omega) (by omega), wrap_in (x := x.f4 * 64) (by omega) (by omega), wrap_in (x := x.f4 * 64 + (fr - x.f0 * 64)) (by omega) (by omega), wrap_in (x := (i : Int) + 1) (by omega) (by omega), show ((i : Int) + 1) = ((i + 1 : Nat) : Int) by omega, mn_eq]
          by_cases hle : n ≤ x.f1 * 64 - (fr - x.f0 * 64)
          · rw [if_pos hle, if_pos hle, wrap_in (x := n - n) (by omega) (by omega), wrap_in (x := fr + n) (by omega) (by omega), ih k (i + 1) (n - n) (fr + n) _ (by omega) (by omega) (by omega) (by omega) (by omega) (by simp; omega) (by omega) (by omega), if_pos (by omega), spanT]
            rfl
          · rw [if_neg hle, if_neg hle, wrap_in (x := n - (x.f1 * 64 - (fr - x.f0 * 64))) (by omega) (by omega), wrap_in (x := fr + (x.f1 * 64 - (fr - x.f0 * 64))) (by omega) (by omega),
              ih k (i + 1) _ _ _ (by omega) (by omega) (by omega) (by omega) (by omega) (by simp; omega) (fun _ h => by have := hnx h; omega) (by omega), if_neg (by omega)]
            cases spanFrom need ((l.map S31.m).drop (i + 1)) (fr + (x.f1 * 64 - (fr - x.f0 * 64))) (n - (x.f1 * 64 - (fr - x.f0 * 64))) with
            | none => rfl
            | some ps => simp [spanT, ofPc]
    · rw [if_neg hn, if_pos (by omega)]
theorem span_f (l : List S31) (hmax : l.length ≤ 9223372036854775807) (a n need : Int) (ha : 0 ≤ a) (k : Nat) (hk : l.length + 3 < k) : space_Span.f k l a n need = some (spanR l a n need) := by
  unfold space_Span.f
  rw [right_f l hmax k (by omega)]
  simp only [Option.bind_some]
  obtain ⟨k, rfl⟩ : ∃ m, k = m + 1 := ⟨k - 1, by omega⟩
  have bad : ¬ (rightL (l.map S31.m) = true ∧ 1 ≤ n ∧ n ≤ 4096 ∧ 0 ≤ need ∧ need ≤ 2) → spanR l a n need = ([], 1) := fun h => by unfold spanR spanL; rw [if_neg h]; rfl
  cases hr : rightL (l.map S31.m)
  · rw [if_neg (by simp), space_Span.j0, if_pos rfl, bad (by rw [hr]; simp)]
  · rw [if_pos rfl]
    by_cases h1 : n < 1
    · rw [if_pos h1, space_Span.j0, if_pos rfl, bad (by omega)]
    · by_cases h2 : n > 4096
      · rw [if_neg h1, if_pos h2, space_Span.j0, if_pos rfl, bad (by omega)]
      · by_cases h3 : need < 0
        · rw [if_neg h1, if_neg h2, if_pos h3, space_Span.j0, if_pos rfl, bad (by omega)]
        · rw [if_neg h1, if_neg h2, if_neg h3, space_Span.j0]
          by_cases h4 : need > 2
          · rw [decide_eq_true h4, if_pos rfl, bad (by omega)]
          · rw [decide_eq_false h4, if_neg (by simp)]
            have good : spanL (l.map S31.m) a n need = if a < 4294967296 then (match spanFrom need ((l.map S31.m).drop (atI (l.map S31.m) (a / 64))) a n with | none => (none, (9 : Int)) | some ps => (some ps, 0)) else (none, 9) := by
              unfold spanL; rw [if_pos ⟨hr, by omega, by omega, by omega, by omega⟩]; rfl
            by_cases h5 : a ≥ 4294967296
            · rw [if_pos h5]; unfold spanR; rw [good, if_neg (by omega)]; rfl
            · rw [if_neg h5, wrap_in (x := a) (by omega) (by omega), Int.tdiv_eq_ediv_of_nonneg ha, wrap_in (x := a / 64) (by omega) (by omega)]
              have hat : space_at.f l (a / 64) = some ((atI (l.map S31.m) (a / 64) : Nat) : Int) := by
                unfold space_at.f; rw [if_pos ⟨hr, by omega, by omega⟩]
              rw [hat]
              simp only [Option.bind_some]
              have hal := atI_le (l.map S31.m) (a / 64)
              have hpos : ∀ h : atI (l.map S31.m) (a / 64) < l.length, a < ((l[atI (l.map S31.m) (a / 64)]).f0 + (l[atI (l.map S31.m) (a / 64)]).f1) * 64 := fun h => by
                have := Ytcgmlcblcioaeaa.takeWhile_stop (List.getElem?_eq_getElem (l := l.map S31.m) (i := atI (l.map S31.m) (a / 64)) (by simpa using h))
                simp only [List.getElem_map, S31.m] at this
                omega
              rw [List.length_map] at hal
              rw [span_loop l hr need (l.length - atI (l.map S31.m) (a / 64)) k _ n a [] (by omega) ha (by omega) (by omega) (by omega) (by simp) (fun _ h => hpos h) (by omega), if_neg (by omega)]
              unfold spanR
              rw [good, if_pos (by omega)]
              cases spanFrom need ((l.map S31.m).drop (atI (l.map S31.m) (a / 64))) a n with
              | none => rfl
              | some ps => simp [spanT]
end Go.Proofs.YtcgmlcblcioaeaaP
