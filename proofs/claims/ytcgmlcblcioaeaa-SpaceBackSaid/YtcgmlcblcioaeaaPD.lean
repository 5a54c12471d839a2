import Derived.Test.YtcgmlcblcioaeaaPC
import Derived.Test.YtcgmlcblcioaeaaZ31
namespace Go.Proofs.YtcgmlcblcioaeaaP
open Go Go.RowKit Go.Proofs.YtcgmlcblcioaeaaZ Go.Proofs.YtcgmlcblcioaeaaW.PrintWords Go.Proofs.YtcgmlcblcioaeaaW.PrintLast Go.Proofs.YtcgmlcblcioaeaaW.PrintMore
open Go.Proofs.Ytcgmlcblcioaeaa (Mp Pc rightL rightFrom atI spanL spanFrom idOk putL cutL insL clash good_out right_good right_from right_order rightL_from atI_le takeWhile_at)

/-! Putting in, mapping by mapping. -/
theorem atI_cons (a : Mp) (L : List Mp) (p : Int) : atI (a :: L) p = if a.va + a.pages ≤ p then atI L p + 1 else 0 := by
  unfold atI
  rw [List.takeWhile_cons]
  by_cases h : a.va + a.pages ≤ p
  · rw [if_pos h, if_pos (by simpa using h)]; rfl
  · rw [if_neg h, if_neg (by simpa using h)]; rfl
theorem insL_nil (m : Mp) : insL [] m = [m] := rfl
theorem insL_cons (a : Mp) (L : List Mp) (m : Mp) : insL (a :: L) m = if a.va + a.pages ≤ m.va then a :: insL L m else m :: a :: L := by
  unfold insL
  rw [atI_cons]
  split <;> rfl
theorem clash_cons (a : Mp) (L : List Mp) (m : Mp) : clash (a :: L) m = if a.va + a.pages ≤ m.va then clash L m else decide (a.va < m.va + m.pages) := by
  unfold clash
  rw [atI_cons]
  by_cases h : a.va + a.pages ≤ m.va
  · rw [if_pos h, if_pos h]; rfl
  · rw [if_neg h, if_neg h]; rfl
theorem insL_length (L : List Mp) (m : Mp) : (insL L m).length = L.length + 1 := by
  induction L with
  | nil => rfl
  | cons a L ih =>
    rw [insL_cons]
    split
    · simp [ih]
    · simp
theorem insL_right {m : Mp} (hm : m.good = true) : ∀ (L : List Mp) (f : Int), rightFrom f L = true → f ≤ m.va → clash L m = false → rightFrom f (insL L m) = true := by
  intro L
  induction L with
  | nil => intro f _ hf _; rw [insL_nil, rightFrom, hm, decide_eq_true hf]; rfl
  | cons a L ih =>
    intro f hr hf hc
    rw [clash_cons] at hc
    rw [insL_cons]
    simp only [rightFrom, Bool.and_eq_true, decide_eq_true_eq] at hr
    split at hc
    · rename_i h
      rw [if_pos h, rightFrom, hr.1.1, decide_eq_true hr.1.2, ih _ hr.2 h hc]; rfl
    · rename_i h
      have hc' : ¬ a.va < m.va + m.pages := by simpa using hc
      rw [if_neg h, rightFrom, hm, decide_eq_true hf, rightFrom, hr.1.1, decide_eq_true (by omega), hr.2]; rfl
theorem insL_any (L : List Mp) (m : Mp) : (insL L m).any (fun x => x.va == m.va) = true := by
  induction L with
  | nil => simp [insL_nil]
  | cons a L ih =>
    rw [insL_cons]
    split
    · simp only [List.any_cons, ih, Bool.or_true]
    · simp
theorem insL_filter {m : Mp} (hm : m.good = true) : ∀ (L : List Mp) (f : Int), rightFrom f L = true → clash L m = false → (insL L m).filter (fun x => x.va != m.va) = L := by
  intro L
  have g := good_out hm
  induction L with
  | nil => intro f _ _; simp [insL_nil]
  | cons a L ih =>
    intro f hr hc
    rw [clash_cons] at hc
    rw [insL_cons]
    have hr0 := hr
    simp only [rightFrom, Bool.and_eq_true, decide_eq_true_eq] at hr
    have ga := good_out hr.1.1
    split at hc
    · rename_i h
      rw [if_pos h, List.filter_cons, if_pos (by simp; omega), ih _ hr.2 hc]
    · rename_i h
      have hc' : ¬ a.va < m.va + m.pages := by simpa using hc
      rw [if_neg h, List.filter_cons, if_neg (by simp), List.filter_eq_self]
      intro x hx
      have : a.va ≤ x.va := by
        rcases List.mem_cons.1 hx with rfl | hx
        · omega
        · have := right_from hr.2 x hx; omega
      simp only [bne_iff_ne, ne_eq]
      omega
def inside (p : Int) (x : Mp) : Bool := decide (x.va ≤ p ∧ p < x.va + x.pages)
theorem insL_find_no {m : Mp} {p : Int} (h : inside p m = false) (L : List Mp) : (insL L m).find? (inside p) = L.find? (inside p) := by
  induction L with
  | nil => rw [insL_nil, List.find?_cons, h]
  | cons a L ih =>
    rw [insL_cons]
    split
    · rw [List.find?_cons, List.find?_cons, ih]
    · rw [List.find?_cons, h]
theorem insL_find_yes {m : Mp} {p : Int} (h : inside p m = true) (L : List Mp) : (insL L m).find? (inside p) = some m := by
  have h' := of_decide_eq_true h
  induction L with
  | nil => rw [insL_nil, List.find?_cons, h]
  | cons a L ih =>
    rw [insL_cons]
    split
    · rename_i h2
      rw [List.find?_cons, show inside p a = false from decide_eq_false (by omega), ih]
    · rw [List.find?_cons, h]
/-- What is told of one byte. -/
theorem byte_from (need b : Int) : ∀ (L : List Mp) (f : Int), rightFrom f L = true →
    spanFrom need (L.drop (atI L (b / 64))) b 1 = match L.find? (inside (b / 64)) with
      | some x => if x.may need = true then some [⟨x.inn, x.num, x.frm * 64 + (b - x.va * 64), 1⟩] else none
      | none => none := by
  intro L
  induction L with
  | nil => intro f _; rfl
  | cons a L ih =>
    intro f hr
    simp only [rightFrom, Bool.and_eq_true, decide_eq_true_eq] at hr
    rw [atI_cons, List.find?_cons]
    by_cases h : a.va + a.pages ≤ b / 64
    · rw [if_pos h, List.drop_succ_cons, show inside (b / 64) a = false from decide_eq_false (by omega)]
      exact ih _ hr.2
    · rw [if_neg h, List.drop_zero, spanFrom]
      by_cases h2 : a.va ≤ b / 64
      · rw [show inside (b / 64) a = true from decide_eq_true (by omega), if_neg (by omega)]
        simp only
        cases hm : a.may need
        · rw [if_pos rfl, if_neg (by simp)]
        · rw [if_neg (by simp), if_pos rfl, if_pos (by omega)]
      · rw [show inside (b / 64) a = false from decide_eq_false (by omega), if_pos (by omega)]
        have : L.find? (inside (b / 64)) = none := by
          rw [List.find?_eq_none]
          intro x hx
          have := right_from hr.2 x hx
          have e : inside (b / 64) x = false := decide_eq_false (by omega)
          rw [e]; simp
        rw [this]
def byteL (L : List Mp) (b need : Int) : Option (List Pc) × Int :=
  if b < 4294967296 then
    match L.find? (inside (b / 64)) with
    | some x => if x.may need = true then (some [⟨x.inn, x.num, x.frm * 64 + (b - x.va * 64), 1⟩], 0) else (none, 9)
    | none => (none, 9)
  else (none, 9)
theorem span_byte {L : List Mp} (hr : rightL L = true) (b need : Int) (hn : 0 ≤ need ∧ need ≤ 2) : spanL L b 1 need = byteL L b need := by
  unfold spanL byteL
  rw [if_pos ⟨hr, by omega, by omega, hn.1, hn.2⟩, byte_from need b L 0 (rightL_from hr).1]
  split
  · cases L.find? (inside (b / 64)) with
    | none => rfl
    | some x =>
      simp only
      cases x.may need
      · rfl
      · rfl
  · rfl
theorem put_ok {L : List Mp} {m : Mp} (h : (putL L m).2 = 0) : rightL L = true ∧ m.good = true ∧ clash L m = false ∧ L.length < 16 ∧ putL L m = (insL L m, 0) := by
  unfold putL at h ⊢
  split at h
  · rename_i h1
    rw [if_pos h1]
    split at h
    · simp at h
    · rename_i h2
      rw [if_neg h2]
      split at h
      · simp at h
      · rename_i h3
        rw [if_neg h3]
        exact ⟨h1.1, h1.2, by simpa using h2, by omega, rfl⟩
  · simp at h
theorem put_no {L : List Mp} {m : Mp} (h : (putL L m).2 ≠ 0) : (putL L m).1 = [] := by
  unfold putL at *
  split at h
  · rename_i h1
    rw [if_pos h1]
    split at h
    · rename_i h2; rw [if_pos h2]
    · rename_i h2
      rw [if_neg h2]
      split at h
      · rename_i h3; rw [if_pos h3]
      · exact absurd rfl h
  · rename_i h1; rw [if_neg h1]
theorem back_f (l : List S31) (hmax : l.length ≤ 9223372036854775000) (a0 a1 a2 a3 a4 : Int) (a5 a6 : Bool) (addr : Int) (ha : 0 ≤ addr) (ha2 : addr ≤ 18446744073709551615) : ∃ k, gatehouselaw05_SpaceBack.f k l a0 a1 a2 a3 a4 a5 a6 addr = some true := by
  refine ⟨l.length + 100, ?_⟩
  generalize hK : l.length + 100 = K
  unfold gatehouselaw05_SpaceBack.f
  rw [lives_f K (by omega)]
  simp only [Option.bind_some, if_true, space_Put.f, space_Cut.f]
  generalize hm : (⟨a0, a1, a2, a3, a4, a5, a6⟩ : Mp) = m
  have e0 : a0 = m.va := by rw [← hm]
  have e1 : a1 = m.pages := by rw [← hm]
  have e2 : a2 = m.inn := by rw [← hm]
  have e3 : a3 = m.num := by rw [← hm]
  have e4 : a4 = m.frm := by rw [← hm]
  by_cases h : (putL (l.map S31.m) m).2 = 0
  · obtain ⟨hr, hg, hc, hn, hp⟩ := put_ok h
    have hr' : rightL (insL (l.map S31.m) m) = true := by
      obtain ⟨hf, _⟩ := rightL_from hr
      have g := good_out hg
      unfold rightL
      rw [insL_right hg _ _ hf (by omega) hc, insL_length, decide_eq_true (by omega)]; rfl
    have hcut : cutL (insL (l.map S31.m) m) m.va = (l.map S31.m, 0) := by
      unfold cutL
      rw [if_pos hr', if_pos (insL_any _ _), insL_filter hg _ _ (rightL_from hr).1 hc]
    rw [List.length_map] at hn
    rw [hp]
    simp only
    rw [if_pos trivial, map_m_of, e0, hcut]
    simp only
    have hlen' : ((insL (l.map S31.m) m).map ofMp).length = l.length + 1 := by rw [List.length_map, insL_length, List.length_map]
    rw [right_f _ (by omega) K (by omega), map_m_of, hr']
    simp only [Option.bind_some]
    rw [if_pos trivial, if_pos trivial, map_of_m, same_f l l (by omega) K (by omega)]
    simp only [Option.bind_some]
    obtain ⟨K, rfl⟩ : ∃ q, K = q + 2 := ⟨K - 2, by omega⟩
    rw [show K + 2 = (K + 1) + 1 from rfl, gatehouselaw05_SpaceBack.j0, if_neg (by simp), find_f _ (by omega) addr 0 ha (K + 1) (by omega)]
    simp only [Option.bind_some]
    obtain ⟨g1, g2, g3, g4, g5, g6, _, _⟩ := good_out hg
    have hpg : IntKind.u64.wrap (Int.tdiv addr 64) = addr / 64 := by rw [Int.tdiv_eq_ediv_of_nonneg ha, u64_in (by omega) (by omega)]
    rw [hpg, e1, u64_in (x := m.va) (by omega) (by omega), wrap_in (x := m.va + m.pages) (by omega) (by omega), u64_in (x := m.va + m.pages) (by omega) (by omega)]
    have hs : spanR ((insL (l.map S31.m) m).map ofMp) addr 1 0 = (((byteL (insL (l.map S31.m) m) addr 0).1.getD []).map ofPc, (byteL (insL (l.map S31.m) m) addr 0).2) := by
      unfold spanR; rw [map_m_of, span_byte hr' addr 0 (by omega)]
    have hs0 : spanR l addr 1 0 = (((byteL (l.map S31.m) addr 0).1.getD []).map ofPc, (byteL (l.map S31.m) addr 0).2) := by
      unfold spanR; rw [span_byte hr addr 0 (by omega)]
    rw [hs]
    by_cases hin : m.va ≤ addr / 64 ∧ addr / 64 < m.va + m.pages
    · have hb : byteL (insL (l.map S31.m) m) addr 0 = (some [⟨m.inn, m.num, m.frm * 64 + (addr - m.va * 64), 1⟩], 0) := by
        unfold byteL
        rw [if_pos (by omega), insL_find_yes (decide_eq_true hin)]
        simp only
        rw [if_pos (show m.may 0 = true from rfl)]
      rw [if_pos hin.1, decide_eq_true hin.2, hb, gatehouselaw05_SpaceBack.j1, if_pos rfl]
      simp only [Option.getD_some, List.map_cons, List.map_nil, List.length_cons, List.length_nil]
      rw [if_pos trivial, if_pos (by omega), if_pos (by omega)]
      have hrd : rd_T41 [ofPc ⟨m.inn, m.num, m.frm * 64 + (addr - m.va * 64), 1⟩] 0 = ⟨m.inn, m.num, m.frm * 64 + (addr - m.va * 64), 1⟩ := rfl
      rw [hrd, e2, e3, e4, if_pos rfl, if_pos rfl]
      rw [wrap_in (x := addr / 64) (by omega) (by omega), wrap_in (x := m.frm + addr / 64) (by omega) (by omega), wrap_in (x := m.frm + addr / 64 - m.va) (by omega) (by omega), Int.tmod_eq_emod_of_nonneg ha, wrap_in (x := addr % 64) (by omega) (by omega), wrap_in (x := 64 * (m.frm + addr / 64 - m.va)) (by omega) (by omega), wrap_in (by omega) (by omega)]
      congr 1
      have : m.frm * 64 + (addr - m.va * 64) = 64 * (m.frm + addr / 64 - m.va) + addr % 64 := by omega
      simp only [this, beq_self_eq_true]
    · have hb : byteL (insL (l.map S31.m) m) addr 0 = byteL (l.map S31.m) addr 0 := by
        unfold byteL
        rw [insL_find_no (decide_eq_false hin)]
      have hj : ∀ (x11 : List S41) (x12 : Int), (x11, x12) = spanR l addr 1 0 → gatehouselaw05_SpaceBack.j1 (K + 1) l addr x11 x12 (addr / 64) false m.va m.pages a2 a3 a4 a5 a6 = some true := by
        intro x11 x12 hx
        rw [gatehouselaw05_SpaceBack.j1, if_neg (by simp), find_f l (by omega) addr 0 ha K (by omega), ← hx]
        simp only [Option.bind_some]
        have hx11 : x11.length ≤ 1 := by
          have : x11 = ((byteL (l.map S31.m) addr 0).1.getD []).map ofPc := by rw [hs0] at hx; exact (Prod.mk.inj hx).1
          rw [this, List.length_map]
          unfold byteL
          split
          · cases (l.map S31.m).find? (inside (addr / 64)) with
            | none => simp
            | some x =>
              simp only
              split <;> simp
          · simp
        rw [if_pos trivial, samePieces_f x11 x11 (by omega) K (by omega)]
        simp
      rw [hb]
      have hx := hs0.symm
      by_cases h1 : addr / 64 ≥ m.va
      · rw [if_pos h1, decide_eq_false (by omega)]
        exact hj _ _ hx
      · rw [if_neg h1]
        exact hj _ _ hx
  · rw [if_neg h, put_no h]
    rfl
end Go.Proofs.YtcgmlcblcioaeaaP
