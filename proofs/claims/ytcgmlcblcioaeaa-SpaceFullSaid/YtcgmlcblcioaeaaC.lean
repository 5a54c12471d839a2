import Derived.Test.YtcgmlcblcioaeaaB
namespace Go.Proofs.Ytcgmlcblcioaeaa
open Go.RowKit

theorem isNaN_any (n : Int) (w : World) : Calls Try.prog 38 #[.int .i64 n] w fun e w' => e = .returned (.bool false) ∧ w' = w := by
  go_enter Try.func38, Try.ntmps38
  go_wp2
  go_ret
  exact ⟨by simp, rfl⟩
def cmpI (x y : Int) : Int := if x < y then -1 else if y < x then 1 else 0
theorem compare_any (x y : Int) (w : World) : Calls Try.prog 31 #[.int .i64 x, .int .i64 y] w fun e w' => e = .returned (.int .i64 (cmpI x y)) ∧ w' = w := by
  go_enter Try.func31, Try.ntmps31
  by_cases h1 : x < y
  · go_wp2
    go_ret
    exact ⟨by simp [cmpI, h1], rfl⟩
  · by_cases h2 : y < x
    · go_wp2
      go_ret
      exact ⟨by simp [cmpI, h1, h2], rfl⟩
    · have e : cmpI x y = 0 := by unfold cmpI; rw [if_neg h1, if_neg h2]
      go_wp2
      go_ret
      exact ⟨rfl, rfl⟩
theorem at1_any (m : Mp) (p : Int) (w : World) (hm : m.good = true) (hp : -1000000000 ≤ p ∧ p ≤ 1000000000) : Calls Try.prog 33 #[m.val, .int .i64 p] w fun e w' => e = .returned (.int .i64 (cmpI (m.va + m.pages) (p + 1))) ∧ Below w.heap.size w w' := by
  obtain ⟨g1, g2, g3, g4, _⟩ := good_out hm
  unfold Mp.val
  go_enter Try.func33, Try.ntmps33
  go_wp2_with fail
  refine (compare_any _ _ _).mono ?_
  rintro e w' ⟨rfl, rfl⟩
  go_wp2
  go_ret
  exact ⟨rfl, (Below.refl _ _).alloc (Nat.le_refl _) _⟩
theorem cut1_any (m : Mp) (p : Int) (w : World) : Calls Try.prog 30 #[m.val, .int .i64 p] w fun e w' => e = .returned (.int .i64 (cmpI m.va p)) ∧ Below w.heap.size w w' := by
  unfold Mp.val
  go_enter Try.func30, Try.ntmps30
  go_wp2_with fail
  refine (compare_any _ _ _).mono ?_
  rintro e w' ⟨rfl, rfl⟩
  go_wp2
  go_ret
  exact ⟨rfl, (Below.refl _ _).alloc (Nat.le_refl _) _⟩

/-- One mapping of a row, read. -/
theorem RowsAt.cells {w wr : World} {l : List Mp} {b off : Nat} (H4 : Hid (∀ i (h : i < l.length) j, j < 7 → w.cell? ⟨b, off + i * 7 + j, none⟩ = some (l[i].cell j))) (hbel : Below w.heap.size w wr) (hb : b < w.heap.size) (k : Nat) (hk : k < l.length) :
    wr.cell? ⟨b, off + k * 7, none⟩ = some (.int .i64 (l[k]'hk).va) ∧ wr.cell? ⟨b, off + k * 7 + 1, none⟩ = some (.int .i64 (l[k]'hk).pages) ∧ wr.cell? ⟨b, off + k * 7 + 2, none⟩ = some (.int .i64 (l[k]'hk).inn) ∧
    wr.cell? ⟨b, off + k * 7 + 3, none⟩ = some (.int .i64 (l[k]'hk).num) ∧ wr.cell? ⟨b, off + k * 7 + 4, none⟩ = some (.int .i64 (l[k]'hk).frm) ∧ wr.cell? ⟨b, off + k * 7 + 5, none⟩ = some (.bool (l[k]'hk).wri) ∧ wr.cell? ⟨b, off + k * 7 + 6, none⟩ = some (.bool (l[k]'hk).run) := by
  have hc : ∀ j, j < 7 → wr.cell? ⟨b, off + k * 7 + j, none⟩ = some ((l[k]'hk).cell j) := fun j hj => by
    rw [hbel.cell (p := ⟨b, off + k * 7 + j, none⟩) hb]; exact H4.out k hk j hj
  exact ⟨hc 0 (by omega), hc 1 (by omega), hc 2 (by omega), hc 3 (by omega), hc 4 (by omega), hc 5 (by omega), hc 6 (by omega)⟩

set_option maxRecDepth 100000 in
set_option maxHeartbeats 1000000 in
theorem search_any (F : Nat) (c : Mp → Int) (v : Value) (l : List Mp) (p : Int) (w : World) (hl : RowsAt w v l) (hn : l.length ≤ 1000000)
    (he : ∀ args w, (callFunc F args).run Try.prog w = .ok (.enter F args) w)
    (hF : ∀ m ∈ l, ∀ w, Calls Try.prog F #[m.val, .int .i64 p] w fun e w' => e = .returned (.int .i64 (c m)) ∧ Below w.heap.size w w')
    (hm : ∀ i j (hi : i < l.length) (hj : j < l.length), i ≤ j → c (l[j]) < 0 → c (l[i]) < 0) :
    Calls Try.prog 29 #[v, .int .i64 p, .func (Fn.func F) #[] #[]] w fun e w' => ∃ i : Nat, i ≤ l.length ∧ (∀ q (h : q < l.length), q < i → c (l[q]) < 0) ∧ (∀ q (h : q < l.length), i ≤ q → 0 ≤ c (l[q])) ∧
      e = .returned (.tuple #[.int .i64 i, .bool (decide (∃ h : i < l.length, c (l[i]) = 0))]) ∧ Below w.heap.size w w' := by
  obtain ⟨oa, cap, b, off, rfl, h1, h2, h3, h4⟩ := hl
  have H3 := Lib.hid h3
  have H4 := Lib.hid h4
  have HF := Lib.hid hF
  have HM := Lib.hid hm
  clear h3 h4 hF hm
  unfold maxLen at h2
  go_enter Try.func29, Try.ntmps29
  go_wp2
  go_loopw [9, 10] (fun vi vj wr => ∃ (i j : Nat), vi = .int .i64 i ∧ vj = .int .i64 j ∧ i ≤ j ∧ j ≤ l.length ∧ Hid (∀ q (h : q < l.length), q < i → c (l[q]) < 0) ∧ Hid (∀ q (h : q < l.length), j ≤ q → 0 ≤ c (l[q])) ∧ Below w.heap.size w wr) (fun vi vj _ => ((intOf vj).toNat - (intOf vi).toNat))
  case atStart => exact ⟨0, l.length, rfl, rfl, by omega, by omega, fun q h h' => by omega, fun q h h' => by omega, Below.refl _ _⟩
  case round =>
    obtain ⟨i, j, rfl, rfl, hij, hj, hlo, hhi, hbel⟩ := hrel
    by_cases hlt : i < j
    · obtain ⟨rfl, hb⟩ := H3.out (by omega)
      obtain ⟨h, hh⟩ : ∃ h : Nat, h = (i + j) / 2 := ⟨_, rfl⟩
      have hhl : h < l.length := by omega
      obtain ⟨c0, c1, c2, c3, c4, c5, c6⟩ := RowsAt.cells H4 hbel hb h hhl
      have hmem : l[h] ∈ l := List.getElem_mem hhl
      have hcF := HF.out _ hmem
      have hcl : ∀ q (hq : q < l.length), q ≤ h → c (l[h]) < 0 → c (l[q]) < 0 := fun q hq hqh => HM.out q h hq hhl hqh
      have hcr : ∀ q (hq : q < l.length), h ≤ q → 0 ≤ c (l[h]) → 0 ≤ c (l[q]) := fun q hq hqh h0 => Int.not_lt.1 fun h' => absurd (HM.out h q hhl hq hqh h') (by omega)
      have HCL := Lib.hid hcl
      have HCR := Lib.hid hcr
      have HCF := Lib.hid hcF
      clear hcl hcr hcF
      generalize hm0 : (l[h]'hhl) = m at *
      have hh2 : ((i : Int) + j) / 2 = h := by omega
      have hih : i ≤ h := by omega
      have hhj : h < j := by omega
      clear hh
      go_wp2_with fail
      refine (HCF.out wr).mono ?_
      rintro e w1 ⟨rfl, hb1⟩
      have hbel1 := below_through hbel hb1
      clear hb1 c0 c1 c2 c3 c4 c5 c6
      by_cases hc : c m < 0
      · go_wp2
        go_roundw
        case rel =>
          refine ⟨h + 1, j, by go_num, rfl, by omega, hj, fun q hq hqi => HCL.out q hq (by omega) hc, hhi, hbel1⟩
        case measure => simp [intOf]; omega
      · go_wp2
        go_roundw
        case rel =>
          refine ⟨i, h, rfl, rfl, by omega, by omega, hlo, fun q hq hqi => HCR.out q hq hqi (by omega), hbel1⟩
        case measure => simp [intOf]; omega
    · obtain rfl : i = j := by omega
      by_cases hil : i < l.length
      · obtain ⟨rfl, hb⟩ := H3.out (by omega)
        obtain ⟨c0, c1, c2, c3, c4, c5, c6⟩ := RowsAt.cells H4 hbel hb i hil
        have hmem : l[i] ∈ l := List.getElem_mem hil
        have HCF := Lib.hid (HF.out _ hmem)
        have HE := Lib.hid (Eq.refl (l[i]'hil))
        generalize hm0 : (l[i]'hil) = m at c0 c1 c2 c3 c4 c5 c6 HCF
        have HM0 := Lib.hid hm0
        clear hm0
        go_wp2_with fail
        refine (HCF.out wr).mono ?_
        rintro e w1 ⟨rfl, hb1⟩
        have hbel1 := below_through hbel hb1
        clear hb1 c0 c1 c2 c3 c4 c5 c6
        go_wp2
        go_ret2
        refine ⟨i, by omega, hlo.out, hhi.out, ?_, hbel1⟩
        have e1 : (∃ h : i < l.length, c (l[i]) = 0) ↔ c m = 0 := ⟨fun ⟨_, h⟩ => by rw [← HM0.out]; exact h, fun h => ⟨hil, by rw [HM0.out]; exact h⟩⟩
        have e2 : decide (∃ h : i < l.length, c (l[i]) = 0) = (c m == 0) := by
          by_cases h0 : c m = 0
          · rw [decide_eq_true (e1.2 h0), h0]; rfl
          · rw [decide_eq_false (fun h => h0 (e1.1 h))]; simpa using h0
        rw [e2]
        rfl
      · go_wp2
        go_ret2
        refine ⟨i, by omega, hlo.out, hhi.out, ?_, hbel⟩
        rw [decide_eq_false (fun h => hil h.1)]
        rfl
end Go.Proofs.Ytcgmlcblcioaeaa
