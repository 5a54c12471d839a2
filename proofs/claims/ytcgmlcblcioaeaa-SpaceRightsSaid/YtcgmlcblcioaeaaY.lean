import Derived.Test.YtcgmlcblcioaeaaX
namespace Go.Proofs.Ytcgmlcblcioaeaa
open Go.RowKit

/-! The plain law: what may be written or run may be read. -/
def Mp.bare (m : Mp) : Mp := { m with wri := false, run := false }
theorem rightFrom_bare (l : List Mp) (f : Int) : rightFrom f (l.map Mp.bare) = rightFrom f l := by
  induction l generalizing f with
  | nil => rfl
  | cons a l ih =>
    simp only [List.map_cons, rightFrom, ih]
    rfl
theorem rightL_bare (l : List Mp) : rightL (l.map Mp.bare) = rightL l := by unfold rightL; rw [rightFrom_bare, List.length_map]
theorem atI_bare (l : List Mp) (p : Int) : atI (l.map Mp.bare) p = atI l p := by
  unfold atI
  rw [List.takeWhile_map, List.length_map]
  rfl
theorem spanFrom_bare (l : List Mp) (a n : Int) : spanFrom 0 (l.map Mp.bare) a n = spanFrom 0 l a n := by
  induction l generalizing a n with
  | nil => rfl
  | cons m l ih =>
    simp only [List.map_cons, spanFrom, ih]
    rfl
theorem spanFrom_none (l : List Mp) (k a n : Int) (hk : k = 1 ∨ k = 2) : spanFrom k (l.map Mp.bare) a n = none := by
  cases l with
  | nil => rfl
  | cons m l =>
    simp only [List.map_cons, spanFrom]
    split
    · rfl
    · have : m.bare.may k = false := by
        rcases hk with rfl | rfl <;> rfl
      rw [if_pos this]
theorem spanFrom_read (l : List Mp) (k a n : Int) (ps : List Pc) (h : spanFrom k l a n = some ps) : spanFrom 0 l a n = some ps := by
  induction l generalizing a n ps with
  | nil => cases h
  | cons m l ih =>
    have hm0 : ¬ m.may 0 = false := by unfold Mp.may; simp
    simp only [spanFrom] at h ⊢
    split at h
    · cases h
    · rename_i h1
      split at h
      · cases h
      · rw [if_neg h1, if_neg hm0]
        split at h
        · rename_i h3
          rw [if_pos h3]; exact h
        · rename_i h3
          rw [if_neg h3]
          cases hq : spanFrom k l (a + (m.pages * 64 - (a - m.va * 64))) (n - (m.pages * 64 - (a - m.va * 64))) with
          | none => rw [hq] at h; cases h
          | some qs =>
            rw [ih _ _ _ hq]
            rw [hq] at h
            exact h
theorem span_read (l : List Mp) (addr n k : Int) (hk : k = 1 ∨ k = 2) (h : (spanL l addr n k).2 = 0) : (spanL l addr n 0).2 = 0 ∧ (spanL l addr n 0).1 = (spanL l addr n k).1 := by
  by_cases h1 : rightL l = true ∧ 1 ≤ n ∧ n ≤ 4096
  · obtain ⟨a1, a2, a3⟩ := h1
    have e : ∀ q : Int, 0 ≤ q → q ≤ 2 → spanL l addr n q = if addr < 4294967296 then (match spanFrom q (l.drop (atI l (addr / 64))) addr n with | none => (none, (9 : Int)) | some ps => (some ps, 0)) else (none, 9) := fun q h0 h2 => by
      unfold spanL; rw [if_pos ⟨a1, a2, a3, h0, h2⟩]; rfl
    rw [e k (by omega) (by omega)] at h ⊢
    rw [e 0 (by omega) (by omega)]
    by_cases h2 : addr < 4294967296
    · rw [if_pos h2] at h ⊢
      rw [if_pos h2]
      cases hq : spanFrom k (l.drop (atI l (addr / 64))) addr n with
      | none => rw [hq] at h; cases h
      | some ps =>
        rw [spanFrom_read _ _ _ _ _ hq]
        exact ⟨rfl, rfl⟩
    · rw [if_neg h2] at h
      cases h
  · unfold spanL at h
    rw [if_neg (fun h' => h1 ⟨h'.1, h'.2.1, h'.2.2.1⟩)] at h
    cases h
theorem span_bare (l : List Mp) (addr n : Int) : spanL (l.map Mp.bare) addr n 0 = spanL l addr n 0 := by
  unfold spanL
  rw [rightL_bare, atI_bare, ← List.map_drop, spanFrom_bare]
theorem span_bare_none (l : List Mp) (addr n k : Int) (hk : k = 1 ∨ k = 2) : ¬ (spanL (l.map Mp.bare) addr n k).2 = 0 := by
  unfold spanL
  rw [← List.map_drop, spanFrom_none _ _ _ _ hk]
  split
  · split
    · simp
    · simp
  · simp

theorem src_mp (W : World) (m : Mp) (g : Nat) (t : TypeId) (hg : g = W.heap.size) (v : Array Value) (hv : v = m.list.toArray) : Src Try.prog 7 22 (.slice (some ⟨g, 0, none⟩) 1 1) 1 m.list (W.alloc (.cells v t)) := by
  subst hg hv
  have := (BoxAt.new W m t).row.src
  have e : mcells [m] = m.list := by simp [mcells]
  rw [e] at this
  exact this

set_option maxRecDepth 100000 in
set_option maxHeartbeats 1000000 in
theorem rights_any (v : Value) (l : List Mp) (addr n : Int) (w : World) (hl : RowsAt w v l) (ha : 0 ≤ addr) (hn : in64 n) (hlen : l.length * 48 ≤ 140737488351232) :
    Calls Try.prog 3 #[v, .int .u64 addr, .int .i64 n] w fun e w' => e = .returned (.bool true) ∧ Below w.heap.size w w' := by
  have hn' := hn
  unfold in64 at hn'
  obtain ⟨oa, cap, rfl⟩ : ∃ oa cap, v = .slice oa l.length cap := by
    obtain ⟨oa, cap, _, _, rfl, _⟩ := hl
    exact ⟨oa, cap, rfl⟩
  have hk1 := span_read l addr n 1 (Or.inl rfl)
  have hk2 := span_read l addr n 2 (Or.inr rfl)
  have HK := Lib.hid (And.intro hk1 hk2)
  clear hk1 hk2
  go_enter Try.func3, Try.ntmps3
  go_wp2_with fail
  refine (lives_any w).mono ?_
  rintro e w1 ⟨rfl, hb1⟩
  go_wp2_with fail
  refine (span_any _ l addr n 0 w1 (hl.below hb1) ha hn (by unfold in64; omega)).mono ?_
  rintro e w2 ⟨vp, rfl, hp, hb2⟩
  have hb := below_through hb1 hb2
  have hpp := PcsAt.of_own hp
  clear hp hb1 hb2
  generalize hE : (spanL l addr n 0).2 = E at *
  have HE := Lib.hid hE
  clear hE
  obtain ⟨w20, hw20⟩ : ∃ x : World, x = w2 := ⟨_, rfl⟩
  go_wp2
  go_loopw [9] (fun i wr => ∃ (k : Nat), i = .int .i64 k ∧ 1 ≤ k ∧ k ≤ 3 ∧ Below w2.heap.size w2 wr) (fun i _ => (3 - (intOf i).toNat))
  case atStart => exact ⟨1, rfl, by omega, by omega, Below.refl _ _⟩
  case round =>
    obtain ⟨k, rfl, hk1, hk3, hbel⟩ := hrel
    by_cases hlt : k < 3
    · go_wp2_with fail
      refine (span_any _ l addr n k wr (hl.below (below_through hb hbel)) ha hn (by unfold in64; omega)).mono ?_
      rintro e w3 ⟨vq, rfl, hq, hb3⟩
      have hbel3 := below_through hbel hb3
      by_cases hok : (spanL l addr n k).2 = 0
      · have hres : E = 0 ∧ (spanL l addr n 0).1 = (spanL l addr n k).1 := by
          have : (k : Int) = 1 ∨ (k : Int) = 2 := by omega
          rcases this with h | h
          · rw [h] at hok ⊢; exact HK.out.1 hok
          · rw [h] at hok ⊢; exact HK.out.2 hok
        obtain ⟨hE0, hsame⟩ := hres
        subst hE0
        rw [hok]
        have hqq := PcsAt.of_own hq
        rw [← hsame] at hqq
        clear hq hok hsame
        go_wp2_with fail
        refine (samePieces_any _ _ _ _ w3 (hpp.below hbel3) hqq).mono ?_
        rintro e w4 ⟨rfl, hb4⟩
        have hbel4 := below_through hbel3 hb4
        clear hqq hb3 hb4 hbel hbel3
        simp only [decide_true]
        go_wp2
        go_roundw
        case rel => exact ⟨k + 1, by go_num, by omega, by omega, hbel4⟩
        case measure => simp [intOf]; omega
      · generalize (spanL l addr n k).2 = F at hok
        clear hq
        go_wp2
        go_roundw
        case rel => exact ⟨k + 1, by go_num, by omega, by omega, hbel3⟩
        case measure => simp [intOf]; omega
    · have hb0 := below_through hb hbel
      have hpr := hpp.below hbel
      clear hpp hb hbel HK hw20
      have HP := Lib.hid hpr
      clear hpr
      have hl2 := hl.below hb0
      have HL := Lib.hid hl2
      obtain ⟨_, _, b, off, hv, h1, h2, h3, h4⟩ := hl2
      cases hv
      have H3 := Lib.hid h3
      have H4 := Lib.hid h4
      clear h3 h4 hl
      unfold maxLen at h2
      obtain ⟨i0, hi, hz0, hz1, hz2⟩ := info_parts info31
      have HI := Lib.hid (And.intro hi (And.intro hz0 (And.intro hz1 hz2)))
      clear hi hz0 hz1 hz2
      obtain ⟨w3, rfl⟩ : ∃ x : World, x = wr := ⟨_, rfl⟩
      go_wp2
      go_loopw [12, 56] (fun vb i wr => ∃ (k : Nat), i = .int .i64 k ∧ k ≤ l.length ∧ Own wr w3.heap.size 31 7 vb k (mcells ((l.map Mp.bare).take k)) ∧ Below w3.heap.size w3 wr) (fun _ i _ => (l.length - (intOf i).toNat))
      case atStart => exact ⟨0, rfl, by omega, Own.nil _ _ _ _, Below.refl _ _⟩
      case round =>
        obtain ⟨j, rfl, hj, hown, hbel⟩ := hrel
        by_cases hjl : j < l.length
        · obtain ⟨rfl, hbb⟩ := H3.out (by omega)
          obtain ⟨c0, c1, c2, c3, c4, c5, c6⟩ := RowsAt.cells H4 hbel hbb j hjl
          have he : (l.map Mp.bare).take (j + 1) = (l.map Mp.bare).take j ++ [(l[j]'hjl).bare] := by
            rw [List.take_succ_eq_append_getElem (by simpa using hjl)]
            simp
          have HM := Lib.hid he
          clear he
          generalize (l[j]'hjl) = m at *
          go_wp2_with (at_builtin; go_loud (refine wpList_append_Own rfl (.tmp 62) (.tmp 64) 22 22 rfl w3.heap.size 31 i0 (.agg #[.int .i64 0, .int .i64 0, .int .i64 0, .int .i64 0, .int .i64 0, .bool false, .bool false]) 7 48 Try.underlying22 HI.out.1 HI.out.2.1 HI.out.2.2.1 HI.out.2.2.2 rfl _ _ _ rfl (hown.below (((Below.refl _ _).alloc (Nat.le_refl _) _).alloc (by simp) _)) _ 1 m.bare.list rfl (by exact src_mp (wr.alloc _) m.bare (wr.heap.size + 1) 31 (by simp) _ rfl) (by unfold maxLen; omega) (by omega) (by have := hbel.size; simp; omega) ?_))
          intro v' w5 hown5 hg5
          have hbel5 : Below w3.heap.size w3 w5 := ((hbel.alloc hbel.size _).alloc (by have := hbel.size; simp; omega) _).grown hg5 (by have := hbel.size; simp; omega) (fun q hq => (hown.block q hq).1)
          have hown6 : Own w5 w3.heap.size 31 7 v' (j + 1) (mcells ((l.map Mp.bare).take (j + 1))) := by
            rw [HM.out, mcells_append]
            have e : mcells [m.bare] = m.bare.list := by simp [mcells]
            rw [e]
            exact hown5
          clear hg5 hown hbel hown5 c0 c1 c2 c3 c4 c5 c6
          go_wp2
          go_roundw
          case rel => exact ⟨j + 1, by go_num, by omega, hown6, hbel5⟩
          case measure => simp [intOf]; omega
        · obtain rfl : j = l.length := by omega
          have hfull : (l.map Mp.bare).take l.length = l.map Mp.bare := List.take_of_length_le (by simp)
          rw [hfull] at hown
          have hrow : RowsAt wr u12 (l.map Mp.bare) := RowsAt.of_own (by rw [List.length_map]; exact hown)
          have hp4 := HP.out.below hbel
          have hb4 := below_through hb0 hbel
          clear hfull hown hbel hb0
          go_wp2_with fail
          refine (span_any _ _ addr n 0 _ hrow ha hn (by unfold in64; omega)).mono ?_
          rintro e w5 ⟨v5, rfl, hq5, hb5⟩
          rw [span_bare, HE.out]
          rw [span_bare] at hq5
          have hqq5 := PcsAt.of_own hq5
          have hp5 := hp4.below hb5
          have hr5 := hrow.below hb5
          have hbb5 := below_through hb4 hb5
          clear hq5 hrow hp4 hb5 hb4
          go_wp2_with fail
          refine (span_any _ _ addr n 1 _ hr5 ha hn (by unfold in64; omega)).mono ?_
          rintro e w6 ⟨v6, rfl, _, hb6⟩
          have hn1 := span_bare_none l addr n 1 (Or.inl rfl)
          generalize (spanL (l.map Mp.bare) addr n 1).2 = F1 at hn1
          have hqq6 := hqq5.below hb6
          have hp6 := hp5.below hb6
          have hr6 := hr5.below hb6
          have hbb6 := below_through hbb5 hb6
          clear hqq5 hp5 hr5 hbb5 hb6
          go_wp2_with fail
          refine (span_any _ _ addr n 2 _ hr6 ha hn (by unfold in64; omega)).mono ?_
          rintro e w7 ⟨v7, rfl, _, hb7⟩
          have hn2 := span_bare_none l addr n 2 (Or.inr rfl)
          generalize (spanL (l.map Mp.bare) addr n 2).2 = F2 at hn2
          have hqq7 := hqq6.below hb7
          have hp7 := hp6.below hb7
          have hbb7 := below_through hbb6 hb7
          clear hqq6 hp6 hr6 hbb6 hb7
          go_wp2_with fail
          refine (samePieces_any _ _ _ _ _ hp7 hqq7).mono ?_
          rintro e w8 ⟨rfl, hb8⟩
          simp only [decide_true]
          have e : (F1 != 0 && F2 != 0) = true := by simp [hn1, hn2]
          go_wp2
          go_ret
          exact ⟨rfl, below_through hbb7 hb8⟩
end Go.Proofs.Ytcgmlcblcioaeaa
