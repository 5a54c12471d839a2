import Derived.Test.YtcgmlcblcioaeaaS
namespace Go.Proofs.Ytcgmlcblcioaeaa
open Go.RowKit

structure Pc where
  inn : Int
  num : Int
  off : Int
  n : Int
  deriving DecidableEq
def Pc.cells (p : Pc) : List Value := [.int .i64 p.inn, .int .i64 p.num, .int .i64 p.off, .int .i64 p.n]
def pcells (l : List Pc) : List Value := l.flatMap Pc.cells
def Mp.may (m : Mp) (need : Int) : Bool := if need = 1 then m.wri else if need = 2 then m.run else true
def spanFrom (need : Int) : List Mp → Int → Int → Option (List Pc)
  | [], _, _ => none
  | m :: ms, a, n =>
    if a < m.va * 64 then none else if m.may need = false then none else
    if n ≤ m.pages * 64 - (a - m.va * 64) then some [⟨m.inn, m.num, m.frm * 64 + (a - m.va * 64), n⟩]
    else (spanFrom need ms (a + (m.pages * 64 - (a - m.va * 64))) (n - (m.pages * 64 - (a - m.va * 64)))).map (⟨m.inn, m.num, m.frm * 64 + (a - m.va * 64), m.pages * 64 - (a - m.va * 64)⟩ :: ·)
def spanL (l : List Mp) (addr n need : Int) : Option (List Pc) × Int :=
  if rightL l = true ∧ 1 ≤ n ∧ n ≤ 4096 ∧ 0 ≤ need ∧ need ≤ 2 then
    if addr < 4294967296 then
      match spanFrom need (l.drop (atI l (addr / 64))) addr n with
      | none => (none, 9)
      | some ps => (some ps, 0)
    else (none, 9)
  else (none, 1)

theorem info41 : (Try.prog.info? 41).map (fun i => (i.zero, i.size, i.bytes)) = some (some (.agg #[.int .i64 0, .int .i64 0, .int .i64 0, .int .i64 0]), 4, 32) := by kernel_rfl
theorem info31 : (Try.prog.info? 31).map (fun i => (i.zero, i.size, i.bytes)) = some (some (.agg #[.int .i64 0, .int .i64 0, .int .i64 0, .int .i64 0, .int .i64 0, .bool false, .bool false]), 7, 48) := by kernel_rfl
theorem info_parts {t : Nat} {z : Value} {s b : Nat} (h : (Try.prog.info? t).map (fun i => (i.zero, i.size, i.bytes)) = some (some z, s, b)) : ∃ i, Try.prog.info? t = some i ∧ i.zero = some z ∧ i.size = s ∧ i.bytes = b := by
  cases hq : Try.prog.info? t with
  | none => rw [hq] at h; cases h
  | some i =>
    rw [hq] at h
    simp only [Option.map_some, Option.some.injEq, Prod.mk.injEq] at h
    exact ⟨i, rfl, h.1, h.2.1, h.2.2⟩
theorem src_pc (W : World) (p : Pc) (t : TypeId) : Src Try.prog 4 25 (.slice (some ⟨W.heap.size, 0, none⟩) 1 1) 1 p.cells (W.alloc (.cells p.cells.toArray t)) :=
  Src.ofSlice _ Try.underlying25 ⟨W.heap.size, 0, none⟩ 1 1 _ rfl (fun j u hj => by
    match j, hj with
    | 0, hj => simp [Pc.cells] at hj; subst hj; simp [Addr.add, Pc.cells]
    | 1, hj => simp [Pc.cells] at hj; subst hj; simp [Addr.add, Pc.cells]
    | 2, hj => simp [Pc.cells] at hj; subst hj; simp [Addr.add, Pc.cells]
    | 3, hj => simp [Pc.cells] at hj; subst hj; simp [Addr.add, Pc.cells]) (fun u hu => by simp [Pc.cells] at hu; rcases hu with rfl | rfl | rfl | rfl <;> rfl)
theorem src_pc1 (W : World) (o : Obj) (p : Pc) (t : TypeId) : Src Try.prog 4 25 (.slice (some ⟨W.heap.size + 1, 0, none⟩) 1 1) 1 p.cells ((W.alloc o).alloc (.cells p.cells.toArray t)) := by
  have := src_pc (W.alloc o) p t
  rwa [show (W.alloc o).heap.size = W.heap.size + 1 by simp] at this
theorem pcells_snoc (ps : List Pc) (p : Pc) : pcells (ps ++ [p]) = pcells ps ++ p.cells := by simp [pcells]

theorem takeWhile_stop {l : List Mp} {p : Int} {m : Mp} (h : l[atI l p]? = some m) : p < m.va + m.pages := by
  unfold atI at h
  induction l with
  | nil => simp at h
  | cons a l ih =>
    by_cases hq : a.va + a.pages ≤ p
    · rw [List.takeWhile_cons_of_pos (by simpa using hq)] at h
      exact ih (by simpa using h)
    · rw [List.takeWhile_cons_of_neg (by simpa using hq)] at h
      simp at h
      subst h
      omega
set_option maxRecDepth 100000 in
set_option maxHeartbeats 1000000 in
theorem span_any (v : Value) (l : List Mp) (addr n need : Int) (w : World) (hl : RowsAt w v l) (ha : 0 ≤ addr) (hn : in64 n) (hd : in64 need) :
    Calls Try.prog 10 #[v, .int .u64 addr, .int .i64 n, .int .i64 need] w fun e w' => ∃ out, e = .returned (.tuple #[out, .int .i64 (spanL l addr n need).2]) ∧
      Own w' w.heap.size 41 4 out ((spanL l addr n need).1.getD []).length (pcells ((spanL l addr n need).1.getD [])) ∧ Below w.heap.size w w' := by
  unfold in64 at hn hd
  go_enter Try.func10, Try.ntmps10
  go_wp2_with fail
  refine (Right_any v l w hl).mono ?_
  rintro e w1 ⟨rfl, hb1⟩
  cases hr : rightL l
  · go_wp2
    go_ret2
    have e : spanL l addr n need = (none, 1) := by unfold spanL; rw [if_neg (by rintro ⟨a1, a2, a3, a4, a5⟩; rw [hr] at a1; cases a1)]
    rw [e]
    exact ⟨_, rfl, Own.nil _ _ _ _, hb1⟩
  · by_cases h1 : 1 ≤ n
    · by_cases h2 : n ≤ 4096
      · by_cases h3 : 0 ≤ need
        · by_cases h4 : need ≤ 2
          · by_cases h5 : addr < 4294967296
            · go_wp2_with fail
              refine (at_any v l (addr / 64) w1 (hl.below hb1) hr (by omega)).mono ?_
              rintro e w2 ⟨rfl, hb2⟩
              have hb := below_through hb1 hb2
              have e1 : spanL l addr n need = match spanFrom need (l.drop (atI l (addr / 64))) addr n with | none => (none, 9) | some ps => (some ps, 0) := by
                unfold spanL; rw [if_pos ⟨hr, h1, h2, h3, h4⟩, if_pos h5]
              have HE := Lib.hid e1
              have hak : atI l (addr / 64) ≤ l.length := by
                unfold atI
                exact (List.takeWhile_prefix _).length_le
              have hpos : ∀ (m : Mp), l[atI l (addr / 64)]? = some m → addr < (m.va + m.pages) * 64 := by
                intro m hm
                have := takeWhile_stop hm
                omega
              obtain ⟨hf, hlen⟩ := rightL_from hr
              have HG := Lib.hid (right_good hf)
              have HO := Lib.hid (right_order hf)
              have HP := Lib.hid hpos
              clear e1 hb1 hb2 hf hpos
              obtain ⟨oa, cap, b, off, rfl, hc1, hc2, h3', h4'⟩ := hl
              have H3 := Lib.hid h3'
              have H4 := Lib.hid h4'
              clear h3' h4'
              generalize hA : atI l (addr / 64) = A at *
              have HA := Lib.hid hA
              clear hA
              unfold maxLen at hc2
              obtain ⟨i0, hi, hz0, hz1, hz2⟩ := info_parts info41
              have HI := Lib.hid (And.intro hi (And.intro hz0 (And.intro hz1 hz2)))
              clear hi hz0 hz1 hz2
              obtain ⟨W2, hW2⟩ : ∃ W2 : World, W2 = w2 := ⟨_, rfl⟩
              go_wp2
              go_loopw [2, 10, 11, 12] (fun vn out vf vi wr => ∃ (k : Nat) (n' fr : Int) (ps : List Pc), vi = .int .i64 k ∧ vn = .int .i64 n' ∧ vf = .int .i64 fr ∧ Own wr w.heap.size 41 4 out ps.length (pcells ps) ∧ Below w.heap.size w wr ∧
                k ≤ l.length ∧ ps.length ≤ k ∧ 0 ≤ fr ∧ fr ≤ 4294971392 ∧ 0 ≤ n' ∧ n' ≤ 4096 ∧ Hid (0 < n' → ∀ m, l[k]? = some m → fr < (m.va + m.pages) * 64) ∧
                Hid (spanFrom need (l.drop A) addr n = if n' ≤ 0 then some ps else (spanFrom need (l.drop k) fr n').map (ps ++ ·))) (fun _ _ _ i _ => (l.length - (intOf i).toNat))
              case atStart => 
                refine ⟨A, n, addr, [], rfl, rfl, rfl, Own.nil _ _ _ _, hb, hak, by simp, ha, by omega, by omega, h2, fun _ => HP.out, ?_⟩
                show _ = _
                rw [if_neg (by omega)]
                simp
              case round =>
                obtain ⟨k, n', fr, ps, rfl, rfl, rfl, hown, hbel, hk, hpk, hf0, hf1, hn0, hn1, hpos, hsp⟩ := hrel
                by_cases hgo : 0 < n'
                · by_cases hlt : k < l.length
                  · obtain ⟨rfl, hb0⟩ := H3.out (by omega)
                    obtain ⟨c0, c1, c2, c3, c4, c5, c6⟩ := RowsAt.cells H4 hbel hb0 k hlt
                    have hgd := good_out (HG.out _ (List.getElem_mem hlt))
                    have hps := hpos.out hgo _ (List.getElem?_eq_getElem hlt)
                    have hd : l.drop k = (l[k]'hlt) :: l.drop (k + 1) := List.drop_eq_getElem_cons hlt
                    have hnx : ∀ m', l[k + 1]? = some m' → (l[k]'hlt).va + (l[k]'hlt).pages ≤ m'.va ∧ m'.good = true := fun m' hm' => by
                      obtain ⟨hk1, rfl⟩ := List.getElem?_eq_some_iff.1 hm'
                      exact ⟨HO.out k (k + 1) hlt hk1 (by omega), HG.out _ (List.getElem_mem hk1)⟩
                    have HN := Lib.hid hnx
                    clear hnx
                    have hs1 : spanFrom need (l.drop A) addr n = (spanFrom need ((l[k]'hlt) :: l.drop (k + 1)) fr n').map (ps ++ ·) := by rw [hsp, if_neg (by omega), hd]
                    clear hd
                    have HS := Lib.hid hs1
                    clear hs1
                    have HC := Lib.hid (fun (w' : World) (hb' : Below w.heap.size w w') => RowsAt.cells H4 hb' hb0 k hlt)
                    generalize (l[k]'hlt) = m at *
                    obtain ⟨g1, g2, g3, g4, g5, g6, _, _⟩ := hgd
                    by_cases hva : fr < m.va * 64
                    · have hnone : spanFrom need (l.drop A) addr n = none := by rw [HS.out, spanFrom, if_pos hva]; rfl
                      have HNO := Lib.hid hnone
                      clear hnone
                      go_wp2
                      go_ret2
                      have e : spanL l addr n need = (none, 9) := by rw [HE.out, HNO.out]
                      rw [e]
                      exact ⟨_, rfl, Own.nil _ _ _ _, hbel⟩
                    · go_wp2_with fail
                      refine (may_any m need wr).mono ?_
                      rintro e w3 ⟨rfl, hb3⟩
                      have hmy : (if need = 1 then m.wri else if need = 2 then m.run else true) = m.may need := rfl
                      rw [hmy]
                      clear hmy
                      have hbel3 := below_through hbel hb3
                      cases hmay : m.may need
                      · have hnone : spanFrom need (l.drop A) addr n = none := by rw [HS.out, spanFrom, if_neg (show ¬ fr < m.va * 64 by omega), if_pos hmay]; rfl
                        have HNO := Lib.hid hnone
                        clear hnone
                        go_wp2
                        go_ret2
                        have e : spanL l addr n need = (none, 9) := by rw [HE.out, HNO.out]
                        rw [e]
                        exact ⟨_, rfl, Own.nil _ _ _ _, hbel3⟩
                      · obtain ⟨c0, c1, c2, c3, c4, c5, c6⟩ := HC.out w3 hbel3
                        by_cases hmin : n' ≤ m.pages * 64 - (fr - m.va * 64)
                        · go_wp2_with (at_builtin; refine wpList_append_Own rfl (.tmp 86) (.tmp 98) 25 25 rfl w.heap.size 41 i0 (.agg #[.int .i64 0, .int .i64 0, .int .i64 0, .int .i64 0]) 4 32 Try.underlying25 HI.out.1 HI.out.2.1 HI.out.2.2.1 HI.out.2.2.2 rfl _ _ _ rfl ((hown.below hb3).below (((Below.refl _ _).alloc (Nat.le_refl _) _).alloc (by simp) _)) _ 1 (Pc.cells ⟨m.inn, m.num, m.frm * 64 + (fr - m.va * 64), n'⟩) rfl (by exact src_pc1 w3 _ ⟨m.inn, m.num, m.frm * 64 + (fr - m.va * 64), n'⟩ 41) (by unfold maxLen; omega) (by omega) (by have := hbel3.size; simp; omega) ?_)
                          intro v' w5 hown5 hg5
                          have hbel5 : Below w.heap.size w w5 := ((hbel3.alloc hbel3.size _).alloc (by have := hbel3.size; simp; omega) _).grown hg5 (by have := hbel3.size; simp; omega) (fun q hq => (hown.block q hq).1)
                          rw [← pcells_snoc] at hown5
                          clear hg5 hown hbel hb3 c0 c1 c2 c3 c4 c5 c6
                          have HC0 := HC
                          clear HC
                          go_wp2
                          go_roundw
                          case rel =>
                            refine ⟨k + 1, 0, fr + n', ps ++ [⟨m.inn, m.num, m.frm * 64 + (fr - m.va * 64), n'⟩], by go_num, by go_num, rfl, by simpa using hown5, hbel5, by omega, by simp; omega, by omega, by omega, by omega, by omega, fun h => absurd h (by omega), ?_⟩
                            show _ = _
                            rw [if_pos (by omega), HS.out, spanFrom, if_neg (show ¬ fr < m.va * 64 by omega), if_neg (by rw [hmay]; simp), if_pos hmin]
                            rfl
                          case measure => simp [intOf]; omega
                        · go_wp2_with (at_builtin; refine wpList_append_Own rfl (.tmp 86) (.tmp 98) 25 25 rfl w.heap.size 41 i0 (.agg #[.int .i64 0, .int .i64 0, .int .i64 0, .int .i64 0]) 4 32 Try.underlying25 HI.out.1 HI.out.2.1 HI.out.2.2.1 HI.out.2.2.2 rfl _ _ _ rfl ((hown.below hb3).below (((Below.refl _ _).alloc (Nat.le_refl _) _).alloc (by simp) _)) _ 1 (Pc.cells ⟨m.inn, m.num, m.frm * 64 + (fr - m.va * 64), m.pages * 64 - (fr - m.va * 64)⟩) rfl (by exact src_pc1 w3 _ ⟨m.inn, m.num, m.frm * 64 + (fr - m.va * 64), m.pages * 64 - (fr - m.va * 64)⟩ 41) (by unfold maxLen; omega) (by omega) (by have := hbel3.size; simp; omega) ?_)
                          intro v' w5 hown5 hg5
                          have hbel5 : Below w.heap.size w w5 := ((hbel3.alloc hbel3.size _).alloc (by have := hbel3.size; simp; omega) _).grown hg5 (by have := hbel3.size; simp; omega) (fun q hq => (hown.block q hq).1)
                          rw [← pcells_snoc] at hown5
                          clear hg5 hown hbel hb3 c0 c1 c2 c3 c4 c5 c6
                          have HC0 := HC
                          clear HC
                          go_wp2
                          go_roundw
                          case rel =>
                            refine ⟨k + 1, n' - (m.pages * 64 - (fr - m.va * 64)), fr + (m.pages * 64 - (fr - m.va * 64)), ps ++ [⟨m.inn, m.num, m.frm * 64 + (fr - m.va * 64), m.pages * 64 - (fr - m.va * 64)⟩], by go_num, rfl, rfl, by simpa using hown5, hbel5, by omega, by simp; omega, by omega, by omega, by omega, by omega, fun h m' hm' => ?_, ?_⟩
                            · obtain ⟨q1, q2⟩ := HN.out m' hm'
                              have := good_out q2
                              omega
                            show _ = _
                            rw [if_neg (by omega), HS.out, spanFrom, if_neg (show ¬ fr < m.va * 64 by omega), if_neg (by rw [hmay]; simp), if_neg (show ¬ n' ≤ m.pages * 64 - (fr - m.va * 64) by omega), Option.map_map]
                            congr 1
                            funext x
                            simp
                          case measure => simp [intOf]; omega
                  · have hnone : spanFrom need (l.drop A) addr n = none := by rw [hsp, if_neg (by omega), List.drop_eq_nil_of_le (by omega), spanFrom]; rfl
                    have HNO := Lib.hid hnone
                    clear hnone
                    go_wp2
                    go_ret2
                    have e : spanL l addr n need = (none, 9) := by rw [HE.out, HNO.out]
                    rw [e]
                    exact ⟨_, rfl, Own.nil _ _ _ _, hbel⟩
                · have hs1 : spanFrom need (l.drop A) addr n = some ps := by rw [hsp, if_pos (by omega)]
                  have HS := Lib.hid hs1
                  clear hs1
                  go_wp2
                  go_ret2
                  have e : spanL l addr n need = (some ps, 0) := by rw [HE.out, HS.out]
                  rw [e]
                  exact ⟨_, rfl, hown, hbel⟩
            · go_wp2
              go_ret2
              have e : spanL l addr n need = (none, 9) := by unfold spanL; rw [if_pos ⟨hr, h1, h2, h3, h4⟩, if_neg (by omega)]
              rw [e]
              exact ⟨_, rfl, Own.nil _ _ _ _, hb1⟩
          · go_wp2
            go_ret2
            have e : spanL l addr n need = (none, 1) := by unfold spanL; rw [if_neg (by rintro ⟨a1, a2, a3, a4, a5⟩; omega)]
            rw [e]
            exact ⟨_, rfl, Own.nil _ _ _ _, hb1⟩
        · go_wp2
          go_ret2
          have e : spanL l addr n need = (none, 1) := by unfold spanL; rw [if_neg (by rintro ⟨a1, a2, a3, a4, a5⟩; omega)]
          rw [e]
          exact ⟨_, rfl, Own.nil _ _ _ _, hb1⟩
      · go_wp2
        go_ret2
        have e : spanL l addr n need = (none, 1) := by unfold spanL; rw [if_neg (by rintro ⟨a1, a2, a3, a4, a5⟩; omega)]
        rw [e]
        exact ⟨_, rfl, Own.nil _ _ _ _, hb1⟩
    · go_wp2
      go_ret2
      have e : spanL l addr n need = (none, 1) := by unfold spanL; rw [if_neg (by rintro ⟨a1, a2, a3, a4, a5⟩; omega)]
      rw [e]
      exact ⟨_, rfl, Own.nil _ _ _ _, hb1⟩
end Go.Proofs.Ytcgmlcblcioaeaa
