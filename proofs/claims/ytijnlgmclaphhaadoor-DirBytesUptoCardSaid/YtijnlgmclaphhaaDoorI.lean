import Derived.Test.YtijnlgmclaphhaaDoorM
import Derived.Test.YtijnlgmclaphhaaDoorProg
import Derived.WalkSpells
import Derived.WalkLawsBesides
import Derived.Lib.Hide
import Derived.Laws.Entries
import Derived.Laws.Externs
import Derived.Deep.LoopGhost
import Derived.Deep.QuietTactic
import Derived.Deep.DeepCutAuto
import Derived.BigQuiet
import Derived.BigRegion
import Derived.Deep.RegionWith
import Derived.Deep.RegionLaw
set_option linter.unusedVariables false
set_option linter.unusedSimpArgs false
/-! slices.Clone, Insert (one element), Delete (one element) at elements of 3 cells. -/
namespace Go.Proofs.YtijnlgmclaphhaaDoor
open Go.RowKit

theorem info_parts {t : Nat} {z : Value} {s b : Nat} (h : (Tryd.prog.info? t).map (fun i => (i.zero, i.size, i.bytes)) = some (some z, s, b)) : ∃ i, Tryd.prog.info? t = some i ∧ i.zero = some z ∧ i.size = s ∧ i.bytes = b := by
  cases hq : Tryd.prog.info? t with
  | none => rw [hq] at h; cases h
  | some i =>
    rw [hq] at h
    simp only [Option.map_some, Option.some.injEq, Prod.mk.injEq] at h
    exact ⟨i, rfl, h.1, h.2.1, h.2.2⟩

def zeroE : Value := .agg #[.string ⟨#[]⟩, .int .i64 0, .int .i64 0]
theorem infoE : (Tryd.prog.info? 25).map (fun i => (i.zero, i.size, i.bytes)) = some (some zeroE, 3, 32) := by kernel_rfl
theorem sizeE : (Tryd.prog.info? 25).map (·.size) = some 3 := by kernel_rfl
theorem zeroE_one : ∀ u ∈ zeroE.cells.toList, u.oneCell' = true := by
  intro u hu
  have : zeroE.cells.toList.all (·.oneCell') = true := by kernel_rfl
  exact List.all_eq_true.1 this u hu
theorem size_of_E (w : World) : (Go.sizeOf 25).run Tryd.prog w = .ok 3 w := by
  obtain ⟨i0, hi, hz0, hz1, hz2⟩ := info_parts infoE
  simp [sizeOf, typeInfo, hi, hz1]
theorem row_zero (w : World) (e : TypeId) (size : Nat) : (w.alloc (.cells #[] e)).ownsRow w.heap.size e size (.slice (some ⟨w.heap.size, 0, none⟩) 0 0) 0 [] :=
  ⟨by simp, .inr ⟨w.heap.size, 0, #[], rfl, Nat.le_refl _, heap_alloc_new w _, Nat.le_refl _, Nat.zero_le _, by simp, by simp⟩⟩
theorem row_block {w : World} {B : Nat} {e : TypeId} {size : Nat} {v : Value} {n : Nat} {xs : List Value} (h : w.ownsRow B e size v n xs) : ∀ k, v.ownBlock = some k → B ≤ k ∧ k < w.heap.size := by
  intro k hk
  rcases h.2 with ⟨rfl, _⟩ | ⟨g, cap, cur, rfl, hb, hg, _⟩
  · simp [Value.ownBlock] at hk
  · simp [Value.ownBlock] at hk
    subst hk
    exact ⟨hb, (Array.getElem?_eq_some_iff.1 hg).1⟩
theorem row_below {w w' : World} {B : Nat} {e : TypeId} {size : Nat} {v : Value} {n : Nat} {xs : List Value} (h : w.ownsRow B e size v n xs) (hb : Below w.heap.size w w') : w'.ownsRow B e size v n xs := by
  refine ⟨h.1, ?_⟩
  rcases h.2 with hn | ⟨g, cap, cur, rfl, h1, hg, rest⟩
  · exact .inl hn
  · exact .inr ⟨g, cap, cur, rfl, h1, (hb.block g (Array.getElem?_eq_some_iff.1 hg).1).trans hg, rest⟩

set_option maxRecDepth 100000 in
theorem clone_row (oa : Option Addr) (n cap : Nat) (cs : List Value) (w : World) (hs : ∀ w', Below w.heap.size w w' → Src Tryd.prog 3 22 (.slice oa n cap) n cs w') (h0 : oa = none → n = 0) (hn : n ≤ 1000) :
    Calls Tryd.prog 33 #[.slice oa n cap] w fun e w' => ∃ v', e = .returned v' ∧ w'.ownsRow w.heap.size 25 3 v' n cs ∧ Below w.heap.size w w' := by
  obtain ⟨i0, hi, hz0, hz1, hz2⟩ := info_parts infoE
  have HI := Lib.hid (And.intro hi (And.intro hz0 (And.intro hz1 hz2)))
  have HS := Lib.hid hs
  clear hi hz0 hz1 hz2 hs
  go_enter Tryd.func33, Tryd.ntmps33
  have hnil : ∀ (oa : Option Addr) (n c : Nat) (w : World), (binOp .eql 22 (.slice oa n c) (.slice none 0 0)).run Tryd.prog w = .ok (.bool oa.isNone) w := fun oa n c w => by have := Lib.run_eql_slice_nil w 22 25 oa n c 0 0 Tryd.underlying22; simpa using this
  cases oa with
  | none =>
    obtain rfl := h0 rfl
    have hcs : cs = [] := List.eq_nil_of_length_eq_zero (by have := (HS.out w (Below.refl _ _)).newsLen; simpa using this)
    subst hcs
    go_wp2
    go_ret
    exact ⟨_, rfl, ⟨by simp, .inl ⟨rfl, rfl⟩⟩, Below.refl _ _⟩
  | some a =>
    clear h0
    go_wp2_with (at_builtin; go_loud (refine wpList_append_row rfl (.tmp 5) (.tmp 6) 22 22 rfl w.heap.size 25 i0 zeroE 3 32 Tryd.underlying22 HI.out.1 HI.out.2.1 HI.out.2.2.1 HI.out.2.2.2 rfl _ 0 [] rfl (row_zero w 25 3) _ n cs rfl (HS.out _ ((Below.refl _ _).alloc (Nat.le_refl _) _)) (by unfold maxLen; omega) (by omega) (by simp) ?_))
    intro v' w5 hown hg
    have hb : Below w.heap.size w w5 := ((Below.refl _ _).alloc (Nat.le_refl _) _).grown hg (by simp) (fun q hq => by simp [Value.ownBlock] at hq; omega)
    go_wp2
    go_ret
    refine ⟨_, rfl, by simpa using hown, hb⟩

/-- One element, in a block of its own, as what is appended. -/
theorem src_box (W : World) (xb : Nat) (ms : List Value) (hx : W.heap[xb]? = some (.cells ms.toArray 25 (0, 0))) (hm : ms.length = 3) (hm1 : ∀ u ∈ ms, u.oneCell' = true) : Src Tryd.prog 3 22 (.slice (some ⟨xb, 0, none⟩) 1 1) 1 ms W := by
  refine Src.ofSlice _ Tryd.underlying22 ⟨xb, 0, none⟩ _ _ _ (by rw [hm]) (fun j u hj => ?_) hm1
  have hadd : (⟨xb, 0, none⟩ : Addr).add j = ⟨xb, 0 + j, none⟩ := by unfold Addr.add; split <;> simp_all
  rw [hadd, Nat.zero_add]
  simp only [World.cell?, hx]
  simpa using hj
theorem box_cells (W : World) (xb : Nat) (ms : List Value) (hx : W.heap[xb]? = some (.cells ms.toArray 25 (0, 0))) : ∀ j v, ms[j]? = some v → W.cell? ((⟨xb, 0, none⟩ : Addr).add j) = some v := by
  intro j u hj
  have hadd : (⟨xb, 0, none⟩ : Addr).add j = ⟨xb, 0 + j, none⟩ := by unfold Addr.add; split <;> simp_all
  rw [hadd, Nat.zero_add]
  simp only [World.cell?, hx]
  simpa using hj
theorem row_cells (W : World) (g off : Nat) (cur : Array Value) (cs : List Value) (hg : W.heap[g]? = some (.cells cur 25 (0, 0))) (h : ∀ j v, cs[j]? = some v → cur[off + j]? = some v) : ∀ j v, cs[j]? = some v → W.cell? ((⟨g, off, none⟩ : Addr).add j) = some v := by
  intro j u hj
  have hadd : (⟨g, off, none⟩ : Addr).add j = ⟨g, off + j, none⟩ := by unfold Addr.add; split <;> simp_all
  rw [hadd]
  simp only [World.cell?, hg]
  exact h j u hj

set_option maxHeartbeats 4000000 in
set_option maxRecDepth 100000 in
theorem insert_end (v : Value) (n xb : Nat) (cs ms : List Value) (w : World) (B : Nat) (hl : w.ownsRow B 25 3 v n cs) (hx : w.heap[xb]? = some (.cells ms.toArray 25 (0, 0))) (hm : ms.length = 3) (hm1 : ∀ u ∈ ms, u.oneCell' = true)
    (hn : n ≤ 1000) (hB : B ≤ w.heap.size) :
    Calls Tryd.prog 32 #[v, .int .i64 n, .slice (some ⟨xb, 0, none⟩) 1 1] w fun e w' => ∃ v', e = .returned v' ∧ w'.ownsRow B 25 3 v' (n + 1) (cs ++ ms) ∧ Below B w w' := by
  have hsrc := src_box w xb ms hx hm hm1
  have hfrm : ∃ oa cap, v = .slice oa n cap ∧ n ≤ cap ∧ cap ≤ maxLen := by
    rcases hl.2 with ⟨rfl, h0⟩ | ⟨g, cap, cur, rfl, _, _, h1, h2, _⟩
    · exact ⟨none, 0, by rw [h0], by omega, Nat.zero_le _⟩
    · exact ⟨_, cap, rfl, h1, h2⟩
  obtain ⟨oa, cap, rfl, hc1, hc2⟩ := hfrm
  obtain ⟨i0, hi, hz0, hz1, hz2⟩ := info_parts infoE
  have HI := Lib.hid (And.intro hi (And.intro hz0 (And.intro hz1 hz2)))
  have HS := Lib.hid hsrc
  clear hi hz0 hz1 hz2 hsrc hx
  unfold maxLen at hc2
  go_enter Tryd.func32, Tryd.ntmps32
  go_wp2_with (at_builtin; go_loud (refine wpList_append_row rfl (.tmp 23) (.tmp 24) 22 22 rfl B 25 i0 zeroE 3 32 Tryd.underlying22 HI.out.1 HI.out.2.1 HI.out.2.2.1 HI.out.2.2.2 rfl _ _ _ rfl hl _ 1 ms rfl HS.out (by unfold maxLen; omega) (by omega) hB ?_))
  all_goals
    intro v' w5 hown hg
    have hb : Below B w w5 := (Below.refl B w).grown hg hB (fun q hq => (row_block hl q (by cases oa <;> exact hq)).1)
    go_wp2
    go_ret
    exact ⟨_, rfl, hown, hb⟩

set_option maxHeartbeats 4000000 in
set_option maxRecDepth 100000 in
theorem insert_room (g n cap i xb : Nat) (cs ms : List Value) (cur : Array Value) (w : World) (B : Nat) (hBg : B ≤ g) (hg : w.heap[g]? = some (.cells cur 25 (0, 0))) (hcap : cap ≤ maxLen) (hcur : cur.size = cap * 3) (hcs : cur.toList.take (n * 3) = cs) (hcl : cs.length = n * 3)
    (h1 : ∀ u ∈ cs, u.oneCell' = true) (hx : w.heap[xb]? = some (.cells ms.toArray 25 (0, 0))) (hm : ms.length = 3) (hm1 : ∀ u ∈ ms, u.oneCell' = true) (hne : xb ≠ g) (hi : i < n) (hroom : n + 1 ≤ cap) :
    Calls Tryd.prog 32 #[.slice (some ⟨g, 0, none⟩) n cap, .int .i64 i, .slice (some ⟨xb, 0, none⟩) 1 1] w fun e w' => ∃ v', e = .returned v' ∧ w'.ownsRow B 25 3 v' (n + 1) (cs.take (i * 3) ++ ms ++ cs.drop (i * 3)) ∧ Below B w w' := by
  unfold maxLen at hcap
  have hz2 : ¬ ((i : Int) = (n : Int)) := by omega
  have hov : ∀ lb cb, (callFunc 53 #[.slice (some ⟨xb, 0, none⟩) 1 1, .slice (some ⟨g, (i + 1) * 3, none⟩) lb cb]).run Tryd.prog w = .ok (.value (.bool false)) w := fun lb cb => by
    rw [run_callFunc_extern Tryd.func53 (by kernel_rfl) (by kernel_rfl) (by kernel_rfl) (e := Extern.SlicesOverlaps.overlaps #[22, 22] #[4]) (by kernel_rfl),
      Lib.run_overlaps_apart w 22 4 25 Tryd.underlying22 3 size_of_E ⟨xb, 0, none⟩ ⟨g, (i + 1) * 3, none⟩ 1 1 lb cb hne 25 25 3 (cap * 3) (by simp [World.shape?, hx, hm]) (by simp [World.shape?, hg, hcur]) (by omega) (by simp [World.frozen?, hx]) (by simp [World.frozen?, hx])]
    rfl
  have hw1 : IntKind.i64.wrap ((i : Int) + 1) = (i : Int) + 1 := by rw [IntKind.wrap_i64]; omega
  have htn : ((i : Int) + 1).toNat = i + 1 := by omega
  have hb2 : ¬ (cap = i + 1) := by omega
  have hb4 : ¬ (cap = i) := by omega
  have hb1 : (0 : Int) ≤ (i : Int) + 1 := by omega
  have hin : i ≤ n := by omega
  have hb3 : (i : Int) ≤ (n : Int) + 1 := by omega
  have hdl : (cs.drop (i * 3)).length = (n - i) * 3 := by rw [List.length_drop, hcl, Nat.sub_mul]
  have hci : ∀ j v, (cs.drop (i * 3))[j]? = some v → cur[i * 3 + j]? = some v := fun j u hj => by
    rw [List.getElem?_drop] at hj
    have hlt : i * 3 + j < n * 3 := by rw [← hcl]; exact (List.getElem?_eq_some_iff.1 hj).1
    rw [cells_of_take hcs _ hlt]; exact hj
  have hls : (splice cur.toList ((i + 1) * 3) (cs.drop (i * 3))).length = cap * 3 := by
    rw [length_splice]
    · simpa using hcur
    · rw [hdl, Array.length_toList, hcur]; omega
  have HLS := Lib.hid hls
  clear hls
  have HG := Lib.hid hg
  have HX := Lib.hid hx
  have HCI := Lib.hid hci
  have HC := Lib.hid (And.intro hcs (And.intro hcl (And.intro h1 (And.intro hm1 hdl))))
  clear hg hx hci hcs hcl h1 hm1 hdl
  go_enter Tryd.func32, Tryd.ntmps32
  go_wp2_with (simp only [hov])
  go_region_law (refine step_copy_many rfl (.tmp 73) (.tmp 76) 22 22 rfl 25 3 Tryd.underlying22 sizeE g ((i + 1) * 3) (n - i) (cap - (i + 1)) ⟨g, i * 3, none⟩ (n + 1 - i) (cap - i) (by simp [Act.eval, Act.put]) (by simp [Act.eval, Act.put]) cur.toList 25 (by rw [Array.toArray_toList]; exact HG.out) (cs.drop (i * 3)) (by rw [HC.out.2.2.2.2, show Nat.min (n + 1 - i) (n - i) = n - i from Nat.min_eq_right (by omega)]) (row_cells _ g (i * 3) cur _ HG.out HCI.out) (by rw [HC.out.2.2.2.2, Array.length_toList, hcur]; omega) (fun u hu => HC.out.2.2.1 u (List.mem_of_mem_drop hu)) ?_; intro w1 hg1 hgr1 hs1)
  have hx1 := Lib.hid ((hgr1.block xb (Array.getElem?_eq_some_iff.1 HX.out).1 (by simpa using hne)).trans HX.out)
  have hgr1' := Lib.hid hgr1
  clear hgr1
  obtain ⟨w2, hr2, hg2, hgr2, hs2⟩ := run_copy_many (P := Tryd.prog) w1 22 22 3 25 3 g (i * 3) (n + 1 - i) (cap - i) ⟨xb, 0, none⟩ 1 1 _ 25 ms Tryd.underlying22 sizeE hg1.out (by rw [hm, show Nat.min 1 (n + 1 - i) = 1 from Nat.min_eq_left (by omega)]) (box_cells _ xb ms hx1.out) (by rw [HLS.out, hm]; omega) HC.out.2.2.2.1
  have hg2 := Lib.hid hg2
  have hgr2' := Lib.hid hgr2
  clear hgr2
  go_wp2
  go_ret
  obtain ⟨hcs, hcl, h1, hm1, hdl⟩ := HC.out
  refine ⟨_, rfl, ⟨?_, .inr ⟨g, cap, _, rfl, hBg, hg2.out, hroom, by unfold maxLen; omega, ?_, ?_⟩⟩, ?_⟩
  · simp only [List.length_append, List.length_take, hcl, hm, hdl]; omega
  · rw [List.size_toArray, length_splice, length_splice, Array.length_toList, hcur]
    · rw [hdl, Array.length_toList, hcur]; omega
    · rw [HLS.out, hm]; omega
  · have e1 : cur.toList.take (i * 3) = cs.take (i * 3) := by rw [← hcs, List.take_take]; congr 1; omega
    unfold splice
    simp only []
    have l1 : (cur.toList.take (i * 3)).length = i * 3 := by simp [hcur]; omega
    have l2 : (cur.toList.take ((i + 1) * 3)).length = (i + 1) * 3 := by simp [hcur]; omega
    have e2 : (cur.toList.take ((i + 1) * 3) ++ (cs.drop (i * 3) ++ cur.toList.drop ((i + 1) * 3 + (cs.drop (i * 3)).length))).take (i * 3) = cs.take (i * 3) := by
      rw [List.take_append_of_le_length (by rw [l2]; omega), List.take_take, Nat.min_eq_left (by omega), e1]
    have e3 : (cur.toList.take ((i + 1) * 3) ++ (cs.drop (i * 3) ++ cur.toList.drop ((i + 1) * 3 + (cs.drop (i * 3)).length))).drop (i * 3 + ms.length) = cs.drop (i * 3) ++ cur.toList.drop ((i + 1) * 3 + (cs.drop (i * 3)).length) := by
      have : i * 3 + ms.length = (cur.toList.take ((i + 1) * 3)).length := by rw [l2, hm]; omega
      rw [this, List.drop_left]
    rw [e2, e3]
    have e4 : (n + 1) * 3 = (cs.take (i * 3) ++ ms ++ cs.drop (i * 3)).length := by simp only [List.length_append, List.length_take, hcl, hm, hdl]; omega
    rw [e4, ← List.append_assoc, ← List.append_assoc, List.take_left]
  · have b1 : Below B w w1 := ⟨hgr1'.out.os, hgr1'.out.tape, hgr1'.out.output, hgr1'.out.size, fun k hk => hgr1'.out.block k (by have := (Array.getElem?_eq_some_iff.1 HG.out).1; show k < w.heap.size; omega) (by simp; omega)⟩
    exact b1.trans ⟨hgr2'.out.os, hgr2'.out.tape, hgr2'.out.output, hgr2'.out.size, fun k hk => hgr2'.out.block k (by have := (Array.getElem?_eq_some_iff.1 HG.out).1; have h3 : w.drew.heap.size = w.heap.size := rfl; omega) (by simp; omega)⟩

theorem splice_ins {α : Type} (A zs ms D : List α) (a m d : Nat) (hA : A.length = a) (hm : ms.length = m) (hD : D.length = d) (hz : m + d ≤ zs.length) : (splice (splice (A ++ zs) a ms) (a + m) D).take (a + m + d) = A ++ ms ++ D := by
  have e1 : splice (A ++ zs) a ms = A ++ (ms ++ zs.drop m) := by
    unfold splice
    subst hA hm
    rw [List.take_left, List.drop_append, List.drop_eq_nil_of_le (by omega), List.nil_append]
    congr 3
    omega
  have hl : (A ++ ms).length = a + m := by simp [hA, hm]
  rw [e1, ← List.append_assoc]
  unfold splice
  rw [← hl, List.take_left, ← List.append_assoc]
  have : (A ++ ms).length + d = (A ++ ms ++ D).length := by simp [hD]; try omega
  rw [this, List.take_left]

set_option maxHeartbeats 4000000 in
set_option maxRecDepth 100000 in
theorem insert_grow (g n cap i xb : Nat) (cs ms : List Value) (cur : Array Value) (w : World) (B : Nat) (hBw : B ≤ w.heap.size) (hg : w.heap[g]? = some (.cells cur 25 (0, 0))) (hcap : cap ≤ maxLen) (hcur : cur.size = cap * 3) (hcs : cur.toList.take (n * 3) = cs) (hcl : cs.length = n * 3)
    (h1 : ∀ u ∈ cs, u.oneCell' = true) (hx : w.heap[xb]? = some (.cells ms.toArray 25 (0, 0))) (hm : ms.length = 3) (hm1 : ∀ u ∈ ms, u.oneCell' = true) (hi : i < n) (hnc : n ≤ cap) (hroom : cap < n + 1) (hn : n ≤ 1000) :
    Calls Tryd.prog 32 #[.slice (some ⟨g, 0, none⟩) n cap, .int .i64 i, .slice (some ⟨xb, 0, none⟩) 1 1] w fun e w' => ∃ v', e = .returned v' ∧ w'.ownsRow B 25 3 v' (n + 1) (cs.take (i * 3) ++ ms ++ cs.drop (i * 3)) ∧ Below B w w' := by
  unfold maxLen at hcap
  obtain rfl : cap = n := by omega
  have hgw := (Array.getElem?_eq_some_iff.1 hg).1
  have hxw := (Array.getElem?_eq_some_iff.1 hx).1
  have hz2 : ¬ ((i : Int) = (cap : Int)) := by omega
  have hz3 : (cap : Int) < (cap : Int) + 1 := by omega
  have hdl : (cs.drop (i * 3)).length = (cap - i) * 3 := by rw [List.length_drop, hcl, Nat.sub_mul]
  have hci : ∀ j v, (cs.drop (i * 3))[j]? = some v → cur[i * 3 + j]? = some v := fun j u hj => by
    rw [List.getElem?_drop] at hj
    have hlt : i * 3 + j < cap * 3 := by rw [← hcl]; exact (List.getElem?_eq_some_iff.1 hj).1
    rw [cells_of_take hcs _ hlt]; exact hj
  obtain ⟨i0, hi0, hz0, hzs, hzb⟩ := info_parts infoE
  obtain ⟨G, w1, hr1, hGe, hGm, ⟨zs, hzl, hg1⟩, hgr1, hs1⟩ := run_append_made (P := Tryd.prog) w 22 3 25 i0 zeroE .i64 .i64 3 32 Tryd.underlying22 Tryd.underlying3 hi0 hz0 hzs hzb rfl g i cap cur 25 hg (by rw [hcur]; omega) (cap + 1 - i) ((cap : Int) + 1 - (i : Int)) (by omega) (by omega) (by omega) (by omega) (by omega) (by omega) (by omega)
  rw [show i + (cap + 1 - i) = cap + 1 by omega] at hr1 hGe
  have e1 : cur.toList.take (i * 3) = cs.take (i * 3) := by rw [← hcs, List.take_take]; congr 1; omega
  have hal : (cs.take (i * 3)).length = i * 3 := by rw [List.length_take, hcl]; omega
  rw [e1] at hg1
  have hx1 : w1.heap[xb]? = some (.cells ms.toArray 25 (0, 0)) := (hgr1.block xb hxw (by simp)).trans hx
  have hgg1 : w1.heap[g]? = some (.cells cur 25 (0, 0)) := (hgr1.block g hgw (by simp)).trans hg
  unfold maxLen at hGm
  obtain ⟨w2, hr2, hg2, hgr2, hs2⟩ := run_copy_many (P := Tryd.prog) w1 22 22 3 25 3 w.heap.size (i * 3) (cap + 1 - i) (G - i) ⟨xb, 0, none⟩ 1 1 _ 25 ms Tryd.underlying22 sizeE hg1 (by rw [hm, show Nat.min 1 (cap + 1 - i) = 1 from Nat.min_eq_left (by omega)]) (box_cells _ xb ms hx1) (by rw [List.length_append, hal, hzl, hm]; omega) hm1
  have hgg2 : w2.heap[g]? = some (.cells cur 25 (0, 0)) := (hgr2.block g (by omega) (by simp; omega)).trans hgg1
  have hls : (splice (cs.take (i * 3) ++ zs) (i * 3) ms).length = G * 3 := by
    rw [length_splice]
    · rw [List.length_append, hal, hzl]; omega
    · rw [List.length_append, hal, hzl, hm]; omega
  have hw1 : IntKind.i64.wrap ((i : Int) + 1) = (i : Int) + 1 := by rw [IntKind.wrap_i64]; omega
  have htn : ((i : Int) + 1).toNat = i + 1 := by omega
  have hb1 : (0 : Int) ≤ (i : Int) + 1 := by omega
  have hin : i ≤ cap := by omega
  have hb3 : (i : Int) ≤ (cap : Int) := by omega
  have hGi : ¬ (G = i) := by omega
  have hGim : ¬ (G = i + 1) := by omega
  have hci2 : ¬ (cap = i) := by omega
  have HLS := Lib.hid hls
  have HX := Lib.hid (And.intro hx (And.intro hgg2 (And.intro hg2 (And.intro hgr1 (And.intro hgr2 (And.intro hs1 hs2))))))
  have HCI := Lib.hid hci
  have HC := Lib.hid (And.intro hcl (And.intro h1 (And.intro hm1 (And.intro hdl (And.intro hal hzl)))))
  clear hx hgg2 hg2 hgr1 hgr2 hs1 hs2 hci hcs hcl h1 hm1 hdl hal hzl hls hx1 hgg1 hg1 e1 hg hi0 hz0 hzs hzb hgw hxw
  go_enter Tryd.func32, Tryd.ntmps32
  go_wp2_with (at_builtin; refine Lib.wpList_append_run _ rfl _ _ _ _ rfl _ _ rfl rfl _ _ (hr1 _) ?_)
  go_region_law (refine step_copy_many rfl (.tmp 50) (.tmp 53) 22 22 rfl 25 3 Tryd.underlying22 sizeE w.heap.size ((i + 1) * 3) (cap - i) (G - (i + 1)) ⟨g, i * 3, none⟩ (cap - i) (cap - i) (by simp [Act.eval, Act.put]) (by simp [Act.eval, Act.put]) (splice (cs.take (i * 3) ++ zs) (i * 3) ms) 25 HX.out.2.2.1 (cs.drop (i * 3)) (by rw [HC.out.2.2.2.1, show Nat.min (cap - i) (cap - i) = cap - i from Nat.min_self _]) (row_cells _ g (i * 3) cur _ HX.out.2.1 HCI.out) (by rw [HC.out.2.2.2.1, HLS.out]; omega) (fun u hu => HC.out.2.1 u (List.mem_of_mem_drop hu)) ?_; intro w3 hg3 hgr3 hs3)
  have hgr3' := Lib.hid hgr3
  clear hgr3
  go_wp2
  go_ret
  obtain ⟨hcl, h1, hm1, hdl, hal, hzl⟩ := HC.out
  obtain ⟨hx, hgg2, hg2, hgr1, hgr2, hs1, hs2⟩ := HX.out
  refine ⟨_, rfl, ⟨?_, .inr ⟨w.heap.size, G, _, rfl, hBw, hg3.out, hGe, by unfold maxLen; omega, ?_, ?_⟩⟩, ?_⟩
  · simp only [List.length_append, List.length_take, hcl, hm, hdl]; omega
  · rw [List.size_toArray, length_splice _ _ _ (by rw [hdl, HLS.out]; omega), HLS.out]
  · have := splice_ins (cs.take (i * 3)) zs ms (cs.drop (i * 3)) (i * 3) 3 ((cap - i) * 3) hal hm hdl (by rw [hzl]; omega)
    rw [show i * 3 + 3 = (i + 1) * 3 by omega, show (i + 1) * 3 + (cap - i) * 3 = (cap + 1) * 3 by omega] at this
    exact this
  · have b1 : Below B w w1 := ⟨hgr1.os, hgr1.tape, hgr1.output, hgr1.size, fun k hk => hgr1.block k (by omega) (by simp)⟩
    have b2 : Below B w1 w2 := ⟨hgr2.os, hgr2.tape, hgr2.output, hgr2.size, fun k hk => hgr2.block k (by omega) (by simp; omega)⟩
    have b3 : Below B w2 w3 := ⟨hgr3'.out.os, hgr3'.out.tape, hgr3'.out.output, hgr3'.out.size, fun k hk => hgr3'.out.block k (by show k < w2.heap.size; omega) (by simp; omega)⟩
    exact (b1.trans b2).trans b3

theorem insert_row (v : Value) (n i xb : Nat) (cs ms : List Value) (w : World) (B : Nat) (hl : w.ownsRow B 25 3 v n cs) (h1 : ∀ u ∈ cs, u.oneCell' = true) (hx : w.heap[xb]? = some (.cells ms.toArray 25 (0, 0))) (hm : ms.length = 3) (hm1 : ∀ u ∈ ms, u.oneCell' = true)
    (hne : ∀ k, v.ownBlock = some k → k ≠ xb) (hi : i ≤ n) (hn : n ≤ 1000) (hB : B ≤ w.heap.size) :
    Calls Tryd.prog 32 #[v, .int .i64 i, .slice (some ⟨xb, 0, none⟩) 1 1] w fun e w' => ∃ v', e = .returned v' ∧ w'.ownsRow B 25 3 v' (n + 1) (cs.take (i * 3) ++ ms ++ cs.drop (i * 3)) ∧ Below B w w' := by
  rcases Nat.lt_or_ge i n with hlt | hge
  · rcases hl.2 with ⟨rfl, h0⟩ | ⟨g, cap, cur, rfl, hb, hg, hnc, hcm, hcur, hcs⟩
    · omega
    · have hng : xb ≠ g := fun e => hne g rfl e.symm
      rcases Nat.lt_or_ge cap (n + 1) with hr | hr
      · exact insert_grow g n cap i xb cs ms cur w B hB hg hcm hcur hcs hl.1 h1 hx hm hm1 hlt hnc hr hn
      · exact insert_room g n cap i xb cs ms cur w B hb hg hcm hcur hcs hl.1 h1 hx hm hm1 hng hlt hr
  · obtain rfl : i = n := by omega
    have e : cs.take (i * 3) ++ ms ++ cs.drop (i * 3) = cs ++ ms := by
      rw [List.take_of_length_le (by rw [hl.1]; omega), List.drop_eq_nil_of_le (by rw [hl.1]; omega), List.append_nil]
    rw [e]
    exact insert_end v i xb cs ms w B hl hx hm hm1 hn hB

set_option maxHeartbeats 4000000 in
set_option maxRecDepth 100000 in
theorem delete_row (v : Value) (n i : Nat) (cs : List Value) (w : World) (B : Nat) (hl : w.ownsRow B 25 3 v n cs) (h1 : ∀ u ∈ cs, u.oneCell' = true) (hi : i < n) (hn : n ≤ 1000) :
    Calls Tryd.prog 42 #[v, .int .i64 i, .int .i64 ((i : Int) + 1)] w fun e w' => ∃ v', e = .returned v' ∧ w'.ownsRow B 25 3 v' (n - 1) (cs.take (i * 3) ++ cs.drop ((i + 1) * 3)) ∧ Below B w w' := by
  obtain ⟨hcl, hl2⟩ := hl
  rcases hl2 with ⟨rfl, h0⟩ | ⟨g, cap, cur, rfl, hBg, hg, hnc, hcap, hcur, hcs⟩
  · omega
  unfold maxLen at hcap
  obtain ⟨i0, hi0, hz0, hzs, hzb⟩ := info_parts infoE
  have hgw := (Array.getElem?_eq_some_iff.1 hg).1
  have hz2 : ¬ ((i : Int) = (i : Int) + 1) := by omega
  have hdl : (cs.drop ((i + 1) * 3)).length = (n - (i + 1)) * 3 := by rw [List.length_drop, hcl, Nat.sub_mul]
  have hci : ∀ j v, (cs.drop ((i + 1) * 3))[j]? = some v → cur[(i + 1) * 3 + j]? = some v := fun j u hj => by
    rw [List.getElem?_drop] at hj
    have hlt : (i + 1) * 3 + j < n * 3 := by rw [← hcl]; exact (List.getElem?_eq_some_iff.1 hj).1
    rw [cells_of_take hcs _ hlt]; exact hj
  obtain ⟨A, hA, hsrc⟩ : ∃ A : Addr, (if cap = i + 1 then (some (⟨g, 0, none⟩ : Addr)) else some ⟨g, (i + 1) * 3, none⟩) = some A ∧ Hid (∀ (W : World), W.heap[g]? = some (.cells cur 25 (0, 0)) → ∀ j u, (cs.drop ((i + 1) * 3))[j]? = some u → W.cell? (A.add j) = some u) := by
    by_cases h : cap = i + 1
    · refine ⟨⟨g, 0, none⟩, by simp [h], fun W _ j u hj => ?_⟩
      have : cs.drop ((i + 1) * 3) = [] := List.eq_nil_of_length_eq_zero (by rw [hdl]; omega)
      rw [this] at hj
      simp at hj
    · exact ⟨⟨g, (i + 1) * 3, none⟩, by simp [h], fun W hW => row_cells W g _ cur _ hW hci⟩
  obtain ⟨w1, hw1, cur1, hg1, hc1, ht1, hgr1, hs1⟩ : ∃ w1, w1 = w.drew.setCells g (i * 3) (cs.drop ((i + 1) * 3)) ∧ ∃ cur1 : Array Value, w1.heap[g]? = some (.cells cur1 25 (0, 0)) ∧ cur1.size = cur.size ∧ cur1.toList.take ((n - 1) * 3) = cs.take (i * 3) ++ cs.drop ((i + 1) * 3) ∧ w.grownBy w1 (some g) ∧ w1.heap.size = w.heap.size := by
    obtain ⟨cur', k1, k2, k3, k4, k5, k6, k7, k8, k9⟩ := cells_setCells_row w.drew g 25 (cs.drop ((i + 1) * 3)) (i * 3) cur hg (by rw [hdl, hcur]; omega)
    refine ⟨_, rfl, cur', k1, k2, ?_, ⟨k7, k8, k9, by rw [k6]; exact Nat.le_refl _, fun k _ hk => k5 k (fun e => hk (by rw [e]))⟩, k6⟩
    refine take_of_cells cur' _ _ (by rw [List.length_append, hdl, List.length_take, hcl]; omega) (by rw [k2, hcur]; omega) fun j hj => ?_
    by_cases hjn : j < i * 3
    · rw [k4 j hjn, List.getElem?_append_left (by rw [List.length_take, hcl]; omega), List.getElem?_take, if_pos hjn, cells_of_take hcs j (by omega)]
    · have hjl : (cs.take (i * 3)).length = i * 3 := by rw [List.length_take, hcl]; omega
      rw [List.getElem?_append_right (by omega), hjl, ← k3 (j - i * 3) (by rw [hdl]; omega)]
      congr 1
      omega
  obtain ⟨w2, cur2, hr2, hg2, hc2, ht2, hgr2, hs2⟩ := run_clear_many (P := Tryd.prog) w1 22 25 0 i0 zeroE 3 Tryd.underlying22 hi0 hz0 rfl zeroE_one g ((n - 1) * 3) 1 (cap - (n - 1)) cur1 25 hg1 (by omega) (by rw [hc1, hcur]; omega)
  have hsp : Hid (∀ j, j < (cs.drop ((i + 1) * 3)).length → (w.drew.cell? ⟨g, 0 + i * 3 + j, none⟩).isSome = true ∧ w.drew.frozen? ⟨g, 0 + i * 3 + j, none⟩ = false) := by
    intro j hj
    rw [hdl] at hj
    refine ⟨?_, by show w.frozen? _ = false; simp [World.frozen?, hg]⟩
    simp only [World.cell?, World.drew, hg]
    rw [Array.getElem?_eq_getElem (by rw [hcur]; omega)]; rfl
  have hsrc1 : Hid (∀ j u, (cs.drop ((i + 1) * 3))[j]? = some u → w.drew.cell? (A.add j) = some u) := fun j u hj => hsrc.out w.drew hg j u hj
  have hw1' : Hid (w1 = w.drew.setCells g (0 + i * 3) (cs.drop ((i + 1) * 3))) := by show _ = _; rw [Nat.zero_add]; exact hw1
  have hone : Hid (∀ u ∈ cs.drop ((i + 1) * 3), u.oneCell' = true) := fun u hu => h1 u (List.mem_of_mem_drop hu)
  have HDL := Lib.hid hdl
  have HI := Lib.hid (And.intro hi0 hzs)
  have HX := Lib.hid (And.intro hg2 (And.intro hc2 (And.intro ht2 (And.intro hgr2 (And.intro hs2 (And.intro hgr1 (And.intro hs1 (And.intro hc1 ht1))))))))
  have HCL := Lib.hid hcl
  have hw5 : IntKind.i64.wrap ((i : Int) + 1) = (i : Int) + 1 := by rw [IntKind.wrap_i64]; omega
  have htn : ((i : Int) + 1).toNat = i + 1 := by omega
  have hb1 : (0 : Int) ≤ (i : Int) + 1 := by omega
  have hin : i + 1 ≤ n := hi
  have hq1 : (i : Int) + 1 ≤ (n : Int) := by omega
  have hq2 : (i : Int) ≤ (i : Int) + 1 := by omega
  have hq3 : (i : Int) ≤ (n : Int) := by omega
  have hic : i ≤ cap := by omega
  have hjc : i + 1 ≤ cap := by omega
  have hrm : i + (n - (i + 1)) = n - 1 := by omega
  have hrc : ¬ (cap = n - 1) := by omega
  have hrd : n - (n - 1) = 1 := by omega
  have hre : ((n - 1 : Nat) : Int) ≤ (n : Int) := by omega
  have hrf : (n : Int) ≤ (cap : Int) := by omega
  clear hg2 hc2 ht2 hgr2 hs2 hgr1 hs1 hc1 ht1 hg1 hdl hci hcs hsrc hi0 hz0 hzs hzb hw1 hcl h1 hg
  go_enter Tryd.func42, Tryd.ntmps42
  go_wp2_with fail
  go_region_law (refine step_append_room rfl (.tmp 22) (.tmp 25) 22 rfl 25 i0 3 Tryd.underlying22 HI.out.1 HI.out.2 g 0 i cap (by simp [Act.eval, Act.put]) A (n - (i + 1)) (cap - (i + 1)) (cs.drop ((i + 1) * 3)) (by simp [Act.eval, Act.put, hA]) HDL.out hsrc1.out hone.out (by omega) hsp.out ?_; rw [← hw1'.out, hrm])
  go_wp2
  go_ret
  obtain ⟨hg2, hc2, ht2, hgr2, hs2, hgr1, hs1, hc1, ht1⟩ := HX.out
  refine ⟨_, rfl, ⟨?_, .inr ⟨g, cap, cur2, rfl, hBg, hg2, by omega, by unfold maxLen; omega, by rw [hc2, hc1, hcur], ?_⟩⟩, ?_⟩
  · rw [List.length_append, HDL.out, List.length_take, HCL.out]; omega
  · rw [ht2]; exact ht1
  · have b1 : Below B w w1 := ⟨hgr1.os, hgr1.tape, hgr1.output, hgr1.size, fun k hk => hgr1.block k (by omega) (by simp; omega)⟩
    exact b1.trans ⟨hgr2.os, hgr2.tape, hgr2.output, hgr2.size, fun k hk => hgr2.block k (by omega) (by simp; omega)⟩
end Go.Proofs.YtijnlgmclaphhaaDoor
