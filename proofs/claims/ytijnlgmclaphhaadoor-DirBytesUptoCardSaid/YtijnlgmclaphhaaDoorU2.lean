import Derived.Test.YtijnlgmclaphhaaDoorU
import Derived.Test.YtijnlgmclaphhaaDoorZ0
set_option linter.unusedVariables false
set_option linter.unusedSimpArgs false
namespace Go.Proofs.YtijnlgmclaphhaaDoor
open Go Go.RowKit Go.Shelf
attribute [local go_sem] Oper.semAt_some

theorem row_slice {w : World} {B : Nat} {e : TypeId} {size : Nat} {v : Value} {n : Nat} {xs : List Value} (h : w.ownsRow B e size v n xs) : ∃ oa cap, v = .slice oa n cap ∧ w.ownsRow B e size (.slice oa n cap) n xs := by
  rcases h.2 with ⟨rfl, rfl⟩ | ⟨g, cap, cur, rfl, rest⟩
  · exact ⟨none, 0, rfl, h⟩
  · exact ⟨_, cap, rfl, h⟩
theorem row_base {w : World} {B B' : Nat} {e : TypeId} {size : Nat} {v : Value} {n : Nat} {xs : List Value} (h : w.ownsRow B e size v n xs) (hb : B' ≤ B) : w.ownsRow B' e size v n xs := by
  refine ⟨h.1, ?_⟩
  rcases h.2 with hn | ⟨g, cap, cur, rfl, h1, rest⟩
  · exact .inl hn
  · exact .inr ⟨g, cap, cur, rfl, by omega, rest⟩
theorem info_parts9 : ∃ i, Tryd.prog.info? 9 = some i ∧ i.zero = some (.string ⟨#[]⟩) ∧ i.size = 1 ∧ i.bytes = 16 := by
  have h := info9e
  cases hq : Tryd.prog.info? 9 with
  | none => rw [hq] at h; cases h
  | some i =>
    rw [hq] at h
    simp only [Option.map_some, Option.some.injEq, Prod.mk.injEq] at h
    exact ⟨i, rfl, h.1, h.2.1, h.2.2⟩
theorem row_block' {w : World} {B : Nat} {e : TypeId} {size : Nat} {v : Value} {n : Nat} {xs : List Value} (h : w.ownsRow B e size v n xs) : ∀ k, v.ownBlock = some k → B ≤ k ∧ ∃ cur, w.heap[k]? = some (.cells cur e (0, 0)) := by
  intro k hk
  rcases h.2 with ⟨rfl, _⟩ | ⟨g, cap, cur, rfl, hb, hg, _⟩
  · simp [Value.ownBlock] at hk
  · simp [Value.ownBlock] at hk
    subst hk
    exact ⟨hb, cur, hg⟩
theorem stored2 {W : World} {z : Nat} {u v : Value} {m : Nat} {ys : List Value} (h4 : Boxed W (z + 2) 33 u) (h5 : W.ownsRow (z + 6) 9 1 v m ys) (hz : z + 6 ≤ W.heap.size) :
    Boxed (W.setCell ⟨z + 2, 0, none⟩ v) (z + 2) 33 v ∧ (W.setCell ⟨z + 2, 0, none⟩ v).ownsRow (z + 6) 9 1 v m ys ∧ KeepsOthers W (W.setCell ⟨z + 2, 0, none⟩ v) ∧ (∀ k, k ≠ z + 2 → (W.setCell ⟨z + 2, 0, none⟩ v).heap[k]? = W.heap[k]?) ∧ (W.setCell ⟨z + 2, 0, none⟩ v).heap.size = W.heap.size ∧ Below z W (W.setCell ⟨z + 2, 0, none⟩ v) :=
  ⟨h4.set v, h5.kept (grownBy_setCell' _ _ _) (.inr (h4.not_row (by decide) h5).symm), KeepsOthers.setCell _ _ _, fun k hk => heap_setCell_other W ⟨z + 2, 0, none⟩ k v hk, by simp [World.setCell], (Below.refl z W).setCell (p := ⟨z + 2, 0, none⟩) (by simp) _⟩
theorem appended2 {W w1 : World} {z : Nat} {v v' : Value} {k m : Nat} {xs ys : List Value} {tmp : Obj} (h4 : Boxed W (z + 2) 33 v) (h5 : W.ownsRow (z + 6) 9 1 v k xs) (hown : w1.ownsRow (z + 6) 9 1 v' m ys) (hg : (W.alloc tmp).grownBy w1 v.ownBlock) (hz : z + 6 ≤ W.heap.size) :
    Boxed w1 (z + 2) 33 v ∧ z + 6 ≤ w1.heap.size ∧ KeepsOthers W w1 ∧ (∀ k, k < z + 6 → w1.heap[k]? = W.heap[k]?) ∧ Below z W w1 := by
  have hsz : (W.alloc tmp).heap.size = W.heap.size + 1 := World.size_alloc _ _
  refine ⟨(h4.alloc tmp).kept hg (h4.not_row (by decide) h5), by have := hg.size; omega, ?_, ?_, ?_⟩
  · refine (KeepsOthers.alloc W tmp).trans (KeepsOthers.of_grownBy hg fun j o ej hj => ?_)
    obtain ⟨hb, cur, hc⟩ := row_block' h5 j ej
    rw [Below.heap_alloc W tmp j (Array.getElem?_eq_some_iff.1 hc).1, hc] at hj
    cases hj; rfl
  · intro i hi
    rw [hg.block i (by omega) (fun e => by have := (row_block' h5 i e.symm).1; omega)]
    exact Below.heap_alloc W tmp i (by omega)
  · exact ((Below.refl z W).alloc (by omega) tmp).grown hg (by omega) (fun j e => by have := (row_block' h5 j e).1; omega)
def a24 (s : ByteArray) (z : Nat) (x y : Value) : Act := { tmps := #[.string s, undef, .pointer (some ⟨z, 0, none⟩), .pointer (some ⟨z + 1, 0, none⟩), .pointer (some ⟨z + 2, 0, none⟩), x, .string s, .int .i64 s.size, .bool false, .string s,
  .func (Fn.func 68) #[] #[.pointer (some ⟨z + 4, 0, none⟩), .pointer (some ⟨z + 3, 0, none⟩), .pointer (some ⟨z + 5, 0, none⟩)], y,
  undef, undef, undef, undef, undef, undef, undef, undef, undef, undef, undef, undef, undef, undef, undef, undef, undef, undef, undef, undef, undef, undef, undef, undef, undef, undef, undef, undef, undef, undef, undef, undef], defers := [] }
theorem split_leave (z : Nat) (T : Array Value) (t2 : T[2]?.getD undef = .pointer (some ⟨z, 0, none⟩)) (t3 : T[3]?.getD undef = .pointer (some ⟨z + 1, 0, none⟩)) (W : World) (D : Nat) (v : Value) (e : Int) (R : Ending → World → Prop) (h0 : Boxed W z 33 v) (h1 : Boxed W (z + 1) 26 (.int .i64 e)) (hK : W.heap[D]? = some (.deferred (some [])))
    (hv : v.oneCell' = true)
    (hR : R (.returned (.tuple #[v, .int .i64 e])) (W.putObj D (.deferred none))) :
    LeavesInM Fence.wide 6 Tryd.prog Tryd.f24 T R [{ target := .collected D, args := #[] }] .returning W := by
  have g0 : Boxed (W.putObj D (.deferred none)) z 33 v := h0.kept (grownBy_putObj' W D _) (fun e' => by cases e'; rw [show W.heap[z]? = _ from h0] at hK; cases hK)
  have g1 : Boxed (W.putObj D (.deferred none)) (z + 1) 26 (.int .i64 e) := h1.kept (grownBy_putObj' W D _) (fun e' => by cases e'; rw [show W.heap[z + 1]? = _ from h1] at hK; cases hK)
  have c0 := g0.cell
  have c1 := g1.cell
  refine ⟨by simp, .inl ⟨_, _, rfl, run_takeDeferred hK, ?_⟩⟩
  refine ⟨_, ?_, hR⟩
  simp [results, Tryd.results24, go_sem, c0, c1, t2, t3]
def w24 (w : World) (s : ByteArray) : World := ((((((w.alloc (.cells #[.slice none 0 0] 33)).alloc (.cells #[.int .i64 0] 26)).alloc (.cells #[.slice none 0 0] 33)).alloc (.cells #[.string s] 9)).alloc (.cells #[.string ⟨#[47]⟩] 9)).alloc (.cells #[.int .i64 0] 3))
theorem w24_facts (w : World) (s : ByteArray) : Boxed (w24 w s) w.heap.size 33 (.slice none 0 0) ∧ Boxed (w24 w s) (w.heap.size + 1) 26 (.int .i64 0) ∧ Boxed (w24 w s) (w.heap.size + 2) 33 (.slice none 0 0) ∧
    Boxed (w24 w s) (w.heap.size + 3) 9 (.string s) ∧ Boxed (w24 w s) (w.heap.size + 4) 9 (.string ⟨#[47]⟩) ∧ Boxed (w24 w s) (w.heap.size + 5) 3 (.int .i64 0) ∧ Below w.heap.size w (w24 w s) ∧ (w24 w s).heap.size = w.heap.size + 6 := by
  have h0 := Boxed.new w 33 (.slice none 0 0)
  have h1 := Boxed.new (w.alloc (.cells #[.slice none 0 0] 33)) 26 (.int .i64 0)
  have h2 := Boxed.new ((w.alloc (.cells #[.slice none 0 0] 33)).alloc (.cells #[.int .i64 0] 26)) 33 (.slice none 0 0)
  have h3 := Boxed.new (((w.alloc (.cells #[.slice none 0 0] 33)).alloc (.cells #[.int .i64 0] 26)).alloc (.cells #[.slice none 0 0] 33)) 9 (.string s)
  have h4 := Boxed.new ((((w.alloc (.cells #[.slice none 0 0] 33)).alloc (.cells #[.int .i64 0] 26)).alloc (.cells #[.slice none 0 0] 33)).alloc (.cells #[.string s] 9)) 9 (.string ⟨#[47]⟩)
  have h5 := Boxed.new (((((w.alloc (.cells #[.slice none 0 0] 33)).alloc (.cells #[.int .i64 0] 26)).alloc (.cells #[.slice none 0 0] 33)).alloc (.cells #[.string s] 9)).alloc (.cells #[.string ⟨#[47]⟩] 9)) 3 (.int .i64 0)
  simp only [World.size_alloc] at h1 h2 h3 h4 h5
  exact ⟨((((h0.alloc _).alloc _).alloc _).alloc _).alloc _, (((h1.alloc _).alloc _).alloc _).alloc _, ((h2.alloc _).alloc _).alloc _, (h3.alloc _).alloc _, h4.alloc _, h5,
    (((((((Below.refl _ w).alloc (Nat.le_refl _) _).alloc (by simp) _).alloc (by simp; omega) _).alloc (by simp; omega) _).alloc (by simp; omega) _).alloc (by simp; omega) _), by simp [w24]⟩
theorem splitI_start (w : World) (s : ByteArray) : SplitI w [] (w24 w s) := by
  obtain ⟨f0, f1, f2, f3, f4, f5, f6, f7⟩ := w24_facts w s
  exact ⟨rfl, f0, f1, ⟨_, f2, rfl, .inl ⟨rfl, rfl⟩⟩, f6, by omega⟩
set_option maxRecDepth 100000 in
set_option maxHeartbeats 4000000 in
theorem split_any (s : ByteArray) (w : World) :
    Calls Tryd.prog 24 #[.string s] w fun e w' => ∃ v', e = .returned (.tuple #[v', .int .i64 (splitL s).2]) ∧ w'.ownsRow w.heap.size 9 1 v' (splitL s).1.length (strs (splitL s).1) ∧ Below w.heap.size w w' := by
  refine (callsIn_wide (n := 6)).1 ?_
  refine callsIn_of_wp_marks Tryd.func24 rfl trivial ?_ rfl
  simp only [Tryd.ntmps24, List.size_toArray, List.length_cons, List.length_nil, Nat.reduceAdd, Nat.reduceSub, Array.replicate_succ, Array.replicate_zero, List.push_toArray, List.append_toArray, List.nil_append, List.cons_append]
  by_cases hbig : (256 : Int) < (s.size : Int)
  · have HS := Lib.hid (show splitL s = ([], 32) by unfold splitL; rw [if_pos (by omega)])
    gi_wp2
    refine ⟨.tuple #[.slice none 0 0, .int .i64 32], by simp [results, Tryd.results24, go_sem], .slice none 0 0, by rw [HS.out], ?_, ?_⟩
    · rw [HS.out]; exact ⟨rfl, .inl ⟨rfl, rfl⟩⟩
    · exact (((Below.refl _ w).alloc (Nat.le_refl _) _).alloc (by simp) _)
  · gi_wp2_with fail
    refine ⟨trivial, (callsIn_wide.2 (splitSeq_any s _)).mono ?_⟩
    rintro e w1 ⟨rfl, hw⟩
    gi_wp2
    obtain ⟨f0, f1, f2, f3, f4, f5, f6, f7⟩ := w24_facts w s
    refine range_own (F := Fence.wide) (n := 6) rfl (by decide) (gf := 68) (lb := #[.pointer (some ⟨w.heap.size + 4, 0, none⟩), .pointer (some ⟨w.heap.size + 3, 0, none⟩), .pointer (some ⟨w.heap.size + 5, 0, none⟩)]) rfl trivial (enters_of Tryd.func68 (by kernel_rfl) rfl)
      (split_gives 5 (w.heap.size + 3) s (w24 w s) (by omega) (by omega) f3 f4 f5) (by show _ ≤ (w24 w s).heap.size; omega) (fun _ => rfl)
      (SplitI w) (SplitX w) (splitI_stays w) (splitX_stays w) (splitI_start w s)
      (fun pre x a' W => SplitI w pre W ∧ a' = a24 s w.heap.size (.string x) (.string x)) (fun pre x a' => ?hax) ?hassign ?hbody ?hdone ?hstop
    case hax => exact stays_of w _ (fun _ _ _ _ hs hg hr => ⟨hs.1.kept hg hr, hs.2⟩) (fun _ _ hs => ⟨(splitI_stays w).calm.drew _ _ hs.1, hs.2⟩)
    case hassign =>
      intro l pre x W K hI hok hK
      gi_wp2
      exact hK _ _ (KeepsOthers.refl _) (Keep.refl _ _ _) ⟨hI, rfl⟩
    case hdone =>
      rintro D xs W hD rfl ⟨h1, h2, h3, ⟨v, h4, h5⟩, h6, h7⟩ hK
      have hz : (w24 w s).heap.size ≤ D := hD
      obtain ⟨oa, cap, rfl, h5⟩ := row_slice h5
      have c0 := h2.cell
      have c1 := h3.cell
      have c2 := h4.cell
      have g0 := h2.frozen
      have g1 := h3.frozen
      by_cases h16 : (16 : Int) < ((outP (pieces s)).length : Int)
      · have HS := Lib.hid (show splitL s = ([], 32) by unfold splitL; rw [if_neg (by omega), h1]; show (if _ then _ else _) = _; rw [if_pos (by omega)])
        gi_wp2
        have b0 := (h2.set (.slice none 0 0)).kept (grownBy_setCell' _ (w.heap.size + 1) (.int .i64 32)) (by simp)
        have b1 := (h3.kept (grownBy_setCell' _ w.heap.size (.slice none 0 0)) (by simp)).set (.int .i64 32)
        have k := ((KeepsOthers.setCell W ⟨w.heap.size, 0, none⟩ (.slice none 0 0)).trans (KeepsOthers.setCell _ ⟨w.heap.size + 1, 0, none⟩ (.int .i64 32))).same D _ hK rfl
        refine split_leave w.heap.size _ rfl rfl _ D _ _ _ b0 b1 k rfl ?_
        rw [HS.out]
        exact ⟨_, rfl, ⟨rfl, .inl ⟨rfl, rfl⟩⟩, ((h6.setCell (p := ⟨w.heap.size, 0, none⟩) (Nat.le_refl _) _).setCell (p := ⟨w.heap.size + 1, 0, none⟩) (by simp) _).grown (grownBy_putObj' _ D _) (by simp [World.setCell]; omega) (fun j e => by cases e; omega)⟩
      · have HS := Lib.hid (show splitL s = (outP (pieces s), 0) by unfold splitL; rw [if_neg (by omega), h1]; show (if _ then _ else _) = _; rw [if_neg (by omega)])
        gi_wp2
        have b0 := (h2.set (.slice oa (outP (pieces s)).length cap)).kept (grownBy_setCell' _ (w.heap.size + 1) (.int .i64 0)) (by simp)
        have b1 := (h3.kept (grownBy_setCell' _ w.heap.size (.slice oa (outP (pieces s)).length cap)) (by simp)).set (.int .i64 0)
        have k := ((KeepsOthers.setCell W ⟨w.heap.size, 0, none⟩ (.slice oa (outP (pieces s)).length cap)).trans (KeepsOthers.setCell _ ⟨w.heap.size + 1, 0, none⟩ (.int .i64 0))).same D _ hK rfl
        refine split_leave w.heap.size _ rfl rfl _ D _ _ _ b0 b1 k rfl ?_
        rw [HS.out]
        have r1 := h5.kept (grownBy_setCell' _ w.heap.size (.slice oa (outP (pieces s)).length cap)) (.inr (h2.not_row (by decide) h5).symm)
        have r2 := r1.kept (grownBy_setCell' _ (w.heap.size + 1) (.int .i64 0)) (.inr ((h3.kept (grownBy_setCell' _ w.heap.size (.slice oa (outP (pieces s)).length cap)) (by simp)).not_row (by decide) r1).symm)
        exact ⟨_, rfl, row_base (ownsRow_putObj r2 _ k rfl) (by omega), ((h6.setCell (p := ⟨w.heap.size, 0, none⟩) (Nat.le_refl _) _).setCell (p := ⟨w.heap.size + 1, 0, none⟩) (by simp) _).grown (grownBy_putObj' _ D _) (by simp [World.setCell]; omega) (fun j e => by cases e; omega)⟩
    case hstop =>
      rintro D c pre W hD hSp ⟨rfl, ⟨e, h1, h2, h3⟩, h6, h7⟩ hK
      have HS := Lib.hid (show splitL s = ([], e) by unfold splitL; rw [if_neg (by omega), firstBad_prefix hSp h1])
      have c0 := h2.cell
      have c1 := h3.cell
      gi_wp2
      refine split_leave w.heap.size _ rfl rfl _ D _ _ _ h2 h3 hK rfl ?_
      rw [HS.out]
      have hz : (w24 w s).heap.size ≤ D := hD
      exact ⟨_, rfl, ⟨rfl, .inl ⟨rfl, rfl⟩⟩, h6.grown (grownBy_putObj' _ D _) (by omega) (fun j e => by cases e; omega)⟩
    case hbody =>
      rintro l pre x a' W ⟨hI, rfl⟩ hok
      have HI := Lib.hid hI
      obtain ⟨h1, h2, h3, ⟨v, h4, h5⟩, h6, h7⟩ := hI
      obtain ⟨oa, cap, rfl, h5⟩ := row_slice h5
      have c0 := h2.cell
      have c1 := h3.cell
      have c2 := h4.cell
      have g0 := h2.frozen
      have g1 := h3.frozen
      have g2 := h4.frozen
      unfold a24
      have hlen : pre.length ≤ 300 := by
        have := hok.length_le
        have := pieces_len s
        simp at *
        omega
      have hol := outP_len pre
      have HFB := Lib.hid (firstBad_snoc pre x h1)
      have HOS := Lib.hid (outP_snoc pre x)
      have leaveX : ∀ e : Int, badP x = some e → KeepsOthers W ((W.setCell ⟨w.heap.size, 0, none⟩ (.slice none 0 0)).setCell ⟨w.heap.size + 1, 0, none⟩ (.int .i64 e)) ∧ SplitX w .ret (pre ++ [x]) ((W.setCell ⟨w.heap.size, 0, none⟩ (.slice none 0 0)).setCell ⟨w.heap.size + 1, 0, none⟩ (.int .i64 e)) := fun e he =>
        ⟨(KeepsOthers.setCell W ⟨w.heap.size, 0, none⟩ (.slice none 0 0)).trans (KeepsOthers.setCell _ ⟨w.heap.size + 1, 0, none⟩ (.int .i64 e)), rfl,
          ⟨e, by rw [HFB.out]; exact he, (h2.set (.slice none 0 0)).kept (grownBy_setCell' _ (w.heap.size + 1) (.int .i64 e)) (by simp), (h3.kept (grownBy_setCell' _ w.heap.size (.slice none 0 0)) (by simp)).set (.int .i64 e)⟩,
          (h6.setCell (p := ⟨w.heap.size, 0, none⟩) (Nat.le_refl _) _).setCell (p := ⟨w.heap.size + 1, 0, none⟩) (by simp) _, by simpa [World.setCell] using h7⟩
      have HX := Lib.hid leaveX
      clear leaveX
      by_cases hz : 0 ≤ Lib.indexByte x.data.toList 0
      · have HB := Lib.hid (show badP x = some 31 by unfold badP has0; rw [decide_eq_true hz]; rfl)
        gi_wp2_with fail
        refine ⟨trivial, (CallsIn.inRound l (callsIn_wide.2 (Tryd.strings_IndexByte x 0 W))).mono ?_⟩
        rintro e w' ⟨rfl, hw⟩
        rw [hw]
        gi_wp2
        exact HX.out 31 HB.out
      · have hz' : Lib.indexByte x.data.toList 0 < 0 := by omega
        by_cases hbig : (32 : Int) < (x.size : Int)
        · have HB := Lib.hid (show badP x = some 32 by unfold badP has0; rw [decide_eq_false hz, if_neg (by simp), if_pos (by omega)])
          gi_wp2_with fail
          refine ⟨trivial, (CallsIn.inRound l (callsIn_wide.2 (Tryd.strings_IndexByte x 0 W))).mono ?_⟩
          rintro e w' ⟨rfl, hw⟩
          rw [hw]
          gi_wp2
          exact HX.out 32 HB.out
        · have HB := Lib.hid (show badP x = none by unfold badP has0; rw [decide_eq_false hz, if_neg (by simp), if_neg (by omega)])
          by_cases hskip : x.toList = [] ∨ x.toList = [46]
          · have HO := Lib.hid (show outP (pre ++ [x]) = outP pre by rw [HOS.out]; unfold stepP; rw [if_pos hskip])
            have fin : KeepsOthers W W ∧ Keep (w.heap.size + 3) (w.heap.size + 3 + 3) W W ∧ SplitI w (pre ++ [x]) W := ⟨KeepsOthers.refl _, Keep.refl _ _ _, by rw [HFB.out]; exact HB.out, h2, h3, ⟨_, h4, by rw [HO.out]; exact h5⟩, h6, h7⟩
            have FIN := Lib.hid fin
            clear fin
            rcases hskip with hs0 | hs1
            · gi_wp2_with fail
              refine ⟨trivial, (CallsIn.inRound l (callsIn_wide.2 (Tryd.strings_IndexByte x 0 W))).mono ?_⟩
              rintro e w' ⟨rfl, hw⟩
              rw [hw]
              gi_wp2
              exact FIN.out
            · gi_wp2_with fail
              refine ⟨trivial, (CallsIn.inRound l (callsIn_wide.2 (Tryd.strings_IndexByte x 0 W))).mono ?_⟩
              rintro e w' ⟨rfl, hw⟩
              rw [hw]
              gi_wp2
              exact FIN.out
          · have hs0 : ¬ x.toList = [] := fun h => hskip (.inl h)
            have hs1 : ¬ x.toList = [46] := fun h => hskip (.inr h)
            have q0 : x.toList.isEmpty = false := by cases h : x.toList with | nil => exact absurd h hs0 | cons _ _ => rfl
            have q1 : (x.toList == [46]) = false := beq_eq_false_iff_ne.2 hs1
            have FIN : ∀ (u : Value) (X : World), Boxed X (w.heap.size + 2) 33 u → X.ownsRow (w.heap.size + 6) 9 1 u (outP (pre ++ [x])).length (strs (outP (pre ++ [x]))) → KeepsOthers W X → (∀ k, k < w.heap.size + 6 → k ≠ w.heap.size + 2 → X.heap[k]? = W.heap[k]?) → Below w.heap.size W X → w.heap.size + 6 ≤ X.heap.size →
                KeepsOthers W X ∧ Keep (w.heap.size + 3) (w.heap.size + 3 + 3) W X ∧ SplitI w (pre ++ [x]) X := fun u X b r k kk bb sz =>
              ⟨k, fun i h1 h2 => kk i (by omega) (by omega), by rw [HFB.out]; exact HB.out, (kk _ (by omega) (by omega)).trans h2, (kk _ (by omega) (by omega)).trans h3, ⟨u, b, r⟩, h6.trans bb, sz⟩
            have HFIN := Lib.hid FIN
            clear FIN
            by_cases hdots : x.toList = [46, 46]
            · have HO := Lib.hid (show outP (pre ++ [x]) = (outP pre).dropLast by rw [HOS.out]; unfold stepP; rw [if_neg hskip, if_pos hdots])
              have H5 := Lib.hid h5
              have H4 := Lib.hid h4
              rcases h5.2 with ⟨hnil, hl0⟩ | ⟨g, cap', cur, hsl, hbg, hgg, hnc, hcm, _⟩
              · injection hnil with e1 e2 e3
                subst e1 e3
                have hlz : outP pre = [] := List.eq_nil_of_length_eq_zero hl0
                rw [hlz] at H5 H4 c2
                simp only [List.length_nil] at H5 H4 c2
                clear h4 h5 hol hl0 e2
                gi_wp2_with fail
                refine ⟨trivial, (CallsIn.inRound l (callsIn_wide.2 (Tryd.strings_IndexByte x 0 W))).mono ?_⟩
                rintro e w' ⟨rfl, hw⟩
                rw [hw]
                gi_wp2
                obtain ⟨t1, t2, t3, t4, t5, t6⟩ := stored2 (v := .slice none 0 0) H4.out H5.out h7
                exact HFIN.out _ _ t1 (by rw [HO.out, hlz]; exact t2) t3 (fun k _ hk => t4 k hk) t6 (Nat.le_trans h7 (Nat.le_of_eq t5.symm))
              · injection hsl with e1 e2 e3
                subst e1 e3
                have hm : max (((outP pre).length : Int) - 1) 0 = (((outP pre).length - 1 : Nat) : Int) := by omega
                have hm2 : ((outP pre).length - 1 : Nat) ≤ cap := by omega
                have hm3 : (((outP pre).length - 1 : Nat) : Int) ≤ (cap : Int) := by omega
                have hr := row_take H5.out ((outP pre).length - 1) (by omega)
                have HR := Lib.hid hr
                generalize hN : ((outP pre).length - 1 : Nat) = N at hm hm2 hm3 HR
                have HN := Lib.hid hN
                clear h4 h5 hr hN hgg hnc
                gi_wp2_with fail
                refine ⟨trivial, (CallsIn.inRound l (callsIn_wide.2 (Tryd.strings_IndexByte x 0 W))).mono ?_⟩
                rintro e w' ⟨rfl, hw⟩
                rw [hw]
                gi_wp2
                obtain ⟨t1, t2, t3, t4, t5, t6⟩ := stored2 H4.out HR.out h7
                refine HFIN.out _ _ t1 ?_ t3 (fun k _ hk => t4 k hk) t6 (Nat.le_trans h7 (Nat.le_of_eq t5.symm))
                rw [HO.out, List.length_dropLast, HN.out]
                have : strs (outP pre).dropLast = (strs (outP pre)).take N := by unfold strs; rw [List.dropLast_eq_take, HN.out, List.map_take]
                rw [this]
                exact t2
            · have HO := Lib.hid (show outP (pre ++ [x]) = outP pre ++ [x] by rw [HOS.out]; unfold stepP; rw [if_neg hskip, if_neg hdots])
              have q2 : (x.toList == [46, 46]) = false := beq_eq_false_iff_ne.2 hdots
              obtain ⟨i0, hi, hz0, hz1, hz2⟩ := info_parts9
              have hL : (outP pre).length ≤ 300 := by omega
              have HI9 := Lib.hid (And.intro hi (And.intro hz0 (And.intro hz1 hz2)))
              clear hi hz0 hz1 hz2
              have H5 := Lib.hid h5
              have H4 := Lib.hid h4
              clear h5 h4
              gi_wp2_with fail
              refine ⟨trivial, (CallsIn.inRound l (callsIn_wide.2 (Tryd.strings_IndexByte x 0 W))).mono ?_⟩
              rintro e w' ⟨rfl, hw⟩
              rw [hw]
              gi_wp2_with (first
                | (gi_at_builtin; refine wpListIn_append_own _ rfl _ _ 33 rfl (w.heap.size + 6) 9 i0 (.string ⟨#[]⟩) 1 16 Tryd.underlying33 HI9.out.1 HI9.out.2.1 HI9.out.2.2.1 HI9.out.2.2.2 rfl (by decide) _ _ _ rfl (H5.out.alloc _) ⟨W.heap.size, 0, none⟩ 1 1 [.string x] rfl rfl (cell_one_new _ _ _) (by simp [Value.oneCell']) (by unfold maxLen; omega) (by omega) (by simp; omega) ?_; intro v' w1 hown' hgrow _; obtain ⟨g', cap', rfl⟩ := ownsRow_succ hown'; obtain ⟨s1, s2, s3, s4, s5⟩ := appended2 H4.out H5.out hown' hgrow h7; have hc1 := s1.cell; have hf1 := s1.frozen))
              obtain ⟨t1, t2, t3, t4, t5, t6⟩ := stored2 s1 hown' s2
              exact HFIN.out _ _ t1 (by rw [HO.out, strs_snoc, List.length_append]; exact t2) (s3.trans t3) (fun k hk hne => (t4 k hne).trans (s4 k hk)) (s5.trans t6) (Nat.le_trans s2 (Nat.le_of_eq t5.symm))
end Go.Proofs.YtijnlgmclaphhaaDoor
namespace Go.Proofs.YtijnlgmclaphhaaDoorZ
open Go.RowKit Go.Proofs.YtijnlgmclaphhaaDoor Go.Proofs.YtijnlgmclaphhaaDoorW.PrintWords
theorem R_of_strs {w : World} {base : Nat} {v : Value} (L : List ByteArray) (h : w.ownsRow base 9 1 v L.length (strs L)) : Kd.R Kd.string 9 w base (fun _ => True) v L := by
  refine ⟨fun _ _ => trivial, strs L, h, by show (strs L).length = L.length * 1; simp [strs], ?_⟩
  intro j m hj
  have hjl : j < L.length := (List.getElem?_eq_some_iff.1 hj).1
  have e : ((strs L).drop (j * 1)).take 1 = [Value.string m] := by
    unfold strs
    rw [← List.map_drop, ← List.map_take, Nat.mul_one, List.drop_eq_getElem_cons hjl, (List.getElem?_eq_some_iff.1 hj).2]
    rfl
  show Kd.string.M w base _ m (((strs L).drop (j * 1)).take 1)
  rw [e]
  rfl
def dir_Split.f (a0 : ByteArray) : Option (List ByteArray × Int) := some (splitL a0)
theorem dir_Split.calls (a0 : ByteArray) (r1 : List ByteArray) (r2 : Int) (w : World) (h : dir_Split.f a0 = some (r1, r2)) :
    Calls Tryd.prog 24 #[.string a0] w fun e w' => ∃ v0_ : Value, e = .returned (.tuple #[v0_, .int .i64 r2]) ∧ Kd.R Kd.string 9 w' w.heap.size (fun _ => True) v0_ r1 ∧ Below w.heap.size w w' := by
  unfold dir_Split.f at h
  injection h with h
  refine (split_any a0 w).mono ?_
  rw [h]
  rintro e w' ⟨v', rfl, ho, hb⟩
  exact ⟨v', rfl, R_of_strs _ ho, hb⟩
end Go.Proofs.YtijnlgmclaphhaaDoorZ
