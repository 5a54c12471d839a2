import Derived.Test.YtijnlgmclaphhaaDoorMBytKD
import Derived.Test.YtijnlgmclaphhaaDoorMBytKN
import Derived.Test.YtijnlgmclaphhaaDoorI
import Derived.Test.YtijnlgmclaphhaaDoorU2
/-! Decode. -/
set_option linter.unusedVariables false
set_option linter.unusedSimpArgs false
namespace Go.Proofs.YtijnlgmclaphhaaDoor
open Go Go.RowKit Go.Shelf Go.Proofs.YtijnlgmclaphhaaDoorZ Go.Proofs.YtijnlgmclaphhaaDoorW.PrintWords
attribute [local go_sem] Oper.semAt_some

def lastR (s : ByteArray) (pre : List (Nm × ByteArray)) : ByteArray := match pre.getLast? with | none => s | some x => x.2
theorem lastR_snoc (s : ByteArray) (pre : List (Nm × ByteArray)) (x : Nm × ByteArray) : lastR s (pre ++ [x]) = x.2 := by simp [lastR]
def namesE (pre : List (Nm × ByteArray)) : List Nm := pre.map (·.1)
def decodeL (s : ByteArray) : List Nm × Int := if (lastR s (entL s)).toList = [] ∧ rightL (namesE (entL s)) = true then (namesE (entL s), 0) else ([], 2)
theorem entF_len : ∀ (k : Nat) (s : ByteArray), 10 * (entF k s).length ≤ s.size
  | 0, s => by simp [entF]
  | k + 1, s => by
    simp only [entF]
    split
    · have h1 := tlE_size s
      have h2 := hdE_range s
      have h3 := entF_len k (tlE s)
      rw [List.length_cons]; omega
    · simp
theorem entL_len (s : ByteArray) : 10 * (entL s).length ≤ s.size := entF_len _ s

def DecI (w : World) (s : ByteArray) (pre : List (Nm × ByteArray)) (W : World) : Prop :=
  Boxed W (w.heap.size + 1) 9 (.string (lastR s pre)) ∧ (∃ v, Boxed W w.heap.size 22 v ∧ W.ownsRow (w.heap.size + 3) 25 3 v pre.length (ncells (namesE pre))) ∧ Below w.heap.size w W ∧ w.heap.size + 3 ≤ W.heap.size
def DecFree (w W : World) (row : Option Nat) : Prop := ∀ r, row = some r → w.heap.size + 2 ≤ r ∧ (r < w.heap.size + 3 ∨ ∃ o : Obj, W.heap[r]? = some o ∧ o.isCells = false)
theorem DecI.kept {w W W' : World} {s : ByteArray} {pre : List (Nm × ByteArray)} {row : Option Nat} (h : DecI w s pre W) (hg : W.grownBy W' row) (hr : DecFree w W row) : DecI w s pre W' := by
  obtain ⟨h3, ⟨v, h4, h5⟩, h6, h7⟩ := h
  have ne : ∀ k, k < w.heap.size + 2 → some k ≠ row := fun k hk e => by have := (hr k e.symm).1; omega
  refine ⟨h3.kept hg (ne _ (by omega)), ⟨v, h4.kept hg (ne _ (by omega)), h5.kept hg ?_⟩, h6.grown hg (by omega) (fun k e => by have := (hr k e).1; omega), Nat.le_trans h7 hg.size⟩
  rcases h5.2 with ⟨rfl, _⟩ | ⟨g, cap, cur, rfl, hb, hgb, _⟩
  · exact .inl rfl
  · refine .inr fun e' => ?_
    have e2 : row = some g := by rw [← e']; rfl
    obtain ⟨_, h8 | ⟨o, ho, hc⟩⟩ := hr g e2
    · omega
    · rw [hgb] at ho; cases ho; cases hc
theorem dec_stays {β : Type} (w : World) (I : β → World → Prop) (h : ∀ s W W' row, I s W → W.grownBy W' row → DecFree w W row → I s W') (hd : ∀ s W, I s W → I s W.drew) : Stays (w.heap.size + 2) (w.heap.size + 3) I :=
  ⟨⟨fun s W o hs => h s W _ none hs (World.grownBy_alloc W o none) (fun _ e => by cases e), hd, fun s W b v h1 h2 hs => h s W _ (some b) hs (grownBy_setCell' W b v) (fun r e => by cases e; exact ⟨h1, .inl h2⟩)⟩,
   fun s W l o o' hs hl ho hc => h s W _ (some l) hs (grownBy_putObj' W l o') (fun r e => by cases e; exact ⟨by omega, .inr ⟨o, ho, hc⟩⟩)⟩
theorem DecI.drew {w W : World} {s : ByteArray} {pre : List (Nm × ByteArray)} (h : DecI w s pre W) : DecI w s pre W.drew := by
  obtain ⟨h3, ⟨v, h4, h5⟩, h6, h7⟩ := h
  exact ⟨h3, ⟨v, h4, h5⟩, h6.drew, h7⟩
def Blk3 (W : World) (g : Nat) (m : Nm) : Prop := W.heap[g]? = some (.cells #[.string m.f0, .int .i64 m.f1, .int .i64 m.f2] 25 (0, 0))
theorem Blk3.kept {w W W' : World} {g : Nat} {m : Nm} {row : Option Nat} (h : Blk3 W g m) (hw : w.heap.size + 3 ≤ g) (hg : W.grownBy W' row) (hr : DecFree w W row) : Blk3 W' g m := by
  refine (hg.block g (Array.getElem?_eq_some_iff.1 h).1 ?_).trans h
  intro e
  obtain ⟨_, h8 | ⟨o, ho, hc⟩⟩ := hr g e.symm
  · omega
  · rw [show W.heap[g]? = _ from h] at ho; cases ho; cases hc
def w17 (w : World) (s : ByteArray) : World := (((w.alloc (.cells #[.slice none 0 0] 22)).alloc (.cells #[.string s] 9)).alloc (.cells #[.string s] 9))
theorem w17_facts (w : World) (s : ByteArray) : DecI w s [] (w17 w s) ∧ box1 (w17 w s) (w.heap.size + 2) (.string s) 9 ∧ (w17 w s).heap.size = w.heap.size + 3 := by
  have h0 := Boxed.new w 22 (.slice none 0 0)
  have h1 := Boxed.new (w.alloc (.cells #[.slice none 0 0] 22)) 9 (.string s)
  have h2 := Boxed.new ((w.alloc (.cells #[.slice none 0 0] 22)).alloc (.cells #[.string s] 9)) 9 (.string s)
  simp only [World.size_alloc] at h1 h2
  refine ⟨⟨h1.alloc _, ⟨_, (h0.alloc _).alloc _, rfl, .inl ⟨rfl, rfl⟩⟩, ((((Below.refl _ w).alloc (Nat.le_refl _) _).alloc (by simp) _).alloc (by simp; omega) _), by simp [w17]⟩, h2, by simp [w17]⟩
def a17 (s : ByteArray) (z g : Nat) (x : Nm × ByteArray) : Act := { tmps := #[.string s, undef, .slice none 0 0, .int .i64 0, .pointer (some ⟨z, 0, none⟩), .pointer (some ⟨z + 1, 0, none⟩), .pointer (some ⟨g, 0, none⟩), .string x.2, .string s, .string s,
  .func (Fn.func 58) #[] #[.pointer (some ⟨z + 2, 0, none⟩)], nval x.1, .string x.2,
  undef, undef, undef, undef, undef, undef, undef, undef, undef, undef, undef, undef, undef], defers := [] }
theorem stored17 {W : World} {z : Nat} {u v : Value} {m : Nat} {ys : List Value} (h4 : Boxed W z 22 u) (h5 : W.ownsRow (z + 3) 25 3 v m ys) (hz : z + 3 ≤ W.heap.size) :
    Boxed (W.setCell ⟨z, 0, none⟩ v) z 22 v ∧ (W.setCell ⟨z, 0, none⟩ v).ownsRow (z + 3) 25 3 v m ys ∧ KeepsOthers W (W.setCell ⟨z, 0, none⟩ v) ∧ (∀ k, k ≠ z → (W.setCell ⟨z, 0, none⟩ v).heap[k]? = W.heap[k]?) ∧ (W.setCell ⟨z, 0, none⟩ v).heap.size = W.heap.size ∧ Below z W (W.setCell ⟨z, 0, none⟩ v) :=
  ⟨h4.set v, h5.kept (grownBy_setCell' _ _ _) (.inr (h4.not_row (by decide) h5).symm), KeepsOthers.setCell _ _ _, fun k hk => heap_setCell_other W ⟨z, 0, none⟩ k v hk, by simp [World.setCell], (Below.refl z W).setCell (p := ⟨z, 0, none⟩) (by simp) _⟩
theorem appended17 {W w1 : World} {z : Nat} {v v' : Value} {k m : Nat} {xs ys : List Value} {tmp : Obj} (h4 : Boxed W z 22 v) (h5 : W.ownsRow (z + 3) 25 3 v k xs) (hown : w1.ownsRow (z + 3) 25 3 v' m ys) (hg : (W.alloc tmp).grownBy w1 v.ownBlock) (hz : z + 3 ≤ W.heap.size) :
    Boxed w1 z 22 v ∧ z + 3 ≤ w1.heap.size ∧ KeepsOthers W w1 ∧ (∀ k, k < z + 3 → w1.heap[k]? = W.heap[k]?) ∧ Below z W w1 := by
  have hsz : (W.alloc tmp).heap.size = W.heap.size + 1 := World.size_alloc _ _
  refine ⟨(h4.alloc tmp).kept hg (h4.not_row (by decide) h5), by have := hg.size; omega, ?_, ?_, ?_⟩
  · refine (KeepsOthers.alloc W tmp).trans (KeepsOthers.of_grownBy hg fun j o ej hj => ?_)
    obtain ⟨hb, cur, hc⟩ := row_block' h5 j ej
    rw [Below.heap_alloc W tmp j (Array.getElem?_eq_some_iff.1 hc).1, hc] at hj
    cases hj; rfl
  · intro i hi
    rw [hg.block i (by omega) (fun e => by have := (row_block' h5 i e.symm).1; omega)]
    exact Below.heap_alloc W tmp i (by omega)
  · exact ((Below.refl z W).alloc (by omega) tmp).grown hg (by omega) (fun j e => by have := (row_block' h5 j e).1; omega)
theorem cells3_new (w : World) (a b c : Value) (t : TypeId) : ∀ j u, [a, b, c][j]? = some u → (w.alloc (.cells #[a, b, c] t)).cell? ((⟨w.heap.size, 0, none⟩ : Addr).add j) = some u := by
  intro j u hj
  rw [add_none, Nat.zero_add, World.cell?_alloc_new]
  match j, hj with
  | 0, hj => exact hj
  | 1, hj => exact hj
  | 2, hj => exact hj
theorem dec_leave (T : Array Value) (W : World) (D : Nat) (v : Value) (e : Int) (R : Ending → World → Prop) (t2 : T[2]?.getD undef = v) (t3 : T[3]?.getD undef = .int .i64 e) (hK : W.heap[D]? = some (.deferred (some [])))
    (hR : R (.returned (.tuple #[v, .int .i64 e])) (W.putObj D (.deferred none))) :
    LeavesInM Fence.wide 6 Tryd.prog Tryd.f17 T R [{ target := .collected D, args := #[] }] .returning W := by
  refine ⟨by simp, .inl ⟨_, _, rfl, run_takeDeferred hK, ?_⟩⟩
  refine ⟨_, ?_, hR⟩
  simp [results, Tryd.results17, go_sem, t2, t3]
theorem decode_yes {s : ByteArray} (h : (lastR s (entL s)).toList = []) (hr : rightL (namesE (entL s)) = true) : decodeL s = (namesE (entL s), 0) := by unfold decodeL; rw [if_pos ⟨h, hr⟩]
theorem decode_not {s : ByteArray} (h : ¬ ((lastR s (entL s)).toList = [] ∧ rightL (namesE (entL s)) = true)) : decodeL s = ([], 2) := by unfold decodeL; rw [if_neg h]
theorem namesE_len (l : List (Nm × ByteArray)) : (namesE l).length = l.length := by unfold namesE; simp
theorem row_C {W : World} {B cap : Nat} {oa : Option Addr} {l : List (Nm × ByteArray)} (h5 : W.ownsRow B 25 3 (.slice oa l.length cap) l.length (ncells (namesE l))) : Kd.C k25 W oa (namesE l).length (namesE l) ∧ (namesE l).length ≤ cap :=
  C_of_rows (RowsAt.of_own (w := W) (l := namesE l) (v := .slice oa l.length cap) (by rw [namesE_len]; exact Own.of_row h5))
theorem Right_dec (l : List (Nm × ByteArray)) (h : l.length ≤ 4398046511104) : dir_Right.f (2 * l.length + 2) (namesE l) = some (rightL (namesE l)) :=
  Right_f _ (by rw [namesE_len]; exact h) _ (by rw [namesE_len]; omega)
theorem right_dec (W : World) {B cap : Nat} {oa : Option Addr} {l : List (Nm × ByteArray)} (h5 : W.ownsRow B 25 3 (.slice oa l.length cap) l.length (ncells (namesE l))) (h : l.length ≤ 4398046511104) :
    Calls Tryd.prog 13 #[.slice oa l.length cap] W fun e w' => e = .returned (.bool (rightL (namesE l))) ∧ Below W.heap.size W w' := by
  have := dir_Right.calls (2 * l.length + 2) oa cap (namesE l) (rightL (namesE l)) W (row_C h5).1 (row_C h5).2 (Right_dec l h)
  rw [namesE_len] at this
  exact this
set_option maxRecDepth 100000 in
set_option maxHeartbeats 4000000 in
theorem decode_any (s : ByteArray) (w : World) (hsz : s.size ≤ 1099511627776) :
    Calls Tryd.prog 17 #[.string s] w fun e w' => ∃ v', e = .returned (.tuple #[v', .int .i64 (decodeL s).2]) ∧ w'.ownsRow w.heap.size 25 3 v' (decodeL s).1.length (ncells (decodeL s).1) ∧ Below w.heap.size w w' := by
  refine (callsIn_wide (n := 6)).1 ?_
  refine callsIn_of_wp_marks Tryd.func17 rfl trivial ?_ rfl
  simp only [Tryd.ntmps17, List.size_toArray, List.length_cons, List.length_nil, Nat.reduceAdd, Nat.reduceSub, Array.replicate_succ, Array.replicate_zero, List.push_toArray, List.append_toArray, List.nil_append, List.cons_append]
  gi_wp2_with fail
  refine ⟨trivial, (callsIn_wide.2 (entries_any s _)).mono ?_⟩
  rintro e w1 ⟨rfl, hw⟩
  gi_wp2
  obtain ⟨f0, f1, f2⟩ := w17_facts w s
  refine range_own (F := Fence.wide) (n := 6) rfl (by decide) (gf := 58) (lb := #[.pointer (some ⟨w.heap.size + 2, 0, none⟩)]) rfl trivial (enters_of Tryd.func58 (by kernel_rfl) rfl)
    (ent_gives 5 (w.heap.size + 2) s (w17 w s) (by omega) (by omega) f1) (by show _ ≤ (w17 w s).heap.size; omega) (fun _ => rfl)
    (DecI w s) (fun _ _ _ => False) (dec_stays w _ (fun _ _ _ _ hs hg hr => hs.kept hg hr) (fun _ _ h => h.drew)) (fun _ => dec_stays w _ (fun _ _ _ _ hs _ _ => hs) (fun _ _ h => h)) f0
    (fun pre x a' W => DecI w s pre W ∧ ∃ g, w.heap.size + 3 ≤ g ∧ Blk3 W g x.1 ∧ a' = a17 s w.heap.size g x) (fun pre x a' => ?hax) ?hassign ?hbody ?hdone ?hstop
  case hax => exact dec_stays w _ (fun _ _ _ _ hs hg hr => ⟨hs.1.kept hg hr, by obtain ⟨g, h1, h2, h3⟩ := hs.2; exact ⟨g, h1, h2.kept h1 hg hr, h3⟩⟩) (fun _ _ hs => ⟨hs.1.drew, hs.2⟩)
  case hassign =>
    intro l pre x W K hI hok hK
    unfold encE nval
    gi_wp2
    have hz : w.heap.size + 3 ≤ W.heap.size := hI.2.2.2
    refine hK _ _ (KeepsOthers.alloc _ _) (fun k _ h2 => Below.heap_alloc _ _ _ (by omega)) ⟨hI.kept (World.grownBy_alloc W _ none) (fun _ e => by cases e), W.heap.size, hz, ?_, rfl⟩
    exact World.alloc_heap_new _ _
  case hdone =>
    rintro D xs W hD rfl ⟨h3, ⟨v, h4, h5⟩, h6, h7⟩ hK
    have hz : (w17 w s).heap.size ≤ D := hD
    obtain ⟨oa, cap, rfl, h5⟩ := row_slice h5
    have c0 := h4.cell
    have c1 := h3.cell
    have hln := entL_len s
    have hsm : (entL s).length ≤ 4398046511104 := by omega
    have H4 := Lib.hid h4
    have H5 := Lib.hid h5
    have HR := Lib.hid (right_dec W h5 hsm)
    have h6s := h6.size
    have H6 := Lib.hid h6
    generalize hq : rightL (namesE (entL s)) = q at HR
    have HQ := Lib.hid hq
    clear h4 h5 hq hln hsm h6
    have hDW : D < W.heap.size := (Array.getElem?_eq_some_iff.1 hK).1
    by_cases hrest : (lastR s (entL s)).toList = []
    · have q0 : (lastR s (entL s)).toList.isEmpty = true := by rw [hrest]; rfl
      cases q with
      | true =>
        have HS := Lib.hid (decode_yes hrest HQ.out)
        gi_wp2_with fail
        refine ⟨trivial, (callsIn_wide.2 HR.out).mono ?_⟩
        rintro e w2 ⟨rfl, hb⟩
        have k2 : w2.heap[D]? = some (.deferred (some [])) := (hb.block D hDW).trans hK
        have c2 : w2.cell? ⟨w.heap.size, 0, none⟩ = some (.slice oa (entL s).length cap) := (hb.cell (p := ⟨w.heap.size, 0, none⟩) (by show w.heap.size < _; omega)).trans c0
        have HB := Lib.hid hb
        clear hb
        gi_wp2
        refine dec_leave _ _ D (.slice oa (entL s).length cap) 0 _ rfl rfl k2 ?_
        rw [HS.out]
        have r2 := row_base (row_below H5.out HB.out) (show w.heap.size ≤ w.heap.size + 3 by omega)
        rw [namesE_len]
        exact ⟨_, rfl, ownsRow_putObj r2 _ k2 rfl, ((H6.out.trans (HB.out.mono h6s)).grown (grownBy_putObj' _ D _) (Nat.le_trans h6s HB.out.size) (fun j e => by cases e; omega))⟩
      | false =>
        have HS := Lib.hid (decode_not (s := s) (fun h => by rw [HQ.out] at h; exact absurd h.2 (by simp)))
        gi_wp2_with fail
        refine ⟨trivial, (callsIn_wide.2 HR.out).mono ?_⟩
        rintro e w2 ⟨rfl, hb⟩
        have k2 : w2.heap[D]? = some (.deferred (some [])) := (hb.block D hDW).trans hK
        have c2 : w2.cell? ⟨w.heap.size, 0, none⟩ = some (.slice oa (entL s).length cap) := (hb.cell (p := ⟨w.heap.size, 0, none⟩) (by show w.heap.size < _; omega)).trans c0
        have HB := Lib.hid hb
        clear hb
        gi_wp2
        refine dec_leave _ _ D (.slice none 0 0) 2 _ rfl rfl k2 ?_
        rw [HS.out]
        exact ⟨_, rfl, ⟨rfl, .inl ⟨rfl, rfl⟩⟩, ((H6.out.trans (HB.out.mono h6s)).grown (grownBy_putObj' _ D _) (Nat.le_trans h6s HB.out.size) (fun j e => by cases e; omega))⟩
    · have q0 : (lastR s (entL s)).toList.isEmpty = false := by cases h : (lastR s (entL s)).toList with | nil => exact absurd h hrest | cons _ _ => rfl
      have HS := Lib.hid (decode_not (s := s) (fun h => hrest h.1))
      gi_wp2
      refine ⟨trivial, ?_⟩
      gi_wp2
      refine dec_leave _ _ D (.slice none 0 0) 2 _ rfl rfl hK ?_
      rw [HS.out]
      exact ⟨_, rfl, ⟨rfl, .inl ⟨rfl, rfl⟩⟩, (H6.out.grown (grownBy_putObj' _ D _) h6s (fun j e => by cases e; omega))⟩
  case hstop =>
    rintro D c pre W hD hSp hf hK
    exact hf.elim
  case hbody =>
    rintro l pre x a' W ⟨hI, g, hg3, hblk, rfl⟩ hok
    obtain ⟨h3, ⟨v, h4, h5⟩, h6, h7⟩ := hI
    obtain ⟨oa, cap, rfl, h5⟩ := row_slice h5
    have c0 := h4.cell
    have g0 := h4.frozen
    have c1 := h3.cell
    have g1 := h3.frozen
    have hlen : (pre.length : Nat) ≤ 109951162777 := by
      have := hok.length_le
      have := entL_len s
      simp at *
      omega
    have cg0 : W.cell? ⟨g, 0, none⟩ = some (.string x.1.f0) := by have hb : W.heap[g]? = _ := hblk; simp [World.cell?, hb]
    have cg1 : W.cell? ⟨g, 1, none⟩ = some (.int .i64 x.1.f1) := by have hb : W.heap[g]? = _ := hblk; simp [World.cell?, hb]
    have cg2 : W.cell? ⟨g, 2, none⟩ = some (.int .i64 x.1.f2) := by have hb : W.heap[g]? = _ := hblk; simp [World.cell?, hb]
    obtain ⟨i0, hi, hz0, hz1, hz2⟩ := info_parts infoE
    have HI9 := Lib.hid (And.intro hi (And.intro hz0 (And.intro hz1 hz2)))
    have H5 := Lib.hid h5
    have H4 := Lib.hid h4
    have H3 := Lib.hid h3
    clear hi hz0 hz1 hz2 h5 h4 h3 hblk
    unfold a17 nval
    gi_wp2_with (first
      | (gi_at_builtin; refine wpListIn_append_own _ rfl _ _ 22 rfl (w.heap.size + 3) 25 i0 zeroE 3 32 Tryd.underlying22 HI9.out.1 HI9.out.2.1 HI9.out.2.2.1 HI9.out.2.2.2 rfl (by decide) _ _ _ rfl (H5.out.alloc _) ⟨W.heap.size, 0, none⟩ 1 1 [.string x.1.f0, .int .i64 x.1.f1, .int .i64 x.1.f2] rfl rfl (cells3_new _ _ _ _ _) (by simp [Value.oneCell']) (by unfold maxLen; omega) (by omega) (by simp; omega) ?_; intro v' w1 hown' hgrow _; obtain ⟨g', cap', rfl⟩ := ownsRow_succ hown'; obtain ⟨s1, s2, s3, s4, s5⟩ := appended17 H4.out H5.out hown' hgrow h7; have hc1 := s1.cell; have hf1 := s1.frozen; have hc2 := Boxed.cell (show Boxed w1 (w.heap.size + 1) 9 _ from (s4 _ (by omega)).trans H3.out); have hf2 := Boxed.frozen (show Boxed w1 (w.heap.size + 1) 9 _ from (s4 _ (by omega)).trans H3.out)))
    obtain ⟨t1, t2, t3, t4, t5, t6⟩ := stored17 s1 hown' s2
    have b3 : Boxed (w1.setCell ⟨w.heap.size, 0, none⟩ (.slice (some ⟨g', 0, none⟩) (pre.length + 1) cap')) (w.heap.size + 1) 9 (.string (lastR s pre)) := (t4 _ (by omega)).trans ((s4 _ (by omega)).trans H3.out)
    have b1 := t1.kept (grownBy_setCell' _ (w.heap.size + 1) (.string x.2)) (by simp)
    have r1 := t2.kept (grownBy_setCell' _ (w.heap.size + 1) (.string x.2)) (.inr (b3.not_row (by decide) t2).symm)
    refine ⟨(s3.trans t3).trans (KeepsOthers.setCell _ ⟨w.heap.size + 1, 0, none⟩ (.string x.2)), fun k hk1 hk2 => ?_, ?_⟩
    · rw [heap_setCell_other _ ⟨w.heap.size + 1, 0, none⟩ k _ (by show k ≠ w.heap.size + 1; omega)]
      exact (t4 k (by omega)).trans (s4 k (by omega))
    · refine ⟨by rw [lastR_snoc]; exact b3.set _, ⟨_, b1, ?_⟩, (h6.trans (s5.trans t6)).setCell (p := ⟨w.heap.size + 1, 0, none⟩) (by simp) _, by simp only [World.setCell, Array.size_modify]; exact s2⟩
      have e : ncells (namesE (pre ++ [x])) = ncells (namesE pre) ++ [.string x.1.f0, .int .i64 x.1.f1, .int .i64 x.1.f2] := by
        unfold namesE; rw [List.map_append, ncells_append]; rfl
      rw [e, List.length_append]
      exact r1
end Go.Proofs.YtijnlgmclaphhaaDoor
namespace Go.Proofs.YtijnlgmclaphhaaDoorZ
open Go.RowKit Go.Proofs.YtijnlgmclaphhaaDoor Go.Proofs.YtijnlgmclaphhaaDoorW.PrintWords
def dir_Decode.f (a0 : ByteArray) : Option (List (S25) × Int) := if a0.size ≤ 1099511627776 then some (decodeL a0) else none
theorem dir_Decode.calls (a0 : ByteArray) (r1 : List (S25)) (r2 : Int) (w : World) (h : dir_Decode.f a0 = some (r1, r2)) :
    Calls Tryd.prog 17 #[.string a0] w fun e w' => ∃ v0_ : Value, e = .returned (.tuple #[v0_, .int .i64 r2]) ∧ Kd.R k25 25 w' w.heap.size (fun _ => True) v0_ r1 ∧ Below w.heap.size w w' := by
  unfold dir_Decode.f at h
  split at h
  · rename_i hs
    injection h with h
    refine (decode_any a0 w hs).mono ?_
    rw [h]
    rintro e w' ⟨v', rfl, ho, hb⟩
    exact ⟨v', rfl, R_of_row _ ho, hb⟩
  · cases h
end Go.Proofs.YtijnlgmclaphhaaDoorZ
