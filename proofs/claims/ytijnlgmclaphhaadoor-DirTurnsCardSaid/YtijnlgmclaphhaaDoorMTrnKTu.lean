import Derived.Test.YtijnlgmclaphhaaDoorMTrnKN2
import Derived.Test.YtijnlgmclaphhaaDoorMTrnKX
import Derived.Test.YtijnlgmclaphhaaDoorMTrnKGD
import Derived.Test.YtijnlgmclaphhaaDoorMTrnE
import Derived.Test.YtijnlgmclaphhaaDoorMTrnA
import Derived.Test.YtijnlgmclaphhaaDoorMTrnKZ56
import Derived.Deep.RegionWith
/-! DirTurns: the walk, by hand. -/
set_option linter.unusedVariables false
set_option linter.unusedSimpArgs false
namespace Go.Proofs.YtijnlgmclaphhaaDoor
open Go Go.RowKit Go.Proofs.YtijnlgmclaphhaaDoorZ Go.Proofs.YtijnlgmclaphhaaDoorW.PrintWords

def spareS : ByteArray := ⟨#[115, 112, 97, 114, 101]⟩
def spareN : Nm := ⟨spareS, 0, 0⟩
/-- The rows that were there, in a row that has one more. -/
theorem RowsAt.pre {w : World} {g cap : Nat} {l : List Nm} {m : Nm} (h : RowsAt w (.slice (some ⟨g, 0, none⟩) (l ++ [m]).length cap) (l ++ [m])) :
    RowsAt w (.slice (some ⟨g, 0, none⟩) l.length cap) l ∧ w.cell? ⟨g, l.length * 3, none⟩ = some (.string m.f0) := by
  obtain ⟨oa, cap', b, off, hv, h1, h2, h3, h4⟩ := h
  injection hv with e1 e2 e3
  subst e3
  subst e1
  have hl : (l ++ [m]).length = l.length + 1 := by simp
  obtain ⟨e, hb⟩ := h3 (by omega)
  have e' := Option.some.inj e
  injection e' with eb eo _
  subst eb
  subst eo
  refine ⟨⟨_, cap, g, 0, rfl, by omega, by omega, fun _ => ⟨rfl, hb⟩, fun i hi j hj => ?_⟩, ?_⟩
  · have := h4 i (by omega) j hj
    rw [List.getElem_append_left hi] at this
    exact this
  · have := h4 l.length (by omega) 0 (by omega)
    rw [List.getElem_append_right (Nat.le_refl _)] at this
    simpa [ncell] using this
theorem blk3_cells {W : World} {g : Nat} {m : Nm} (h : Blk3 W g m) : W.cell? ⟨g, 0, none⟩ = some (.string m.f0) ∧ W.cell? ⟨g, 1, none⟩ = some (.int .i64 m.f1) ∧ W.cell? ⟨g, 2, none⟩ = some (.int .i64 m.f2) := by
  have hb : W.heap[g]? = _ := h
  refine ⟨?_, ?_, ?_⟩ <;> simp [World.cell?, hb]
theorem Blk3.below {W W' : World} {g : Nat} {m : Nm} (h : Blk3 W g m) (hb : Below W.heap.size W W') : Blk3 W' g m :=
  (hb.block g (Array.getElem?_eq_some_iff.1 h).1).trans h
theorem own_rows {W : World} {B : Nat} {v : Value} {l : List Nm} {m : Nm} (h : W.ownsRow B 25 3 v (l.length + 1) (ncells l ++ nlist m)) : ∃ g cap, v = .slice (some ⟨g, 0, none⟩) (l.length + 1) cap ∧ RowsAt W (.slice (some ⟨g, 0, none⟩) (l ++ [m]).length cap) (l ++ [m]) := by
  have e : ncells (l ++ [m]) = ncells l ++ nlist m := by rw [ncells_append]; simp [ncells]
  obtain ⟨g, cap, rfl⟩ := ownsRow_succ h
  refine ⟨g, cap, rfl, RowsAt.of_own (B := B) ?_⟩
  rw [e]
  have hl : (l ++ [m]).length = l.length + 1 := by simp
  rw [hl]
  exact Own.of_row h
set_option maxRecDepth 100000 in
set_option maxHeartbeats 4000000 in
theorem turns_any (k : Nat) (oa : Option Addr) (cap : Nat) (l : List Nm) (n : Nm) (s : ByteArray) (w : World) (hl0 : RowsAt w (.slice oa l.length cap) l) (hl : l.length ≤ 4398046511103) (hk : 5 ≤ k)
    (P Q : List Nm) (pe ce : Int) (x : Nm) (ok : Bool)
    (h1 : dir_Put.f l n.f0 n.f1 n.f2 = some (P, pe)) (h2 : gatehouseref13_Put.f k l n.f0 n.f1 n.f2 = some (P, pe)) (h3 : dir_Cut.f l s = some (Q, ce)) (h4 : gatehouseref13_Cut.f k l s = some (Q, ce))
    (h5 : dir_Find.f l s = some (x.f0, x.f1, x.f2, ok)) (h6 : gatehouseref13_Find.f k l s = some (x.f0, x.f1, x.f2, ok))
    (s1 : gatehouseref13_Same.f k P P = some true) (s2 : gatehouseref13_Same.f k Q Q = some true) (s3 : gatehouseref13_Same.f k l l = some true) :
    Calls Tryd.prog 6 #[.slice oa l.length cap, nval n, .string s] w fun e w' => e = .returned (.bool true) ∧ Below w.heap.size w w' := by
  obtain ⟨i0, hi0, hz0, hz1, hz2⟩ := info_parts infoE
  have HI := Lib.hid (And.intro hi0 (And.intro hz0 (And.intro hz1 hz2)))
  have HL := Lib.hid hl0
  have HF := Lib.hid (And.intro h1 (And.intro h2 (And.intro h3 (And.intro h4 (And.intro h5 h6)))))
  have HS := Lib.hid (And.intro s1 (And.intro s2 s3))
  clear hi0 hz0 hz1 hz2 hl0 h1 h2 h3 h4 h5 h6 s1 s2 s3
  unfold nval
  go_enter Tryd.func6, Tryd.ntmps6
  go_wp2_with fail
  refine (gatehouselaw13_lives.calls k true _ (lives_f k hk)).mono ?_
  rintro e w1 ⟨rfl, hb⟩
  have HB1 := Lib.hid (((Below.refl w.heap.size w).alloc (Nat.le_refl _) _).trans (hb.mono (by simp)))
  have HX1 := Lib.hid (Blk3.below (m := n) (World.alloc_heap_new _ _) hb)
  have hsz1 : w.heap.size + 1 ≤ w1.heap.size := by have := hb.size; simp at this; omega
  clear hb
  have HL1 := Lib.hid (HL.out.below HB1.out)
  go_wp2_with (at_builtin; go_loud (refine wpList_append_row rfl (.tmp 22) (.tmp 23) 22 22 rfl w1.heap.size 25 i0 zeroE 3 32 Tryd.underlying22 HI.out.1 HI.out.2.1 HI.out.2.2.1 HI.out.2.2.2 rfl _ 0 [] rfl (row_zero w1 25 3) _ l.length (ncells l) rfl ((HL1.out.below ((Below.refl _ w1).alloc (Nat.le_refl _) _)).src) (by unfold maxLen; omega) (by omega) (by simp) ?_))
  intro v2 w2 hown hg
  have hb2 : Below w1.heap.size w1 w2 := ((Below.refl _ w1).alloc (Nat.le_refl _) _).grown hg (by simp) (fun q hq => by simp [Value.ownBlock] at hq; omega)
  have HO2 := Lib.hid hown
  have HB2 := Lib.hid hb2
  have hsz2 : w1.heap.size ≤ w2.heap.size := hb2.size
  clear hown hg hb2
  go_wp2_with (at_builtin; go_loud (refine wpList_append_row rfl (.tmp 24) (.tmp 26) 22 22 rfl w1.heap.size 25 i0 zeroE 3 32 Tryd.underlying22 HI.out.1 HI.out.2.1 HI.out.2.2.1 HI.out.2.2.2 rfl v2 l.length (ncells l) rfl (HO2.out.alloc _) _ 1 (nlist spareN) rfl (src_box _ w2.heap.size (nlist spareN) (World.alloc_heap_new _ _) rfl (by simp [nlist, Value.oneCell'])) (by unfold maxLen; omega) (by omega) (by simp; omega) ?_))
  intro v3 w3 hown hg
  have hb3 : Below w1.heap.size w2 w3 := ((Below.refl _ w2).alloc hsz2 _).grown hg (by simp; omega) (fun j ej => (row_block' HO2.out j ej).1)
  obtain ⟨g, cap', rfl, hr3⟩ := own_rows hown
  have h13 : Below w1.heap.size w1 w3 := HB2.out.trans hb3
  obtain ⟨hp, hspare⟩ := hr3.pre
  have HSP := Lib.hid hspare
  have HP3 := Lib.hid (C_of_rows hp)
  have HL3 := Lib.hid (C_of_rows (HL1.out.below h13))
  have HX3 := Lib.hid (HX1.out.below h13)
  have HB3 := Lib.hid (HB1.out.trans (h13.mono (by omega)))
  have hsz3 : w1.heap.size ≤ w3.heap.size := h13.size
  obtain ⟨x0, x1, x2⟩ := blk3_cells HX3.out
  have hcp : l.length ≤ cap' := HP3.out.2
  have hcp2 : (l.length : Int) ≤ (cap' : Int) := by omega
  have hcp3 : (0 : Int) ≤ (l.length : Int) := by omega
  clear hown hg hb3 hr3 h13 hp hspare HO2 HL1 HX1 HB1 HB2 HL
  go_upto_region 4 with (fail)
  go_cut [8, 9] (fun v8 v9 wc => v9 = .int .i64 pe ∧ Hid (∃ A c, v8 = .slice A P.length c ∧ P.length ≤ c ∧ Kd.C k25 wc A P.length P) ∧ Hid (Below w3.heap.size w3 wc))
  case first =>
    go_region_with (first | (go_at_call 11; refine (dir_Put.calls _ _ l n.f0 n.f1 n.f2 P pe _ (by first | exact HP3.out.1 | exact Kd.C_drew HP3.out.1 | exact Kd.C_drewN HP3.out.1 _ | exact Kd.C_drewN (Kd.C_drew HP3.out.1) _) HP3.out.2 HF.out.1).mono ?_; rintro e w4 ⟨v0, rfl, hR, hb⟩))
    all_goals
      obtain ⟨A, c, rfl⟩ := Kd.R_slice hR
      have hC := (Kd.R_reads' hR)
      have hbw : Below w3.heap.size w3 w4 := below_through (by first | exact (Below.refl _ _).drew | exact Below.refl _ _) hb
      go_wp2
      go_meet
      case rel => exact ⟨rfl, Lib.hid ⟨A, c, rfl, hC.2.1, hC.2.2⟩, Lib.hid hbw⟩
  case rest =>
    obtain ⟨rfl, ⟨A1, c1, rfl, hc1, hC1⟩, hb4⟩ := hcut
    have HC1 := Lib.hid (And.intro hC1 hc1)
    have HX4 := Lib.hid (HX3.out.below hb4.out)
    have HL4 := Lib.hid (Kd.C_below HL3.out.1 hb4.out)
    have HP4 := Lib.hid (Kd.C_below HP3.out.1 hb4.out)
    have HSP4 := Lib.hid ((hb4.out.cell (p := ⟨g, l.length * 3, none⟩) (World.block_lt_of_cell? w3 _ HSP.out)).trans HSP.out)
    have HB4 := Lib.hid (below_through HB3.out hb4.out)
    have HC0 := Lib.hid HL3.out.2
    have HP0 := Lib.hid HP3.out.2
    clear hC1 hc1 HX3 HP3 HSP HB3 HL3 x0 x1 x2
    obtain ⟨x0, x1, x2⟩ := blk3_cells HX4.out
    go_wp2_with fail
    refine (gatehouseref13_Put.calls k _ _ l n.f0 n.f1 n.f2 P pe _ HL4.out HC0.out HF.out.2.1).mono ?_
    rintro e w5 ⟨v0, rfl, hR, hb5⟩
    have HC1_4 := HC1
    clear HC1 x0 x1 x2 HX4
    obtain ⟨A2, c2, rfl⟩ := Kd.R_slice hR
    have HC2_5 := Lib.hid (And.intro (Kd.R_reads' hR).2.2 (Kd.R_reads' hR).2.1)
    clear hR
    have HC1_5 := Lib.hid (And.intro (Kd.C_below HC1_4.out.1 hb5) HC1_4.out.2)
    have HL5 := Lib.hid (Kd.C_below HL4.out hb5)
    have HP5 := Lib.hid (Kd.C_below HP4.out hb5)
    have HSP5 := Lib.hid ((hb5.cell (p := ⟨g, l.length * 3, none⟩) (World.block_lt_of_cell? _ _ HSP4.out)).trans HSP4.out)
    have HB5 := Lib.hid (below_through HB4.out hb5)
    clear hb5 HL4 HP4 HSP4 HB4 HC1_4
    go_wp2_with fail
    refine (dir_Cut.calls _ _ l s Q ce _ HP5.out HP0.out HF.out.2.2.1).mono ?_
    rintro e w6 ⟨v0, rfl, hR, hb6⟩
    obtain ⟨A3, c3, rfl⟩ := Kd.R_slice hR
    have HC3_6 := Lib.hid (And.intro (Kd.R_reads' hR).2.2 (Kd.R_reads' hR).2.1)
    clear hR
    have HC1_6 := Lib.hid (And.intro (Kd.C_below HC1_5.out.1 hb6) HC1_5.out.2)
    have HC2_6 := Lib.hid (And.intro (Kd.C_below HC2_5.out.1 hb6) HC2_5.out.2)
    have HL6 := Lib.hid (Kd.C_below HL5.out hb6)
    have HP6 := Lib.hid (Kd.C_below HP5.out hb6)
    have HSP6 := Lib.hid ((hb6.cell (p := ⟨g, l.length * 3, none⟩) (World.block_lt_of_cell? _ _ HSP5.out)).trans HSP5.out)
    have HB6 := Lib.hid (below_through HB5.out hb6)
    clear hb6 HL5 HP5 HSP5 HB5 HC1_5 HC2_5
    go_wp2_with fail
    refine (gatehouseref13_Cut.calls k _ _ l s Q ce _ HL6.out HC0.out HF.out.2.2.2.1).mono ?_
    rintro e w7 ⟨v0, rfl, hR, hb7⟩
    obtain ⟨A4, c4, rfl⟩ := Kd.R_slice hR
    have HC4_7 := Lib.hid (And.intro (Kd.R_reads' hR).2.2 (Kd.R_reads' hR).2.1)
    clear hR
    have HC1_7 := Lib.hid (And.intro (Kd.C_below HC1_6.out.1 hb7) HC1_6.out.2)
    have HC2_7 := Lib.hid (And.intro (Kd.C_below HC2_6.out.1 hb7) HC2_6.out.2)
    have HC3_7 := Lib.hid (And.intro (Kd.C_below HC3_6.out.1 hb7) HC3_6.out.2)
    have HL7 := Lib.hid (Kd.C_below HL6.out hb7)
    have HP7 := Lib.hid (Kd.C_below HP6.out hb7)
    have HSP7 := Lib.hid ((hb7.cell (p := ⟨g, l.length * 3, none⟩) (World.block_lt_of_cell? _ _ HSP6.out)).trans HSP6.out)
    have HB7 := Lib.hid (below_through HB6.out hb7)
    clear hb7 HL6 HP6 HSP6 HB6 HC1_6 HC2_6 HC3_6
    go_wp2_with fail
    refine (dir_Find.calls _ _ l s x.f0 x.f1 x.f2 ok _ HL7.out HC0.out HF.out.2.2.2.2.1).mono ?_
    rintro e w8 ⟨rfl, hb8⟩
    have HC1_8 := Lib.hid (And.intro (Kd.C_below HC1_7.out.1 hb8) HC1_7.out.2)
    have HC2_8 := Lib.hid (And.intro (Kd.C_below HC2_7.out.1 hb8) HC2_7.out.2)
    have HC3_8 := Lib.hid (And.intro (Kd.C_below HC3_7.out.1 hb8) HC3_7.out.2)
    have HC4_8 := Lib.hid (And.intro (Kd.C_below HC4_7.out.1 hb8) HC4_7.out.2)
    have HL8 := Lib.hid (Kd.C_below HL7.out hb8)
    have HP8 := Lib.hid (Kd.C_below HP7.out hb8)
    have HSP8 := Lib.hid ((hb8.cell (p := ⟨g, l.length * 3, none⟩) (World.block_lt_of_cell? _ _ HSP7.out)).trans HSP7.out)
    have HB8 := Lib.hid (below_through HB7.out hb8)
    clear hb8 HL7 HP7 HSP7 HB7 HC1_7 HC2_7 HC3_7 HC4_7
    go_wp2_with fail
    refine (gatehouseref13_Find.calls k _ _ l s x.f0 x.f1 x.f2 ok _ (Kd.C_alloc HL8.out _) HC0.out HF.out.2.2.2.2.2).mono ?_
    rintro e w9 ⟨rfl, hb⟩
    have hbx : Blk3 w9 w8.heap.size x := Blk3.below (World.alloc_heap_new _ _) hb
    obtain ⟨y0, y1, y2⟩ := blk3_cells hbx
    have hb9 : Below w8.heap.size w8 w9 := below_through ((Below.refl _ w8).alloc (Nat.le_refl _) _) hb
    have hsz9 : w8.heap.size + 1 ≤ w9.heap.size := by have := hb.size; simp at this; omega
    clear hb hbx
    have HC1_9 := Lib.hid (And.intro (Kd.C_below HC1_8.out.1 hb9) HC1_8.out.2)
    have HC2_9 := Lib.hid (And.intro (Kd.C_below HC2_8.out.1 hb9) HC2_8.out.2)
    have HC3_9 := Lib.hid (And.intro (Kd.C_below HC3_8.out.1 hb9) HC3_8.out.2)
    have HC4_9 := Lib.hid (And.intro (Kd.C_below HC4_8.out.1 hb9) HC4_8.out.2)
    have HL9 := Lib.hid (Kd.C_below HL8.out hb9)
    have HP9 := Lib.hid (Kd.C_below HP8.out hb9)
    have HSP9 := Lib.hid ((hb9.cell (p := ⟨g, l.length * 3, none⟩) (World.block_lt_of_cell? _ _ HSP8.out)).trans HSP8.out)
    have HB9 := Lib.hid (below_through HB8.out hb9)
    clear hb9 HL8 HP8 HSP8 HB8 HC1_8 HC2_8 HC3_8 HC4_8
    go_wp2_with fail
    have hbo := (Below.refl _ w9).alloc (Nat.le_refl _) (.cells #[.string x.f0, .int .i64 x.f1, .int .i64 x.f2] 25)
    have z0 := (hbo.cell (p := ⟨w8.heap.size, 0, none⟩) (by show w8.heap.size < _; omega)).trans y0
    have z1 := (hbo.cell (p := ⟨w8.heap.size, 1, none⟩) (by show w8.heap.size < _; omega)).trans y1
    have z2 := (hbo.cell (p := ⟨w8.heap.size, 2, none⟩) (by show w8.heap.size < _; omega)).trans y2
    have zs : _ = some (Value.string (⟨#[115, 112, 97, 114, 101]⟩ : ByteArray)) := (hbo.cell (p := ⟨g, l.length * 3, none⟩) (World.block_lt_of_cell? _ _ HSP9.out)).trans HSP9.out
    clear hbo y0 y1 y2
    refine (gatehouseref13_Same.calls k A1 c1 P A2 c2 P true _ (Kd.C_alloc HC1_9.out.1 _) HC1_9.out.2 (Kd.C_alloc HC2_9.out.1 _) HC2_9.out.2 HS.out.1).mono ?_
    rintro e w10 ⟨rfl, m1, rfl⟩
    go_wp2_with fail
    refine (gatehouseref13_Same.calls k A3 c3 Q A4 c4 Q true _ (Kd.C_drewN (Kd.C_alloc HC3_9.out.1 _) _) HC3_9.out.2 (Kd.C_drewN (Kd.C_alloc HC4_9.out.1 _) _) HC4_9.out.2 HS.out.2.1).mono ?_
    rintro e w11 ⟨rfl, m2, rfl⟩
    go_wp2_with fail
    refine (gatehouseref13_Same.calls k _ _ l _ _ l true _ (Kd.C_drewN (Kd.C_alloc HP9.out _) _) HP0.out (Kd.C_drewN (Kd.C_alloc HL9.out _) _) HC0.out HS.out.2.2).mono ?_
    rintro e w12 ⟨rfl, m3, rfl⟩
    go_wp2_with fail
    go_ret
    exact ⟨rfl, pw_below_drewN (HB9.out.alloc HB9.out.size _) _⟩
end Go.Proofs.YtijnlgmclaphhaaDoor
