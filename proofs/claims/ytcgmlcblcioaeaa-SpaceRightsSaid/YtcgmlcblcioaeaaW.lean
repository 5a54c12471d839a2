import Derived.Test.YtcgmlcblcioaeaaV
import Derived.Deep.DeepCutAuto
import Derived.BigQuiet
import Derived.BigRegion
import Derived.Deep.RegionWith
namespace Go.Proofs.Ytcgmlcblcioaeaa
open Go.RowKit

set_option maxRecDepth 100000 in
set_option maxHeartbeats 1000000 in
theorem insertEnd_any (v x : Value) (l : List Mp) (m : Mp) (w : World) (B : Nat) (hl : Own w B 31 7 v l.length (mcells l)) (hx : RowsAt w x [m]) (hn : l.length ≤ 1000) (hB : B ≤ w.heap.size) :
    Calls Try.prog 24 #[v, .int .i64 l.length, x] w fun e w' => ∃ v', e = .returned v' ∧ Own w' B 31 7 v' (l.length + 1) (mcells (l ++ [m])) ∧ Below B w w' := by
  have hsrc := hx.src
  have hfrm : ∃ oa cap, v = .slice oa l.length cap ∧ l.length ≤ cap ∧ cap ≤ maxLen := by
    rcases hl.2 with ⟨rfl, h0⟩ | ⟨g, off, cap, cur, rfl, _, _, _, h1, h2, _⟩
    · exact ⟨none, 0, by rw [h0], by omega, Nat.zero_le _⟩
    · exact ⟨_, cap, rfl, h1, h2⟩
  obtain ⟨oa, cap, rfl, hc1, hc2⟩ := hfrm
  obtain ⟨oc, capx, bx, offx, rfl, k1, k2, k3, k4⟩ := hx
  obtain ⟨i0, hi, hz0, hz1, hz2⟩ := info_parts info31
  have HI := Lib.hid (And.intro hi (And.intro hz0 (And.intro hz1 hz2)))
  have HS := Lib.hid hsrc
  clear hi hz0 hz1 hz2 hsrc k3 k4
  unfold maxLen at hc2 k2
  simp only [List.length_singleton] at *
  go_enter Try.func24, Try.ntmps24
  go_wp2_with (at_builtin; go_loud (refine wpList_append_Own rfl (.tmp 23) (.tmp 24) 22 22 rfl B 31 i0 (.agg #[.int .i64 0, .int .i64 0, .int .i64 0, .int .i64 0, .int .i64 0, .bool false, .bool false]) 7 48 Try.underlying22 HI.out.1 HI.out.2.1 HI.out.2.2.1 HI.out.2.2.2 rfl _ _ _ rfl hl _ 1 (mcells [m]) rfl HS.out (by unfold maxLen; omega) (by omega) hB ?_))
  all_goals
    intro v' w5 hown hg
    have hb : Below B w w5 := (Below.refl B w).grown hg hB (fun q hq => (hl.block q (by cases oa <;> exact hq)).1)
    rw [← mcells_append] at hown
    go_wp2
    go_ret
    exact ⟨_, rfl, hown, hb⟩

/-- A mapping in a variable. -/
def BoxAt (w : World) (g : Nat) (m : Mp) : Prop := g < w.heap.size ∧ ∀ j, j < 7 → w.cell? ⟨g, j, none⟩ = some (m.cell j)
theorem BoxAt.below {w w' : World} {g : Nat} {m : Mp} (h : BoxAt w g m) (hb : Below w.heap.size w w') : BoxAt w' g m :=
  ⟨Nat.lt_of_lt_of_le h.1 hb.size, fun j hj => by rw [hb.cell (p := ⟨g, j, none⟩) h.1]; exact h.2 j hj⟩
theorem BoxAt.new (w : World) (m : Mp) (t : TypeId) : BoxAt (w.alloc (.cells m.cells t)) w.heap.size m :=
  ⟨by simp, (boxed m w _ t (Below.refl _ _)).1⟩
theorem BoxAt.cells {m : Mp} {wr : World} {g : Nat} (h : BoxAt wr g m) :
    wr.cell? ⟨g, 0, none⟩ = some (.int .i64 m.va) ∧ wr.cell? ⟨g, 1, none⟩ = some (.int .i64 m.pages) ∧ wr.cell? ⟨g, 2, none⟩ = some (.int .i64 m.inn) ∧
    wr.cell? ⟨g, 3, none⟩ = some (.int .i64 m.num) ∧ wr.cell? ⟨g, 4, none⟩ = some (.int .i64 m.frm) ∧ wr.cell? ⟨g, 5, none⟩ = some (.bool m.wri) ∧ wr.cell? ⟨g, 6, none⟩ = some (.bool m.run) :=
  ⟨h.2 0 (by omega), h.2 1 (by omega), h.2 2 (by omega), h.2 3 (by omega), h.2 4 (by omega), h.2 5 (by omega), h.2 6 (by omega)⟩
/-- A slice of the one mapping in a variable. -/
theorem BoxAt.row {w : World} {g : Nat} {m : Mp} (h : BoxAt w g m) : RowsAt w (.slice (some ⟨g, 0, none⟩) 1 1) [m] := by
  refine ⟨some ⟨g, 0, none⟩, 1, g, 0, rfl, Nat.le_refl _, by decide, fun _ => ⟨rfl, h.1⟩, fun i hi j hj => ?_⟩
  have : i = 0 := by simpa using hi
  subst this
  rw [show 0 + 0 * 7 + j = j by omega]
  exact h.2 j hj

set_option maxRecDepth 100000 in
set_option maxHeartbeats 1000000 in
theorem putEnd_any (v : Value) (l : List Mp) (m : Mp) (w : World) (hl : RowsAt w v l) (hr : rightL l = true) (hm : m.good = true) (ha : atI l m.va = l.length) (hn : l.length < 16) :
    Calls Try.prog 12 #[v, m.val] w fun e w' => ∃ v', e = .returned (.tuple #[v', .int .i64 0]) ∧ RowsAt w' v' (l ++ [m]) ∧ Below w.heap.size w w' := by
  obtain ⟨g1, g2, g3, g4, _⟩ := good_out hm
  obtain ⟨oa, cap, rfl⟩ : ∃ oa cap, v = .slice oa l.length cap := by
    obtain ⟨oa, cap, _, _, rfl, _⟩ := hl
    exact ⟨oa, cap, rfl⟩
  unfold Mp.val
  go_enter Try.func12, Try.ntmps12
  go_wp2_with fail
  have hb0 : Below w.heap.size w (w.alloc (.cells m.cells 31)) := (Below.refl _ _).alloc (Nat.le_refl _) _
  refine (Right_any _ l _ (hl.below hb0)).mono ?_
  rintro e w1 ⟨rfl, hb1⟩
  have hx := (BoxAt.new w m 31).below hb1
  have hb := below_through hb0 hb1
  obtain ⟨c0, c1, c2, c3, c4, c5, c6⟩ := hx.cells
  rw [hr]
  go_wp2_with fail
  refine (right_any m w1).mono ?_
  rintro e w2 ⟨rfl, hb2⟩
  rw [hm]
  have hb3 := below_through hb hb2
  clear c0 c1 c2 c3 c4 c5 c6
  have hx2 := hx.below hb2
  obtain ⟨c0, c1, c2, c3, c4, c5, c6⟩ := hx2.cells
  go_wp2_with fail
  refine (at_any _ l m.va w2 (hl.below hb3) hr (by omega)).mono ?_
  rintro e w4 ⟨rfl, hb4⟩
  have hb5 := below_through hb3 hb4
  rw [ha]
  clear c0 c1 c2 c3 c4 c5 c6
  have hx4 := hx2.below hb4
  obtain ⟨c0, c1, c2, c3, c4, c5, c6⟩ := hx4.cells
  have HL := Lib.hid (fun (w' : World) (hb : Below w.heap.size w w') => hl.below hb)
  have hlt : ¬ ((l.length : Int) < (l.length : Int)) := by omega
  clear hl hx hx2 hb hb0 hb1 hb2 hb3 hb4
  go_wp2
  go_quiet (fail)
  obtain ⟨W, hW⟩ : ∃ W : World, W = w4.drewN nq := ⟨_, rfl⟩
  rw [← hW]
  have hbW : Below w.heap.size w W := by subst hW; exact ⟨hb5.os, hb5.tape, hb5.output, hb5.size, hb5.block⟩
  have hxW : BoxAt W w.heap.size m := by subst hW; exact hx4
  clear hx4 hb5 hW c0 c1 c2 c3 c4 c5 c6
  obtain ⟨c0, c1, c2, c3, c4, c5, c6⟩ := hxW.cells
  go_wp2_with fail
  go_region_with (first
    | (go_at_call 25; refine (clone_any _ l _ (HL.out _ (hbW.trans ((show Below W.heap.size W _ by first | exact Below.refl _ _ | exact (Below.refl _ _).drew | exact ((Below.refl _ _).drew.alloc (Nat.le_refl _) _) | exact ((Below.refl _ _).alloc (Nat.le_refl _) _) | exact ((Below.refl _ _).alloc (Nat.le_refl _) _).drew).mono hbW.size))) (by omega)).mono ?_; rintro e w5 ⟨v', rfl, hown, hb'⟩; have h5 : Below W.heap.size W w5 := below_through (by first | exact Below.refl _ _ | exact (Below.refl _ _).drew | exact ((Below.refl _ _).drew.alloc (Nat.le_refl _) _) | exact ((Below.refl _ _).alloc (Nat.le_refl _) _) | exact ((Below.refl _ _).alloc (Nat.le_refl _) _).drew) hb'; have hx5 := hxW.below h5; obtain ⟨e0, e1, e2, e3, e4, e5, e6⟩ := hx5.cells)
    | (go_at_call 24; go_loud (refine (insertEnd_any _ _ l m _ _ (by first | exact hown | exact hown.below ((Below.refl _ _).alloc (Nat.le_refl _) _) | exact hown.below ((Below.refl _ _).alloc (Nat.le_refl _) _).drew | exact hown.below (Below.refl _ _).drew) (by first | exact (BoxAt.new w5 m 31).row | exact ((BoxAt.new W m 31).below hb').row | exact ((BoxAt.new W.drew m 31).below hb').row) (by omega) (by first | (have := hb'.size; simp at *; omega))).mono ?_); rintro e w6 ⟨v6, rfl, hown6, hb6⟩))
  all_goals
    have h6 : Below W.heap.size W w6 := Below.trans (by first | exact h5 | exact h5.alloc h5.size _ | exact h5.drew | exact (h5.alloc h5.size _).drew | exact h5.drew.alloc h5.size _) (hb6.mono (by simp))
    clear hb' hb6 hown h5 hx5 e0 e1 e2 e3 e4 e5 e6 c0 c1 c2 c3 c4 c5 c6
    go_wp2
    go_ret2
    exact ⟨v6, rfl, RowsAt.of_own (by simpa using hown6), below_through hbW h6⟩
end Go.Proofs.Ytcgmlcblcioaeaa
