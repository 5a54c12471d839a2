import Derived.Test.YtijnlgmclaphhaaDoorMBytKN
set_option linter.unusedVariables false
set_option linter.unusedSimpArgs false
namespace Go.Proofs.YtijnlgmclaphhaaDoor
open Go.RowKit Go.Proofs.YtijnlgmclaphhaaDoorZ

theorem putL_no {l : List Nm} {m : Nm} (h : rightL l = false) : putL l m = ([], 2) := by unfold putL; rw [if_neg (by rw [h]; simp)]
theorem putL_inv {l : List Nm} {m : Nm} (h : rightL l = true) (hm : okN m = false) : putL l m = ([], 31) := by unfold putL; rw [if_pos h, if_neg (by rw [hm]; simp)]
theorem putL_yes {l : List Nm} {m : Nm} (h : rightL l = true) (hm : okN m = true) : putL l m = if hasN l m.f0 = true then ([], 21) else if 4096 < sizeN l + (10 + m.f0.size) then ([], 27) else (insL l m, 0) := by unfold putL; rw [if_pos h, if_pos hm]

theorem size_one (m : Nm) (g : Nat) (w : World) (h : BoxAt w g m) (hm : m.f0.size ≤ 32) : Calls Tryd.prog 31 #[.slice (some ⟨g, 0, none⟩) 1 1] w fun e w' => e = .returned (.int .i64 (10 + (m.f0.size : Int))) ∧ Below w.heap.size w w' := by
  refine (size_any _ _ _ [m] w h.rows (by simpa using hm) (by simp)).mono ?_
  rintro e w' ⟨rfl, hb⟩
  exact ⟨by simp [sizeN], hb⟩
set_option maxRecDepth 100000 in
set_option maxHeartbeats 4000000 in
theorem put_any (v : Value) (l : List Nm) (m : Nm) (w : World) (hl : RowsAt w v l) (hn : l.length ≤ 4398046511104) :
    Calls Tryd.prog 11 #[v, .agg #[.string m.f0, .int .i64 m.f1, .int .i64 m.f2]] w fun e w' => ∃ v', e = .returned (.tuple #[v', .int .i64 (putL l m).2]) ∧ w'.ownsRow w.heap.size 25 3 v' (putL l m).1.length (ncells (putL l m).1) ∧ Below w.heap.size w w' := by
  obtain ⟨oa, cap, rfl, hoa⟩ : ∃ oa cap, v = .slice oa l.length cap ∧ (oa = none → l.length = 0) := by
    obtain ⟨oa, cap, _, _, rfl, _, _, h3, _⟩ := hl
    refine ⟨oa, cap, rfl, fun h => ?_⟩
    rcases Nat.eq_zero_or_pos l.length with h0 | h0
    · exact h0
    · have := (h3 h0).1; rw [h] at this; cases this
  have hb0 : Below w.heap.size w (w.alloc (.cells #[.string m.f0, .int .i64 m.f1, .int .i64 m.f2] 25)) := (Below.refl _ _).alloc (Nat.le_refl _) _
  go_enter Tryd.func11, Tryd.ntmps11
  go_wp2_with fail
  refine (Right_any _ _ l _ (hl.below hb0) hn).mono ?_
  rintro e w1 ⟨rfl, hb1⟩
  have hx := (BoxAt.new w m 25).below hb1
  have hb := below_through hb0 hb1
  obtain ⟨c0, c1, c2⟩ := hx.cells
  cases hr : rightL l
  · have HE := Lib.hid (putL_no (m := m) hr)
    go_wp2
    go_ret2
    rw [HE.out]
    exact ⟨_, rfl, row_nil _ _, hb⟩
  · go_wp2_with fail
    refine (right_any m w1).mono ?_
    rintro e w2 ⟨rfl, hb2⟩
    have hb3 := below_through hb hb2
    clear c0 c1 c2
    have hx2 := hx.below hb2
    obtain ⟨c0, c1, c2⟩ := hx2.cells
    cases hm : okN m
    · have HE := Lib.hid (putL_inv hr hm)
      go_wp2
      go_ret2
      rw [HE.out]
      exact ⟨_, rfl, row_nil _ _, hb3⟩
    · go_wp2_with fail
      refine (at_any _ l m.f0 w2 (hl.below hb3) (right_ord hr).1 (by have := right_len hr; omega)).mono ?_
      rintro e w4 ⟨rfl, hb4⟩
      have hb5 := below_through hb3 hb4
      have HE := Lib.hid (putL_yes hr hm)
      clear c0 c1 c2
      have hx4 := hx2.below hb4
      obtain ⟨c0, c1, c2⟩ := hx4.cells
      have HL := Lib.hid (fun (w' : World) (hb : Below w.heap.size w w') => hl.below hb)
      have hA := atI_le l m.f0
      have hl16 := right_len hr
      have hsz := (right_ord hr).2
      have hmz := (okN_size hm).2
      have hall := fun x hx => (okN_size (ord_ok (right_ord hr).1 x hx)).2
      have HIN : Hid (insL l m = l.take (atI l m.f0) ++ m :: l.drop (atI l m.f0)) := rfl
      generalize hA0 : atI l m.f0 = A at *
      clear hA0
      have HALL := Lib.hid hall
      clear hall hx hx2 hb hb0 hb1 hb2 hb3 hb4 hl
      cases hhas : hasN l m.f0
      · obtain ⟨p0, p1, p2, p3, p4⟩ := bel_steps w4
        have hwr : IntKind.i64.wrap ((sizeN l : Int) + (10 + (m.f0.size : Int))) = (sizeN l : Int) + (10 + (m.f0.size : Int)) := by rw [IntKind.wrap_i64]; omega
        go_wp2
        go_region_with (first
          | (go_at_call_of 31 (Value.slice oa l.length cap); refine (size_any _ _ _ l _ ?a1 HALL.out (by omega)).mono ?_; (case a1 => exact HL.out _ (hb5.trans ((show Below w4.heap.size w4 _ by with_reducible first | exact p0 | exact p1 | exact p2 _ | exact p3 _ | exact p4 _ | exact h6 | exact h6.drew).mono hb5.size))); rintro e w5 ⟨rfl, hb6⟩; have h5 : Below w4.heap.size w4 w5 := Below.trans (show Below w4.heap.size w4 _ by with_reducible first | exact p0 | exact p1 | exact p2 _ | exact p3 _ | exact p4 _ | exact h6 | exact h6.drew) (hb6.mono (by with_reducible first | exact p0.size | exact p1.size | exact (p2 _).size | exact (p3 _).size | exact (p4 _).size | exact h6.size | exact h6.drew.size)); have hx5 := hx4.below h5; obtain ⟨e0, e1, e2⟩ := hx5.cells)
          | (go_at_call 31; refine (size_one m _ _ ?b1 hmz).mono ?_; (case b1 => first | with_reducible exact BoxAt.new w5 m 25 | with_reducible exact BoxAt.new w4 m 25 | with_reducible exact BoxAt.new w4.drew m 25 | with_reducible exact BoxAt.new w5.drew m 25 | exact BoxAt.of_block ((hb6.block w4.heap.size (by simp)).trans (box_nm w4 m 25))); rintro e w6 ⟨rfl, hb7⟩; have h6 : Below w4.heap.size w4 w6 := Below.trans (show Below w4.heap.size w4 _ by with_reducible first | exact h5.alloc h5.size _ | exact (h5.alloc h5.size _).drew | exact h5.drew.alloc h5.size _ | exact h5 | exact h5.drew | exact p2 _ | exact p3 _ | exact p4 _) (hb7.mono (by with_reducible first | exact (h5.alloc h5.size _).size | exact ((h5.alloc h5.size _).drew).size | exact (h5.drew.alloc h5.size _).size | exact h5.size | exact h5.drew.size | exact (p2 _).size | exact (p3 _).size | exact (p4 _).size))))
        all_goals
          have hx6 := hx4.below h6
          have hbW : Below w.heap.size w w6 := hb5.trans (h6.mono hb5.size)
          clear hwr c0 c1 c2 e0 e1 e2 hb6 hb7 h5 h6 hx5 p0 p1 p2 p3 p4 hx4 hb5
          obtain ⟨c0, c1, c2⟩ := hx6.cells
          obtain ⟨p0, p1, p2, p3, p4⟩ := bel_steps w6
          by_cases hfull : 4096 < (sizeN l : Int) + (10 + (m.f0.size : Int))
          · go_wp2
            go_ret2
            rw [HE.out, hhas, if_neg (by simp), if_pos (by omega)]
            exact ⟨_, rfl, row_nil _ _, hbW⟩
          · have HEE : Hid (putL l m = (l.take A ++ m :: l.drop A, 0)) := by show _ = _; rw [HE.out, hhas, if_neg (by simp), if_neg (by omega), HIN.out]
            go_wp2_with fail
            go_region_with (first
              | (go_at_call 33; refine (clone_row _ l.length cap (ncells l) _ (fun w' hb' => (HL.out w' (hbW.trans ((Below.trans (show Below w6.heap.size w6 _ by with_reducible first | exact p0 | exact p1 | exact p2 _ | exact p3 _ | exact p4 _) (hb'.mono (by with_reducible first | exact p0.size | exact p1.size | exact (p2 _).size | exact (p3 _).size | exact (p4 _).size))).mono hbW.size))).src) hoa (by omega)).mono ?_; rintro e w7 ⟨v', rfl, hown0, hb'⟩; have h7 : Below w6.heap.size w6 w7 := below_through (by with_reducible first | exact p0 | exact p1 | exact p2 _ | exact p3 _ | exact p4 _) hb'; have hx7 := hx6.below h7; obtain ⟨e0, e1, e2⟩ := hx7.cells; obtain ⟨oa', cap', rfl, hown1⟩ := slice_of_row hown0; have hownU := row_all hown1 (B' := w6.heap.size) (by with_reducible first | exact p0.size | exact p1.size | exact (p2 _).size | exact (p3 _).size | exact (p4 _).size); obtain ⟨q0, q1, q2, q3, q4⟩ := bel_steps w7)
              | (go_at_call 32; refine (insert_row _ l.length A _ (ncells l) (nlist m) _ w6.heap.size ?a1 (ncells_one l) ?a2 rfl (nlist_one m) ?a3 ?a4 ?a5 ?a6).mono ?_; (case a1 => exact hownU _ (by with_reducible first | exact q0 | exact q1 | exact q2 _ | exact q3 _ | exact q4 _)); (case a2 => first | with_reducible exact box_nm w7 m 25 | with_reducible exact (hb'.block _ (by simp)).trans (box_nm w6 m 25) | with_reducible exact (hb'.block _ (by simp)).trans (box_nm w6.drew m 25) | (rw [hb'.block w6.heap.size (by simp)]; exact box_nm w6 m 25)); (case a3 => intro k hk; have hz := (row_block hown1 k hk).1; have hz2 := (row_block hown1 k hk).2; (try simp only [size_alloc', size_drew'] at hz); omega); (case a4 => omega); (case a5 => omega); (case a6 => have hs7 := h7.size; (try simp only [size_alloc', size_drew']); omega); rintro e w8 ⟨v6, rfl, hown6, hb8⟩))
            all_goals
              have h8 : Below w6.heap.size w6 w8 := Below.trans (by with_reducible first | exact h7 | exact h7.alloc h7.size _ | exact h7.drew | exact (h7.alloc h7.size _).drew | exact h7.drew.alloc h7.size _) hb8
              rw [← ncells_ins] at hown6
              clear hb' hb8 hown0 hown1 h7 hx7 e0 e1 e2 c0 c1 c2
              go_wp2
              go_ret2
              rw [HEE.out]
              exact ⟨v6, rfl, by rw [show (l.take A ++ m :: l.drop A, (0 : Int)).1.length = l.length + 1 by first | (simp; done) | (simp; omega)]; exact row_weaken hown6 hbW.size, hbW.trans (h8.mono hbW.size)⟩
      · go_wp2
        go_ret2
        rw [HE.out, hhas]
        exact ⟨_, rfl, row_nil _ _, hb5⟩
end Go.Proofs.YtijnlgmclaphhaaDoor
namespace Go.Proofs.YtijnlgmclaphhaaDoorZ
open Go.RowKit Go.Proofs.YtijnlgmclaphhaaDoor Go.Proofs.YtijnlgmclaphhaaDoorW.PrintWords
def dir_Put.f (l0 : List (S25)) (a1_0 : ByteArray) (a1_1 : Int) (a1_2 : Int) : Option ((List (S25)) × Int) := if l0.length ≤ 4398046511104 then some (putL l0 ⟨a1_0, a1_1, a1_2⟩) else none
theorem dir_Put.calls (A0 : Option Addr) (c0 : Nat) (l0 : List (S25)) (a1_0 : ByteArray) (a1_1 : Int) (a1_2 : Int) (r1 : List (S25)) (r2 : Int) (w : World) (hr0 : Kd.C k25 w A0 l0.length l0) (hc0 : l0.length ≤ c0) (h : dir_Put.f l0 a1_0 a1_1 a1_2 = some (r1, r2)) :
    Calls Tryd.prog 11 #[.slice A0 l0.length c0, .agg #[.string a1_0, .int .i64 a1_1, .int .i64 a1_2]] w fun e w' => ∃ v0_ : Value, e = .returned (.tuple #[v0_, .int .i64 r2]) ∧ Kd.R k25 25 w' w.heap.size (fun _ => True) v0_ r1 ∧ Below w.heap.size w w' := by
  unfold dir_Put.f at h
  split at h
  · rename_i hl
    refine (put_any _ l0 ⟨a1_0, a1_1, a1_2⟩ w (rows_of_C hr0 hc0) hl).mono ?_
    injection h with h
    rw [h]
    rintro e w' ⟨v', rfl, ho, hb⟩
    exact ⟨v', rfl, R_of_row _ ho, hb⟩
  · cases h
end Go.Proofs.YtijnlgmclaphhaaDoorZ
