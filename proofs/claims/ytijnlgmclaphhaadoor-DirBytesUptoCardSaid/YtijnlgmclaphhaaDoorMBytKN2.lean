import Derived.Test.YtijnlgmclaphhaaDoorMBytKN
namespace Go.Proofs.YtijnlgmclaphhaaDoor
open Go.RowKit Go.Proofs.YtijnlgmclaphhaaDoorZ

def cutL (l : List Nm) (s : ByteArray) : List Nm × Int :=
  if rightL l = true then (if hasN l s = true then (l.take (atI l s) ++ l.drop (atI l s + 1), 0) else ([], 20)) else ([], 2)
theorem cutL_no {l : List Nm} {s : ByteArray} (h : rightL l = false) : cutL l s = ([], 2) := by unfold cutL; rw [if_neg (by rw [h]; simp)]
theorem cutL_yes {l : List Nm} {s : ByteArray} (h : rightL l = true) : cutL l s = if hasN l s = true then (l.take (atI l s) ++ l.drop (atI l s + 1), 0) else ([], 20) := by unfold cutL; rw [if_pos h]

set_option maxRecDepth 100000 in
set_option maxHeartbeats 4000000 in
theorem cut_any (v : Value) (l : List Nm) (s : ByteArray) (w : World) (hl : RowsAt w v l) (hn : l.length ≤ 4398046511104) :
    Calls Tryd.prog 20 #[v, .string s] w fun e w' => ∃ v', e = .returned (.tuple #[v', .int .i64 (cutL l s).2]) ∧ w'.ownsRow w.heap.size 25 3 v' (cutL l s).1.length (ncells (cutL l s).1) ∧ Below w.heap.size w w' := by
  obtain ⟨oa, cap, rfl, hoa⟩ : ∃ oa cap, v = .slice oa l.length cap ∧ (oa = none → l.length = 0) := by
    obtain ⟨oa, cap, _, _, rfl, _, _, h3, _⟩ := hl
    refine ⟨oa, cap, rfl, fun h => ?_⟩
    rcases Nat.eq_zero_or_pos l.length with h0 | h0
    · exact h0
    · have := (h3 h0).1; rw [h] at this; cases this
  go_enter Tryd.func20, Tryd.ntmps20
  go_wp2_with fail
  refine (Right_any _ _ l _ hl hn).mono ?_
  rintro e w1 ⟨rfl, hb1⟩
  cases hr : rightL l
  · have HE := Lib.hid (cutL_no (s := s) hr)
    go_wp2
    go_ret2
    rw [HE.out]
    exact ⟨_, rfl, row_nil _ _, hb1⟩
  · have HE := Lib.hid (cutL_yes (s := s) hr)
    have ho := (right_ord hr).1
    have hlen := right_len hr
    go_wp2_with fail
    refine (at_any _ l s w1 (hl.below hb1) ho (by omega)).mono ?_
    rintro e w2 ⟨rfl, hb2⟩
    have hb := below_through hb1 hb2
    have HL := Lib.hid (fun (w' : World) (hb : Below w.heap.size w w') => hl.below hb)
    clear hl hb1 hb2
    cases hhas : hasN l s
    · go_wp2
      go_ret2
      rw [HE.out, hhas]
      exact ⟨_, rfl, row_nil _ _, hb⟩
    · obtain ⟨hil, _⟩ := (hasN_iff ho).1 hhas
      generalize hi0 : atI l s = i at *
      clear hi0
      have hwi : IntKind.i64.wrap ((i : Int) + 1) = (i : Int) + 1 := by rw [IntKind.wrap_i64]; omega
      obtain ⟨p0, p1, p2, p3, p4⟩ := bel_steps w2
      go_wp2_with (first
        | (go_at_call 33; refine (clone_row _ l.length cap (ncells l) _ (fun w' hb' => (HL.out w' (below_through hb hb')).src) hoa (by omega)).mono ?_; rintro e w5 ⟨v', rfl, hown0, hb'⟩; have h5 := below_through hb hb'; obtain ⟨oa', cap', rfl, hown1⟩ := slice_of_row hown0)
        | (go_at_call 42; refine (delete_row _ l.length i (ncells l) w5 w2.heap.size hown1 (ncells_one l) hil (by omega)).mono ?_; rintro e w6 ⟨v6, rfl, hown6, hb6⟩))
      have h6 : Below w.heap.size w w6 := h5.trans (hb6.mono (by have := hb.size; omega))
      have hown7 := row_weaken hown6 hb.size
      clear hb' hb6 hown0 hown1 h5 hown6
      go_ret2
      rw [HE.out, if_pos hhas]
      refine ⟨v6, rfl, ?_, h6⟩
      rw [show (l.take i ++ l.drop (i + 1), (0 : Int)).1.length = l.length - 1 by simp; omega, ncells_append, ncells_take, ncells_drop]
      exact hown7
end Go.Proofs.YtijnlgmclaphhaaDoor
namespace Go.Proofs.YtijnlgmclaphhaaDoorZ
open Go.RowKit Go.Proofs.YtijnlgmclaphhaaDoor Go.Proofs.YtijnlgmclaphhaaDoorW.PrintWords
def dir_Cut.f (l0 : List (S25)) (a1 : ByteArray) : Option ((List (S25)) × Int) := if l0.length ≤ 4398046511104 then some (cutL l0 a1) else none
theorem dir_Cut.calls (A0 : Option Addr) (c0 : Nat) (l0 : List (S25)) (a1 : ByteArray) (r1 : List (S25)) (r2 : Int) (w : World) (hr0 : Kd.C k25 w A0 l0.length l0) (hc0 : l0.length ≤ c0) (h : dir_Cut.f l0 a1 = some (r1, r2)) :
    Calls Tryd.prog 20 #[.slice A0 l0.length c0, .string a1] w fun e w' => ∃ v0_ : Value, e = .returned (.tuple #[v0_, .int .i64 r2]) ∧ Kd.R k25 25 w' w.heap.size (fun _ => True) v0_ r1 ∧ Below w.heap.size w w' := by
  unfold dir_Cut.f at h
  split at h
  · rename_i hl
    refine (cut_any _ l0 a1 w (rows_of_C hr0 hc0) hl).mono ?_
    injection h with h
    rw [h]
    rintro e w' ⟨v', rfl, ho, hb⟩
    exact ⟨v', rfl, R_of_row _ ho, hb⟩
  · cases h
end Go.Proofs.YtijnlgmclaphhaaDoorZ
