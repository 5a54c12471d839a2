import Derived.Test.YtcgmlcblcioaeaaN
namespace Go.Proofs.Ytcgmlcblcioaeaa
open Go.RowKit

def cutL (l : List Mp) (p : Int) : List Mp × Int :=
  if rightL l = true then (if l.any (fun m => m.va == p) = true then (l.filter (fun m => m.va != p), 0) else ([], 4)) else ([], 1)
theorem filter_at (l : List Mp) (p : Int) (i : Nat) (hi : i < l.length) (h : l[i].va = p) (ho : ∀ a b (ha : a < l.length) (hb : b < l.length), a < b → l[a].va < l[b].va) : l.filter (fun m => m.va != p) = l.take i ++ l.drop (i + 1) := by
  have e : l = l.take i ++ l[i] :: l.drop (i + 1) := by
    rw [← List.drop_eq_getElem_cons hi, List.take_append_drop]
  conv => lhs; rw [e]
  rw [List.filter_append, List.filter_cons]
  have h1 : (l.take i).filter (fun m => m.va != p) = l.take i := by
    rw [List.filter_eq_self]
    intro m hm
    obtain ⟨a, ha, rfl⟩ := List.getElem_of_mem hm
    have ha2 : a < i := by simp at ha; omega
    have := ho a i (by omega) hi ha2
    simp only [List.getElem_take, bne_iff_ne, ne_eq]
    omega
  have h2 : (l.drop (i + 1)).filter (fun m => m.va != p) = l.drop (i + 1) := by
    rw [List.filter_eq_self]
    intro m hm
    obtain ⟨a, ha, rfl⟩ := List.getElem_of_mem hm
    have ha2 : i + 1 + a < l.length := by simp at ha; omega
    have := ho i (i + 1 + a) hi ha2 (by omega)
    simp only [List.getElem_drop, bne_iff_ne, ne_eq]
    omega
  rw [h1, h2]
  simp [h]
theorem enter30 : ∀ args w, (callFunc 30 args).run Try.prog w = .ok (.enter 30 args) w := by
  intro args w
  have h1 : (Try.f30.name == "runtime.NumGoroutine") = false := by kernel_rfl
  have h2 : Try.f30.body.isNone = false := by kernel_rfl
  simp only [callFunc, Sem.run_bind, run_program, Result.andThen_ok, Try.func30, h1, h2]
  rfl
theorem cutL_no {l : List Mp} {p : Int} (h : rightL l = false) : cutL l p = ([], 1) := by unfold cutL; rw [if_neg (by rw [h]; simp)]
theorem cutL_yes {l : List Mp} {p : Int} (h : rightL l = true) : cutL l p = if l.any (fun m => m.va == p) = true then (l.filter (fun m => m.va != p), 0) else ([], 4) := by unfold cutL; rw [if_pos h]

set_option maxRecDepth 100000 in
set_option maxHeartbeats 4000000 in
theorem cut_any (v : Value) (l : List Mp) (p : Int) (w : World) (hl : RowsAt w v l) :
    Calls Try.prog 16 #[v, .int .i64 p] w fun e w' => ∃ v', e = .returned (.tuple #[v', .int .i64 (cutL l p).2]) ∧ w'.ownsRow w.heap.size 31 7 v' (cutL l p).1.length (mcells (cutL l p).1) ∧ Below w.heap.size w w' := by
  obtain ⟨oa, cap, rfl, hoa⟩ : ∃ oa cap, v = .slice oa l.length cap ∧ (oa = none → l.length = 0) := by
    obtain ⟨oa, cap, _, _, rfl, _, _, h3, _⟩ := hl
    refine ⟨oa, cap, rfl, fun h => ?_⟩
    rcases Nat.eq_zero_or_pos l.length with h0 | h0
    · exact h0
    · have := (h3 h0).1; rw [h] at this; cases this
  go_enter Try.func16, Try.ntmps16
  go_wp2_with fail
  refine (Right_any _ l _ hl).mono ?_
  rintro e w1 ⟨rfl, hb1⟩
  cases hr : rightL l
  · have HE := Lib.hid (cutL_no (p := p) hr)
    go_wp2
    go_ret2
    rw [HE.out]
    exact ⟨_, rfl, row_nil _ _, hb1⟩
  · have HE := Lib.hid (cutL_yes (p := p) hr)
    obtain ⟨hf, hn⟩ := rightL_from hr
    have hord : ∀ a b (ha : a < l.length) (hb : b < l.length), a < b → l[a].va < l[b].va := fun a b ha hb hab => by
      have h1 := right_order hf a b ha hb hab
      have h2 := good_out (right_good hf _ (List.getElem_mem ha))
      omega
    have HO := Lib.hid hord
    go_wp2_with fail
    refine (search_any 30 (fun m => cmpI m.va p) _ l p w1 (hl.below hb1) (by omega) enter30 (fun m _ w => cut1_any m p w) (fun i j hi hj hij => by
      rw [cmp_lt, cmp_lt]
      intro h
      rcases Nat.lt_or_ge i j with h' | h'
      · have := HO.out i j hi hj h'
        omega
      · obtain rfl : i = j := by omega
        exact h)).mono ?_
    clear hord
    rintro e w2 ⟨i, hi, hlo, hhi, rfl, hb2⟩
    have hb := below_through hb1 hb2
    have HL := Lib.hid (fun (w' : World) (hb : Below w.heap.size w w') => hl.below hb)
    have HLO := Lib.hid (And.intro hlo hhi)
    clear hlo hhi hl hf
    have hk : (∃ h : i < l.length, cmpI l[i].va p = 0) ↔ l.any (fun m => m.va == p) = true := by
      constructor
      · rintro ⟨h, h2⟩
        rw [List.any_eq_true]
        exact ⟨l[i], List.getElem_mem h, by simpa using (cmp_eq _ _).1 h2⟩
      · intro h
        rw [List.any_eq_true] at h
        obtain ⟨m, hm, h2⟩ := h
        obtain ⟨a, ha, rfl⟩ := List.getElem_of_mem hm
        have h3 : l[a].va = p := by simpa using h2
        have h4 : ¬ a < i := fun h5 => by
          have := (cmp_lt _ _).1 (HLO.out.1 a ha h5)
          omega
        have hil : i < l.length := by omega
        refine ⟨hil, ?_⟩
        have h6 := HLO.out.2 i hil (Nat.le_refl _)
        rcases Nat.lt_or_ge i a with h7 | h7
        · have := HO.out i a hil ha h7
          have h8 : cmpI l[i].va p < 0 := (cmp_lt _ _).2 (by omega)
          omega
        · obtain rfl : a = i := by omega
          exact (cmp_eq _ _).2 h3
    rw [decide_eq_decide.2 hk]
    by_cases hany : l.any (fun m => m.va == p) = true
    · obtain ⟨hil, hi0⟩ := hk.2 hany
      have hva : l[i].va = p := (cmp_eq _ _).1 hi0
      have HF := Lib.hid (filter_at l p i hil hva HO.out)
      have HANY := Lib.hid hany
      rw [decide_eq_true hany]
      have hlen := (List.length_filter_le (fun m => m.va != p) l)
      clear hk hi0 hva hany HLO hlen
      have hwi : IntKind.i64.wrap ((i : Int) + 1) = (i : Int) + 1 := by rw [IntKind.wrap_i64]; omega
      obtain ⟨p0, p1, p2, p3, p4⟩ := bel_steps w2
      go_wp2_with (first
        | (go_at_call 25; refine (clone_row _ l.length cap (mcells l) _ (fun w' hb' => (HL.out w' (below_through hb hb')).src) hoa (by omega)).mono ?_; rintro e w5 ⟨v', rfl, hown0, hb'⟩; have h5 := below_through hb hb'; obtain ⟨oa', cap', rfl, hown1⟩ := slice_of_row hown0)
        | (go_at_call 32; refine (delete_row _ l.length i (mcells l) w5 w2.heap.size hown1 (mcells_one l) hil (by omega)).mono ?_; rintro e w6 ⟨v6, rfl, hown6, hb6⟩))
      have h6 : Below w.heap.size w w6 := h5.trans (hb6.mono (by have := hb.size; omega))
      have hown7 := row_weaken hown6 hb.size
      clear hb' hb6 hown0 hown1 h5 hown6
      go_ret2
      rw [HE.out, if_pos HANY.out, HF.out]
      refine ⟨v6, rfl, ?_, h6⟩
      rw [show (l.take i ++ l.drop (i + 1), (0 : Int)).1.length = l.length - 1 by simp; omega, mcells_append, mcells_take, mcells_drop]
      exact hown7
    · have HANY := Lib.hid hany
      rw [decide_eq_false hany]
      clear hk hany
      go_wp2
      go_ret2
      rw [HE.out, if_neg HANY.out]
      exact ⟨_, rfl, row_nil _ _, hb⟩
end Go.Proofs.Ytcgmlcblcioaeaa
