import Derived.Test.YtijnlgmclaphhaaDoorMBytKN
namespace Go.Proofs.YtijnlgmclaphhaaDoor
open Go.RowKit Go.Proofs.YtijnlgmclaphhaaDoorZ

def nm0 : Nm := ⟨⟨#[]⟩, 0, 0⟩
theorem takeWhile_hit {α : Type} (q : α → Bool) : ∀ (l : List α) (i : Nat) (h : i < l.length), (∀ k (h : k < l.length), k < i → q (l[k]) = true) → q (l[i]) = false → (l.takeWhile q).length = i
  | [], i, hi, _, _ => by simp at hi
  | a :: l, 0, _, _, h2 => by
    simp only [List.getElem_cons_zero] at h2
    simp [List.takeWhile_cons, h2]
  | a :: l, i + 1, hi, h1, h2 => by
    have h0 := h1 0 (by simp) (by omega)
    simp only [List.getElem_cons_zero] at h0
    rw [List.takeWhile_cons, if_pos h0, List.length_cons, takeWhile_hit q l i (by simpa using hi) (fun k hk hki => h1 (k + 1) (Nat.succ_lt_succ hk) (by omega)) (by simpa using h2)]
theorem takeWhile_all {α : Type} (q : α → Bool) : ∀ (l : List α), (∀ k (h : k < l.length), q (l[k]) = true) → (l.takeWhile q).length = l.length
  | [], _ => rfl
  | a :: l, h => by
    have h0 := h 0 (by simp)
    simp only [List.getElem_cons_zero] at h0
    rw [List.takeWhile_cons, if_pos h0, List.length_cons, List.length_cons, takeWhile_all q l fun k hk => h (k + 1) (Nat.succ_lt_succ hk)]
def findI (l : List Nm) (s : ByteArray) : Nat := (l.takeWhile fun x => x.f0.toList != s.toList).length
def findL (l : List Nm) (s : ByteArray) : Nm × Bool := if h : findI l s < l.length then (l[findI l s], true) else (nm0, false)

def findR (l : List Nm) (s : ByteArray) : Int := if findI l s < l.length then (findI l s : Int) else -1
theorem find1_any (m : Nm) (s : ByteArray) (sb : Nat) (w : World) (hs : w.cell? ⟨sb, 0, none⟩ = some (.string s)) (hsb : sb < w.heap.size) :
    Calls Tryd.prog 44 #[nval m, .pointer (some ⟨sb, 0, none⟩)] w fun e w' => e = .returned (.bool (m.f0.toList == s.toList)) ∧ Below w.heap.size w w' := by
  have h1 : (w.alloc (.cells #[.string m.f0, .int .i64 m.f1, .int .i64 m.f2] 25)).cell? ⟨sb, 0, none⟩ = some (.string s) := by
    rw [((Below.refl w.heap.size w).alloc (Nat.le_refl _) _).cell (p := ⟨sb, 0, none⟩) hsb]; exact hs
  have hne : ¬ w.heap.size = sb := by omega
  unfold nval
  go_enter Tryd.func44, Tryd.ntmps44
  go_wp2
  go_ret
  exact ⟨rfl, (Below.refl _ _).alloc (Nat.le_refl _) _⟩
theorem enter44 : ∀ args w, (callFunc 44 args).run Tryd.prog w = .ok (.enter 44 args) w := by
  intro args w
  have h1 : (Tryd.f44.name == "runtime.NumGoroutine") = false := by kernel_rfl
  have h2 : Tryd.f44.body.isNone = false := by kernel_rfl
  simp only [callFunc, Sem.run_bind, run_program, Result.andThen_ok, Tryd.func44, h1, h2]
  rfl
theorem findI_le (l : List Nm) (s : ByteArray) : findI l s ≤ l.length := by
  unfold findI
  induction l with
  | nil => simp
  | cons a l ih =>
    simp only [List.takeWhile_cons]
    split
    · simp only [List.length_cons]; omega
    · simp
set_option maxRecDepth 100000 in
set_option maxHeartbeats 1000000 in
theorem indexFunc_any (oa : Option Addr) (cap : Nat) (l : List Nm) (s : ByteArray) (sb : Nat) (w : World) (hl : RowsAt w (.slice oa l.length cap) l) (hs : w.cell? ⟨sb, 0, none⟩ = some (.string s)) (hsb : sb < w.heap.size) (hn : l.length ≤ 4398046511104) :
    Calls Tryd.prog 43 #[.slice oa l.length cap, .func (Fn.func 44) #[] #[.pointer (some ⟨sb, 0, none⟩)]] w fun e w' => e = .returned (.int .i64 (findR l s)) ∧ Below w.heap.size w w' := by
  obtain ⟨oa', cap', b, off, hv, h1, h2, h3, h4⟩ := hl
  cases hv
  have H3 := Lib.hid h3
  have H4 := Lib.hid h4
  have he := enter44
  clear h3 h4
  unfold maxLen at h2
  go_enter Tryd.func43, Tryd.ntmps43
  go_wp2
  go_loopw [8] (fun vi wr => ∃ (i : Nat), vi = .int .i64 i ∧ i ≤ l.length ∧ Hid (∀ q (h : q < l.length), q < i → ((l[q]).f0.toList == s.toList) = false) ∧ Below w.heap.size w wr) (fun vi _ => (l.length - (intOf vi).toNat))
  case atStart => exact ⟨0, rfl, by omega, fun q h h' => by omega, Below.refl _ _⟩
  case round =>
    obtain ⟨i, rfl, hi, hlo, hbel⟩ := hrel
    by_cases hlt : i < l.length
    · obtain ⟨rfl, hb⟩ := H3.out (by omega)
      obtain ⟨c0, c1, c2⟩ := RowsAt.cells H4 hbel hb i hlt
      have HM : Hid (∃ m : Nm, l[i] = m) := ⟨_, rfl⟩
      obtain ⟨m, hm⟩ := HM.out
      rw [hm] at c0 c1 c2
      have hs1 : wr.cell? ⟨sb, 0, none⟩ = some (.string s) := by rw [hbel.cell (p := ⟨sb, 0, none⟩) hsb]; exact hs
      have HF := Lib.hid (find1_any m s sb wr hs1 (Nat.lt_of_lt_of_le hsb hbel.size))
      have HM2 := Lib.hid hm
      clear hm hs1 HM
      have hlt' : (i : Int) < (l.length : Int) := by omega
      cases hq : (m.f0.toList == s.toList)
      · rw [hq] at HF
        go_wp2_with fail
        refine HF.out.mono ?_
        rintro e w1 ⟨rfl, hb1⟩
        go_wp2
        go_roundw
        case rel =>
          refine ⟨i + 1, by go_num, by omega, fun q hq' hqi => ?_, below_through hbel hb1⟩
          rcases Nat.lt_or_ge q i with h' | h'
          · exact hlo.out q hq' h'
          · obtain rfl : q = i := by omega
            rw [HM2.out]; exact hq
        case measure => simp [intOf]; omega
      · rw [hq] at HF
        have hfi : findI l s = i := takeWhile_hit _ l i hlt (fun k hk hki => by rw [bne, hlo.out k hk hki]; rfl) (by rw [HM2.out, bne, hq]; rfl)
        have HFI := Lib.hid (show findR l s = i by unfold findR; rw [hfi, if_pos hlt])
        clear hfi
        go_wp2_with fail
        refine HF.out.mono ?_
        rintro e w1 ⟨rfl, hb1⟩
        go_wp2
        go_ret
        rw [HFI.out]
        exact ⟨rfl, below_through hbel hb1⟩
    · obtain rfl : i = l.length := by omega
      have hfi : findI l s = l.length := takeWhile_all _ l (fun k hk => by rw [bne, hlo.out k hk hk]; rfl)
      have HFI := Lib.hid (show findR l s = -1 by unfold findR; rw [hfi, if_neg (by omega)])
      clear hfi
      go_wp2
      go_ret
      rw [HFI.out]
      exact ⟨rfl, hbel⟩
theorem findL_yes {l : List Nm} {s : ByteArray} (h : findI l s < l.length) : findL l s = (l[findI l s], true) := by unfold findL; rw [dif_pos h]
theorem findL_no {l : List Nm} {s : ByteArray} (h : ¬ findI l s < l.length) : findL l s = (nm0, false) := by unfold findL; rw [dif_neg h]
set_option maxRecDepth 100000 in
set_option maxHeartbeats 1000000 in
theorem find_any (oa : Option Addr) (cap : Nat) (l : List Nm) (s : ByteArray) (w : World) (hl : RowsAt w (.slice oa l.length cap) l) (hn : l.length ≤ 4398046511104) :
    Calls Tryd.prog 22 #[.slice oa l.length cap, .string s] w fun e w' => e = .returned (.tuple #[nval (findL l s).1, .bool (findL l s).2]) ∧ Below w.heap.size w w' := by
  have hb0 : Below w.heap.size w ((w.alloc (.cells #[.string s] 9)).alloc (.cells #[.string ⟨#[]⟩, .int .i64 0, .int .i64 0] 25)) := ((Below.refl _ _).alloc (Nat.le_refl _) _).alloc (by simp) _
  have hs0 : ((w.alloc (.cells #[.string s] 9)).alloc (.cells #[.string ⟨#[]⟩, .int .i64 0, .int .i64 0] 25)).cell? ⟨w.heap.size, 0, none⟩ = some (.string s) := by
    rw [((Below.refl _ _).alloc (Nat.le_refl _) _).cell (p := ⟨w.heap.size, 0, none⟩) (by simp)]
    exact cell_of_row _ w.heap.size 0 _ _ (0, 0) (heap_alloc_new w _)
  have hI := indexFunc_any oa cap l s w.heap.size _ (hl.below hb0) hs0 (by simp; omega) hn
  have HI := Lib.hid hI
  have hle := findI_le l s
  have HL := Lib.hid (fun (w' : World) (hb : Below w.heap.size w w') => hl.below hb)
  have hgr : ((w.alloc (.cells #[.string s] 9)).alloc (.cells #[.string ⟨#[]⟩, .int .i64 0, .int .i64 0] 25)).heap[w.heap.size + 1]? = some (.cells #[.string ⟨#[]⟩, .int .i64 0, .int .i64 0] 25 (0, 0)) := by
    have := heap_alloc_new (w.alloc (.cells #[.string s] 9)) (.cells #[.string ⟨#[]⟩, .int .i64 0, .int .i64 0] 25)
    simpa using this
  have HG := Lib.hid hgr
  have HB0 := Lib.hid hb0
  clear hI hs0 hl hgr hb0
  unfold nval
  go_enter Tryd.func22, Tryd.ntmps22
  go_wp2_with fail
  refine HI.out.mono ?_
  rintro e w1 ⟨rfl, hb1⟩
  have hg1 : w1.heap[w.heap.size + 1]? = some (.cells #[.string ⟨#[]⟩, .int .i64 0, .int .i64 0] 25 (0, 0)) := (hb1.block _ (by simp)).trans HG.out
  have hb : Below w.heap.size w w1 := HB0.out.trans (hb1.mono (by simp; omega))
  have d0 : w1.cell? ⟨w.heap.size + 1, 0, none⟩ = some (.string ⟨#[]⟩) := cell_of_row _ _ 0 _ _ (0, 0) hg1
  have d1 : w1.cell? ⟨w.heap.size + 1, 1, none⟩ = some (.int .i64 0) := cell_of_row _ _ 1 _ _ (0, 0) hg1
  have d2 : w1.cell? ⟨w.heap.size + 1, 2, none⟩ = some (.int .i64 0) := cell_of_row _ _ 2 _ _ (0, 0) hg1
  have f0 : ∀ o, w1.frozen? ⟨w.heap.size + 1, o, none⟩ = false := fun o => by simp [World.frozen?, hg1]
  clear hb1
  by_cases hlt : findI l s < l.length
  · have HR := Lib.hid (show findR l s = (findI l s : Int) by unfold findR; rw [if_pos hlt])
    have HF := Lib.hid (findL_yes hlt)
    obtain ⟨oa', cap', b, off, hv, h1, h2, h3, h4⟩ := HL.out w1 hb
    cases hv
    obtain ⟨rfl, hbb⟩ := h3 (by omega)
    obtain ⟨c0, c1, c2⟩ := RowsAt.cells (Lib.hid h4) (Below.refl _ _) hbb (findI l s) hlt
    rw [HR.out]
    clear h3 h4 hg1 HR
    generalize (l[findI l s]'hlt) = m at *
    generalize findI l s = i at *
    have hlt' : (i : Int) < (l.length : Int) := by omega
    have hge : 0 ≤ (i : Int) := by omega
    go_wp2
    refine bodyPost_ret (v := .tuple #[.agg #[.string m.f0, .int .i64 m.f1, .int .i64 m.f2], .bool true]) (by simp [results, Tryd.results22, go_sem, d0, d1, d2]) rfl ⟨by rw [HF.out], ?_⟩
    exact ((hb.setCell (p := ⟨w.heap.size + 1, 0, none⟩) (by simp) _).setCell (p := ⟨w.heap.size + 1, 1, none⟩) (by simp) _).setCell (p := ⟨w.heap.size + 1, 2, none⟩) (by simp) _
  · have HR := Lib.hid (show findR l s = -1 by unfold findR; rw [if_neg hlt])
    have HF := Lib.hid (findL_no hlt)
    rw [HR.out]
    clear hg1 HR
    go_wp2
    refine bodyPost_ret (v := .tuple #[.agg #[.string ⟨#[]⟩, .int .i64 0, .int .i64 0], .bool false]) (by simp [results, Tryd.results22, go_sem, d0, d1, d2]) rfl ⟨by rw [HF.out]; rfl, ?_⟩
    exact ((hb.setCell (p := ⟨w.heap.size + 1, 0, none⟩) (by simp) _).setCell (p := ⟨w.heap.size + 1, 1, none⟩) (by simp) _).setCell (p := ⟨w.heap.size + 1, 2, none⟩) (by simp) _
end Go.Proofs.YtijnlgmclaphhaaDoor
namespace Go.Proofs.YtijnlgmclaphhaaDoorZ
open Go.RowKit Go.Proofs.YtijnlgmclaphhaaDoor Go.Proofs.YtijnlgmclaphhaaDoorW.PrintWords
def dir_Find.f (l0 : List (S25)) (a1 : ByteArray) : Option (ByteArray × Int × Int × Bool) := if l0.length ≤ 4398046511104 then some ((findL l0 a1).1.f0, (findL l0 a1).1.f1, (findL l0 a1).1.f2, (findL l0 a1).2) else none
theorem dir_Find.calls (A0 : Option Addr) (c0 : Nat) (l0 : List (S25)) (a1 : ByteArray) (r1 : ByteArray) (r2 : Int) (r3 : Int) (r4 : Bool) (w : World) (hr0 : Kd.C k25 w A0 l0.length l0) (hc0 : l0.length ≤ c0) (h : dir_Find.f l0 a1 = some (r1, r2, r3, r4)) :
    Calls Tryd.prog 22 #[.slice A0 l0.length c0, .string a1] w fun e w' => e = .returned (.tuple #[.agg #[.string r1, .int .i64 r2, .int .i64 r3], .bool r4]) ∧ Below w.heap.size w w' := by
  unfold dir_Find.f at h
  split at h
  · rename_i hl
    refine (find_any A0 c0 l0 a1 w (rows_of_C hr0 hc0) hl).mono ?_
    simp only [Option.some.injEq, Prod.mk.injEq] at h
    obtain ⟨rfl, rfl, rfl, rfl⟩ := h
    rintro e w' ⟨rfl, hb⟩
    exact ⟨rfl, hb⟩
  · cases h
end Go.Proofs.YtijnlgmclaphhaaDoorZ
