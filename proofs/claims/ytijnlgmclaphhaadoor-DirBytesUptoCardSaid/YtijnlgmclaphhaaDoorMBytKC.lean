import Derived.Test.YtijnlgmclaphhaaDoorMBytKB
import Derived.Test.YtijnlgmclaphhaaDoorI
/-! A row of names that can be read; where a name stands in it. -/
namespace Go.Proofs.YtijnlgmclaphhaaDoor
open Go.RowKit Go.Proofs.YtijnlgmclaphhaaDoorZ Go.Proofs.YtijnlgmclaphhaaDoorW.PrintWords Go.Proofs.YtijnlgmclaphhaaDoorW.PrintLast Go.Proofs.YtijnlgmclaphhaaDoorW.PrintMore

def ncell (m : Nm) : Nat → Value
  | 0 => .string m.f0
  | 1 => .int .i64 m.f1
  | _ => .int .i64 m.f2
def nval (m : Nm) : Value := .agg #[.string m.f0, .int .i64 m.f1, .int .i64 m.f2]
def nlist (m : Nm) : List Value := [.string m.f0, .int .i64 m.f1, .int .i64 m.f2]
def ncells (l : List Nm) : List Value := l.flatMap nlist
theorem below_through {w W w' : World} (h : Below w.heap.size w W) (hb : Below W.heap.size W w') : Below w.heap.size w w' := h.trans (hb.mono h.size)
/-- A row of names that can be read. -/
def RowsAt (w : World) (v : Value) (l : List Nm) : Prop :=
  ∃ (oa : Option Addr) (cap b off : Nat), v = .slice oa l.length cap ∧ l.length ≤ cap ∧ l.length ≤ maxLen ∧ (0 < l.length → oa = some ⟨b, off, none⟩ ∧ b < w.heap.size) ∧
    ∀ i (h : i < l.length) j, j < 3 → w.cell? ⟨b, off + i * 3 + j, none⟩ = some (ncell l[i] j)
theorem RowsAt.below {w w' : World} {v : Value} {l : List Nm} (h : RowsAt w v l) (hb : Below w.heap.size w w') : RowsAt w' v l := by
  obtain ⟨oa, cap, b, off, rfl, h1, h2, h3, h4⟩ := h
  refine ⟨oa, cap, b, off, rfl, h1, h2, fun h0 => ⟨(h3 h0).1, Nat.lt_of_lt_of_le (h3 h0).2 hb.size⟩, fun i hi j hj => ?_⟩
  rw [hb.cell (p := ⟨b, off + i * 3 + j, none⟩) (h3 (by omega)).2]
  exact h4 i hi j hj
theorem add_none (b off j : Nat) : (⟨b, off, none⟩ : Addr).add j = ⟨b, off + j, none⟩ := by unfold Addr.add; split <;> simp_all
theorem rows_of_C {w : World} {A : Option Addr} {c : Nat} {l : List Nm} (h : Kd.C k25 w A l.length l) (hc : l.length ≤ c) : RowsAt w (.slice A l.length c) l := by
  obtain ⟨_, hmax, hcell⟩ := h
  have hmax' : l.length ≤ maxLen := by unfold maxLen; omega
  rcases Nat.eq_zero_or_pos l.length with h0 | h0
  · exact ⟨A, c, 0, 0, rfl, hc, hmax', fun h => absurd h (by omega), fun i hi => absurd hi (by omega)⟩
  · obtain ⟨ad, rfl, hp⟩ := hcell h0
    obtain ⟨b, off, spot⟩ := ad
    have get : ∀ i (hi : i < l.length), ∀ j u, (nlist l[i])[j]? = some u → w.cell? ((⟨b, off, spot⟩ : Addr).add (i * 3 + j)) = some u := by
      intro i hi
      obtain ⟨cs, _, hk, hc⟩ := hp i _ (List.getElem?_eq_getElem hi)
      obtain rfl := k25_open hk
      exact hc
    have hs : spot = none := by
      have := World.cell?_spot (get 0 h0 0 _ rfl)
      simpa [Addr.add] using this
    subst hs
    refine ⟨some ⟨b, off, none⟩, c, b, off, rfl, hc, hmax', fun _ => ⟨rfl, ?_⟩, fun i hi j hj => ?_⟩
    · have h1 := get 0 h0 0 _ rfl
      rw [add_none] at h1
      exact World.block_lt_of_cell? w _ h1
    · have g := get i hi j
      rw [add_none, ← Nat.add_assoc] at g
      match j, hj with
      | 0, _ => exact g _ rfl
      | 1, _ => exact g _ rfl
      | 2, _ => exact g _ rfl
theorem C_of_rows {w : World} {A : Option Addr} {n c : Nat} {l : List Nm} (h : RowsAt w (.slice A n c) l) : Kd.C k25 w A l.length l ∧ l.length ≤ c := by
  obtain ⟨oa, cap, b, off, hv, h1, h2, h3, h4⟩ := h
  injection hv with e1 e2 e3
  subst e1 e3
  refine ⟨⟨rfl, by unfold maxLen at h2; omega, fun h0 => ?_⟩, h1⟩
  obtain ⟨e, hb⟩ := h3 h0
  refine ⟨_, e, fun i x hx => ?_⟩
  have hi : i < l.length := (List.getElem?_eq_some_iff.1 hx).1
  have e2 : l[i] = x := (List.getElem?_eq_some_iff.1 hx).2
  refine ⟨nlist x, rfl, k25_mk w x, fun j u hj => ?_⟩
  rw [add_none, ← Nat.add_assoc]
  have hj3 : j < 3 := (List.getElem?_eq_some_iff.1 hj).1
  have := h4 i hi j hj3
  show w.cell? ⟨b, off + i * 3 + j, none⟩ = _
  rw [this, e2]
  match j, hj3 with
  | 0, _ => exact hj
  | 1, _ => exact hj
  | 2, _ => exact hj
/-- One name of a row, read. -/
theorem RowsAt.cells {w wr : World} {l : List Nm} {b off : Nat} (H4 : Hid (∀ i (h : i < l.length) j, j < 3 → w.cell? ⟨b, off + i * 3 + j, none⟩ = some (ncell l[i] j))) (hbel : Below w.heap.size w wr) (hb : b < w.heap.size) (k : Nat) (hk : k < l.length) :
    wr.cell? ⟨b, off + k * 3, none⟩ = some (.string (l[k]'hk).f0) ∧ wr.cell? ⟨b, off + k * 3 + 1, none⟩ = some (.int .i64 (l[k]'hk).f1) ∧ wr.cell? ⟨b, off + k * 3 + 2, none⟩ = some (.int .i64 (l[k]'hk).f2) := by
  have hc : ∀ j, j < 3 → wr.cell? ⟨b, off + k * 3 + j, none⟩ = some (ncell (l[k]'hk) j) := fun j hj => by
    rw [hbel.cell (p := ⟨b, off + k * 3 + j, none⟩) hb]; exact H4.out k hk j hj
  exact ⟨hc 0 (by omega), hc 1 (by omega), hc 2 (by omega)⟩

theorem at1_any (m : Nm) (s : ByteArray) (w : World) : Calls Tryd.prog 51 #[nval m, .string s] w fun e w' => e = .returned (.int .i64 (Lib.compareBytes m.f0.data.toList s.data.toList)) ∧ Below w.heap.size w w' := by
  unfold nval
  go_enter Tryd.func51, Tryd.ntmps51
  go_wp2_with fail
  refine (Tryd.strings_Compare _ _ _).mono ?_
  rintro e w' ⟨rfl, hw⟩
  rw [hw]
  go_wp2
  go_ret
  exact ⟨rfl, (Below.refl _ _).alloc (Nat.le_refl _) _⟩
theorem enter51 : ∀ args w, (callFunc 51 args).run Tryd.prog w = .ok (.enter 51 args) w := by
  intro args w
  have h1 : (Tryd.f51.name == "runtime.NumGoroutine") = false := by kernel_rfl
  have h2 : Tryd.f51.body.isNone = false := by kernel_rfl
  simp only [callFunc, Sem.run_bind, run_program, Result.andThen_ok, Tryd.func51, h1, h2]
  rfl

set_option maxRecDepth 100000 in
set_option maxHeartbeats 1000000 in
theorem search_any (F : Nat) (c : Nm → Int) (v : Value) (l : List Nm) (p : ByteArray) (w : World) (hl : RowsAt w v l) (hn : l.length ≤ 1000000)
    (he : ∀ args w, (callFunc F args).run Tryd.prog w = .ok (.enter F args) w)
    (hF : ∀ m ∈ l, ∀ w, Calls Tryd.prog F #[nval m, .string p] w fun e w' => e = .returned (.int .i64 (c m)) ∧ Below w.heap.size w w')
    (hm : ∀ i j (hi : i < l.length) (hj : j < l.length), i ≤ j → c (l[j]) < 0 → c (l[i]) < 0) :
    Calls Tryd.prog 50 #[v, .string p, .func (Fn.func F) #[] #[]] w fun e w' => ∃ i : Nat, i ≤ l.length ∧ (∀ q (h : q < l.length), q < i → c (l[q]) < 0) ∧ (∀ q (h : q < l.length), i ≤ q → 0 ≤ c (l[q])) ∧
      e = .returned (.tuple #[.int .i64 i, .bool (decide (∃ h : i < l.length, c (l[i]) = 0))]) ∧ Below w.heap.size w w' := by
  obtain ⟨oa, cap, b, off, rfl, h1, h2, h3, h4⟩ := hl
  have H3 := Lib.hid h3
  have H4 := Lib.hid h4
  have HF := Lib.hid hF
  have HM := Lib.hid hm
  clear h3 h4 hF hm
  unfold maxLen at h2
  go_enter Tryd.func50, Tryd.ntmps50
  go_wp2
  go_loopw [9, 10] (fun vi vj wr => ∃ (i j : Nat), vi = .int .i64 i ∧ vj = .int .i64 j ∧ i ≤ j ∧ j ≤ l.length ∧ Hid (∀ q (h : q < l.length), q < i → c (l[q]) < 0) ∧ Hid (∀ q (h : q < l.length), j ≤ q → 0 ≤ c (l[q])) ∧ Below w.heap.size w wr) (fun vi vj _ => ((intOf vj).toNat - (intOf vi).toNat))
  case atStart => exact ⟨0, l.length, rfl, rfl, by omega, by omega, fun q h h' => by omega, fun q h h' => by omega, Below.refl _ _⟩
  case round =>
    obtain ⟨i, j, rfl, rfl, hij, hj, hlo, hhi, hbel⟩ := hrel
    by_cases hlt : i < j
    · obtain ⟨rfl, hb⟩ := H3.out (by omega)
      obtain ⟨h, hh⟩ : ∃ h : Nat, h = (i + j) / 2 := ⟨_, rfl⟩
      have hhl : h < l.length := by omega
      obtain ⟨c0, c1, c2⟩ := RowsAt.cells H4 hbel hb h hhl
      have hmem : l[h] ∈ l := List.getElem_mem hhl
      have hcF := HF.out _ hmem
      have hcl : ∀ q (hq : q < l.length), q ≤ h → c (l[h]) < 0 → c (l[q]) < 0 := fun q hq hqh => HM.out q h hq hhl hqh
      have hcr : ∀ q (hq : q < l.length), h ≤ q → 0 ≤ c (l[h]) → 0 ≤ c (l[q]) := fun q hq hqh h0 => Int.not_lt.1 fun h' => absurd (HM.out h q hhl hq hqh h') (by omega)
      have HCL := Lib.hid hcl
      have HCR := Lib.hid hcr
      have HCF := Lib.hid hcF
      clear hcl hcr hcF
      generalize hm0 : (l[h]'hhl) = m at *
      have hh2 : ((i : Int) + j) / 2 = h := by omega
      have hih : i ≤ h := by omega
      have hhj : h < j := by omega
      clear hh
      go_wp2_with fail
      refine (HCF.out wr).mono ?_
      rintro e w1 ⟨rfl, hb1⟩
      have hbel1 := below_through hbel hb1
      clear hb1 c0 c1 c2
      by_cases hc : c m < 0
      · go_wp2
        go_roundw
        case rel =>
          refine ⟨h + 1, j, by go_num, rfl, by omega, hj, fun q hq hqi => HCL.out q hq (by omega) hc, hhi, hbel1⟩
        case measure => simp [intOf]; omega
      · go_wp2
        go_roundw
        case rel =>
          refine ⟨i, h, rfl, rfl, by omega, by omega, hlo, fun q hq hqi => HCR.out q hq hqi (by omega), hbel1⟩
        case measure => simp [intOf]; omega
    · obtain rfl : i = j := by omega
      by_cases hil : i < l.length
      · obtain ⟨rfl, hb⟩ := H3.out (by omega)
        obtain ⟨c0, c1, c2⟩ := RowsAt.cells H4 hbel hb i hil
        have hmem : l[i] ∈ l := List.getElem_mem hil
        have HCF := Lib.hid (HF.out _ hmem)
        have HE := Lib.hid (Eq.refl (l[i]'hil))
        generalize hm0 : (l[i]'hil) = m at c0 c1 c2 HCF
        have HM0 := Lib.hid hm0
        clear hm0
        go_wp2_with fail
        refine (HCF.out wr).mono ?_
        rintro e w1 ⟨rfl, hb1⟩
        have hbel1 := below_through hbel hb1
        clear hb1 c0 c1 c2
        go_wp2
        go_ret2
        refine ⟨i, by omega, hlo.out, hhi.out, ?_, hbel1⟩
        have e1 : (∃ h : i < l.length, c (l[i]) = 0) ↔ c m = 0 := ⟨fun ⟨_, h⟩ => by rw [← HM0.out]; exact h, fun h => ⟨hil, by rw [HM0.out]; exact h⟩⟩
        have e2 : decide (∃ h : i < l.length, c (l[i]) = 0) = (c m == 0) := by
          by_cases h0 : c m = 0
          · rw [decide_eq_true (e1.2 h0), h0]; rfl
          · rw [decide_eq_false (fun h => h0 (e1.1 h))]; simpa using h0
        rw [e2]
        rfl
      · go_wp2
        go_ret2
        refine ⟨i, by omega, hlo.out, hhi.out, ?_, hbel⟩
        rw [decide_eq_false (fun h => hil h.1)]
        rfl

def cmpN (s : ByteArray) (m : Nm) : Int := Lib.compareBytes m.f0.data.toList s.data.toList
theorem cmpN_lt (s : ByteArray) (m : Nm) : cmpN s m < 0 ↔ blt m.f0 s = true := by
  unfold cmpN blt
  rw [Lib.toList_data, Lib.toList_data]
  exact cmp_lt _ _
theorem cmpN_eq (s : ByteArray) (m : Nm) : cmpN s m = 0 ↔ m.f0 = s := by
  unfold cmpN
  rw [cmp_eq]
  constructor
  · intro h; exact toList_inj (by rw [Lib.toList_data, Lib.toList_data, h])
  · rintro rfl; rfl
theorem at_any (v : Value) (l : List Nm) (s : ByteArray) (w : World) (hl : RowsAt w v l) (ho : ordL l = true) (hn : l.length ≤ 1000000) :
    Calls Tryd.prog 30 #[v, .string s] w fun e w' => e = .returned (.tuple #[.int .i64 (atI l s), .bool (hasN l s)]) ∧ Below w.heap.size w w' := by
  have hS := search_any 51 (cmpN s) v l s w hl hn enter51 (fun m _ w => at1_any m s w) (fun i j hi hj hij => by
    rw [cmpN_lt, cmpN_lt]
    intro h
    rcases Nat.lt_or_ge i j with h' | h'
    · exact blt_tr (ord_lt ho i j hi hj h') h
    · obtain rfl : i = j := by omega
      exact h)
  have HS := Lib.hid hS
  clear hS
  go_enter Tryd.func30, Tryd.ntmps30
  go_wp2_with fail
  refine HS.out.mono ?_
  rintro e w' ⟨i, hi, hlo, hhi, rfl, hb⟩
  have e1 : atI l s = i := takeWhile_at _ l i hi (fun k h hk => (cmpN_lt s _).1 (hlo k h hk)) (fun k h hk => by
    cases hq : blt (l[k]).f0 s with
    | false => rfl
    | true => have := (cmpN_lt s _).2 hq; have := hhi k h hk; omega)
  have e2 : decide (∃ h : i < l.length, cmpN s (l[i]) = 0) = hasN l s := by
    have := hasN_iff (s := s) ho
    subst e1
    cases hq : hasN l s with
    | true =>
      obtain ⟨h, e⟩ := this.1 hq
      exact decide_eq_true ⟨h, (cmpN_eq _ _).2 e⟩
    | false =>
      refine decide_eq_false fun ⟨h, e⟩ => ?_
      have := this.2 ⟨h, (cmpN_eq _ _).1 e⟩
      rw [hq] at this; cases this
  rw [e2]
  have E1 := Lib.hid e1
  clear e1 e2 hlo hhi
  go_wp2
  go_ret2
  exact ⟨by rw [E1.out]; rfl, hb⟩
end Go.Proofs.YtijnlgmclaphhaaDoor
