import Derived.Test.YtijnlgmclaphhaaDoorMBytB
import Derived.Deep.RegionLaw
import Derived.BigRegion
import Derived.OwnWalk
/-! The reference's Decode. -/
set_option linter.unusedVariables false
set_option linter.unusedSimpArgs false
namespace Go.Proofs.YtijnlgmclaphhaaDoor
open Go Go.RowKit Go.Proofs.YtijnlgmclaphhaaDoorZ Go.Proofs.YtijnlgmclaphhaaDoorW.PrintWords Go.Proofs.YtijnlgmclaphhaaDoorW.PrintLast Go.Proofs.YtijnlgmclaphhaaDoorW.PrintMore

theorem step_append_own {P : Program} {ops : Array Oper} {o : Oper} {a : Act} {w : World} {K : Act → World → Prop} {Q : Exit → Act → World → Prop} {E : Prop}
    (hg : o.guard = none) (s x : Operand) (t : TypeId) (hop : o.op = Op.call { callee := Callee.builtin Builtin.append, args := #[s, x], argTypes := #[t, t] })
    (base : Nat) (e : TypeId) (i : TypeInfo) (z : Value) (size bytes : Nat) (h1 : P.underlying t = some (.slice e)) (h2 : P.info? e = some i) (h3 : i.zero = some z) (h4 : i.size = size) (h5 : i.bytes = bytes) (h6 : z.cells.size = size) (h7 : 0 < size)
    (v : Value) (k : Nat) (xs : List Value) (hs : a.eval s = v) (hown : w.ownsRow base e size v k xs) (ad : Addr) (m c : Nat) (news : List Value) (hx : a.eval x = .slice (some ad) m c) (hn : news.length = m * size)
    (hc : ∀ j u, news[j]? = some u → w.cell? (ad.add j) = some u) (h1c : ∀ u ∈ news, u.oneCell' = true) (b1 : k + m ≤ maxLen) (b2 : (k + m) * bytes ≤ 140737488355328) (b3 : base ≤ w.heap.size)
    (hK : ∀ v' w', w'.ownsRow base e size v' (k + m) (xs ++ news) → w.grownBy w' v.ownBlock → K (a.put o.dst v') w') :
    if Region.wanted o (yielded ops a.tmps) = true then Oper.wp P o a w K Q else E := by
  have hw : Region.wanted o (yielded ops a.tmps) = true := by simp [Region.wanted, hg]
  rw [if_pos hw]
  obtain ⟨v', w', hrun, r1, r2, _⟩ := run_append_own (P := P) w base t o.type e i z size bytes h1 h2 h3 h4 h5 h6 h7 v k xs hown ad m c news hn hc h1c b1 b2 b3
  unfold Oper.wp
  simp [execOp, hop, resolve, invoke, builtin, hs, hx, hrun, Result.andThen]
  exact hK v' w' r1 r2
def mkE (s : ByteArray) (o : Nat) : Nm := ⟨s.extract (o + 1) (o + 1 + byN s o), (byN s (o + 1 + byN s o) : Int), (leN s (o + 2 + byN s o) 8 : Int)⟩
def refD (s : ByteArray) : Nat → Nat → List Nm → Option (List Nm)
  | 0, _, out => some out
  | k + 1, o, out => if o < s.size then (if s.size < o + 10 + byN s o then none else if 2305843009213693951 < leN s (o + 2 + byN s o) 8 then none else refD s k (o + 10 + byN s o) (out ++ [mkE s o])) else some out
def refDL (s : ByteArray) : List Nm × Bool := if 4096 < s.size then ([], false) else match refD s (s.size + 1) 0 [] with
  | none => ([], false)
  | some out => (out, rightL out)
theorem le_grown (W : World) (n : Nat) : n ≤ grownCap W n 0 5 := grownCap_ge W n 0 5
theorem bytes_C (w : World) (s : ByteArray) (cap : Nat) (m : Nat × Nat) (hs : s.size ≤ 4096) : Kd.C (Kd.int .u8) (w.alloc (.cells (bytesRow s cap) 5 m)) (some ⟨w.heap.size, 0, none⟩) (intsOf s).length (intsOf s) := by
  have hl := intsOf_len s
  refine ⟨rfl, by omega, fun _ => ⟨_, rfl, fun i x hx => ⟨[.int .u8 x], rfl, rfl, fun j u hj => ?_⟩⟩⟩
  match j, hj with
  | 0, hj =>
    cases hj
    have hi : i < s.size := by have := (List.getElem?_eq_some_iff.1 hx).1; omega
    have hn := World.alloc_heap_new w (.cells (bytesRow s cap) 5 m)
    have hb : (bytesRow s cap)[i]? = some (.int .u8 x) := by
      unfold bytesRow
      rw [Array.getElem?_append_left (by rw [Array.size_map]; exact hi)]
      unfold intsOf at hx
      rw [List.getElem?_map] at hx
      rw [Array.getElem?_map, ← Array.getElem?_toList]
      cases hq : s.data.toList[i]? with
      | none => rw [hq] at hx; cases hx
      | some b => rw [hq] at hx; cases hx; rfl
    show (w.alloc _).cell? ((⟨w.heap.size, 0, none⟩ : Addr).add (i * 1 + 0)) = _
    rw [add_none, Nat.mul_one, Nat.add_zero, Nat.zero_add]
    exact (cell_of_row _ w.heap.size i _ 5 m hn).trans hb
set_option maxRecDepth 100000 in
set_option maxHeartbeats 4000000 in
theorem refdec_any (HRT : ∀ (A : Option Addr) (c : Nat) (l : List Nm) (W : World), Kd.C k25 W A l.length l → l.length ≤ c → l.length ≤ 1000 → Calls Tryd.prog 14 #[.slice A l.length c] W fun e w' => e = .returned (.bool (rightL l)) ∧ Below W.heap.size W w')
    (s : ByteArray) (w : World) : Calls Tryd.prog 18 #[.string s] w fun e w' => ∃ v', e = .returned (.tuple #[v', .bool (refDL s).2]) ∧ w'.ownsRow w.heap.size 25 3 v' (refDL s).1.length (ncells (refDL s).1) ∧ Below w.heap.size w w' := by
  by_cases hbig : (4096 : Int) < (s.size : Int)
  · have HS := Lib.hid (show refDL s = ([], false) by unfold refDL; rw [if_pos (by omega)])
    go_enter Tryd.func18, Tryd.ntmps18
    go_wp2
    go_ret2
    exact ⟨_, by rw [HS.out]; rfl, by rw [HS.out]; exact ⟨rfl, .inl ⟨rfl, rfl⟩⟩, by first | exact Below.refl _ _ | exact (Below.refl _ w).alloc (Nat.le_refl _) _⟩
  · have hcv : ∀ W : World, (convert 9 34 (.string s)).run Tryd.prog W = .ok (.slice (some ⟨W.heap.size, 0, none⟩) s.size (grownCap W s.size 0 5))
      (W.drew.alloc (.cells (bytesRow s (grownCap W s.size 0 5)) 5 ((bytesRow s (grownCap W s.size 0 5)).size, (bytesRow s (grownCap W s.size 0 5)).size + 1))) := fun W => run_bytes_of_string W 9 34 5 s Tryd.underlying9 Tryd.underlying34 Tryd.underlying5
    have hs40 : s.size ≤ 4096 := by omega
    have hR0 : refDL s = (match refD s (s.size + 1) 0 [] with | none => ([], false) | some out => (out, rightL out)) := by unfold refDL; rw [if_neg (by omega)]
    have HR0 := Lib.hid hR0
    clear hR0
    have hst : (w.alloc (.cells #[] 25)).ownsRow w.heap.size 25 3 (.slice (some ⟨w.heap.size, 0, none⟩) 0 0) 0 [] := ⟨rfl, .inr ⟨w.heap.size, 0, #[], rfl, Nat.le_refl _, World.alloc_heap_new _ _, Nat.le_refl _, Nat.zero_le _, rfl, rfl⟩⟩
    have HST := Lib.hid hst
    clear hst
    go_enter Tryd.func18, Tryd.ntmps18
    go_wp2
    go_loopw [4, 5] (fun v4 v5 wr => ∃ (k o : Nat) (out : List Nm), v5 = .int .i64 (o : Int) ∧ o ≤ s.size ∧ out.length * 10 ≤ o ∧ s.size - o < k ∧ Hid (refD s (s.size + 1) 0 [] = refD s k o out) ∧ Hid (wr.ownsRow w.heap.size 25 3 v4 out.length (ncells out)) ∧ Hid (Below w.heap.size w wr)) (fun _ v5 _ => (s.size : Int).toNat - (intOf v5).toNat)
    case atStart => exact ⟨s.size + 1, 0, [], rfl, by omega, by simp, by omega, rfl, HST.out, (Below.refl _ w).alloc (Nat.le_refl _) _⟩
    case round =>
      obtain ⟨k, o, out, rfl, ho, hol, hk, HE, HO, HB⟩ := hrel
      obtain ⟨k, rfl⟩ : ∃ q, k = q + 1 := ⟨k - 1, by omega⟩
      have hb := byN_lt s o
      have hx0 : ∀ h : o < s.size, ((s[o]'h).toNat : Int) = (byN s o : Int) := fun h => (bt_at s (o : Int) h).trans (bt_byN s o)
      have hw0 : wrap64 (byN s o : Int) = (byN s o : Int) := by unfold wrap64; omega
      by_cases hlt : (o : Int) < (s.size : Int)
      · by_cases hfull : (s.size : Int) < (o : Int) + 10 + (byN s o : Int)
        · have HN := Lib.hid (show refDL s = ([], false) by rw [HR0.out, HE.out, refD, if_pos (by omega), if_pos (by omega)])
          go_wp2
          refine bodyPost_ret (results_tmp2 rfl _ _ _) rfl ?_
          exact ⟨_, by rw [HN.out]; rfl, by rw [HN.out]; exact ⟨rfl, .inl ⟨rfl, rfl⟩⟩, HB.out⟩
        · have hwd := word_f s (o + 2 + byN s o) (by omega) (by omega) 9 (by omega)
          have ho2 : wrap64 (wrap64 ((o : Int) + 2) + (byN s o : Int)) = ((o + 2 + byN s o : Nat) : Int) := by unfold wrap64; omega
          have hW1 : ∀ (W : World) (cap : Nat) (m : Nat × Nat), s.size ≤ cap → Calls Tryd.prog 41 #[.slice (some ⟨W.heap.size, 0, none⟩) s.size cap, .int .i64 ((o : Int) + 2 + (byN s o : Int))] (W.alloc (.cells (bytesRow s cap) 5 m)).drew fun e w' => e = .returned (.tuple #[.int .u64 (leN s (o + 2 + byN s o) 8 : Int), .int .i64 0]) ∧ Drawn0 (W.alloc (.cells (bytesRow s cap) 5 m)).drew w' := by
            intro W cap m hc
            have h := gatehouseref03_Word.calls 9 (some ⟨W.heap.size, 0, none⟩) cap (intsOf s) ((o + 2 + byN s o : Nat) : Int) _ _ (W.alloc (.cells (bytesRow s cap) 5 m)).drew (Kd.C_drew (bytes_C W s cap m hs40)) (by rw [intsOf_len]; exact hc) hwd
            rw [intsOf_len, show ((o + 2 + byN s o : Nat) : Int) = (o : Int) + 2 + (byN s o : Int) by omega] at h
            exact h
          have hW := Lib.hid hW1
          clear hW1
          clear hwd ho2
          have hXlt := leN_lt s (o + 2 + byN s o) 8
          generalize hX : leN s (o + 2 + byN s o) 8 = X at hW hXlt
          have HX := Lib.hid hX
          clear hX
          by_cases hid : (2305843009213693951 : Int) < (X : Int)
          · have HN := Lib.hid (show refDL s = ([], false) by rw [HR0.out, HE.out, refD, if_pos (by omega), if_neg (by omega), if_pos (by rw [HX.out]; omega)])
            go_wp2_with fail
            refine (hW.out wr _ _ (le_grown wr s.size)).mono ?_
            rintro e w2 ⟨rfl, m, rfl⟩
            have HB2 := Lib.hid (pw_below_drewN (((HB.out).alloc (by have := HB.out.size; exact this) (.cells (bytesRow s (grownCap wr s.size 0 5)) 5 ((bytesRow s (grownCap wr s.size 0 5)).size, (bytesRow s (grownCap wr s.size 0 5)).size + 1)))).drew m)
            generalize ((wr.alloc (.cells (bytesRow s (grownCap wr s.size 0 5)) 5 ((bytesRow s (grownCap wr s.size 0 5)).size, (bytesRow s (grownCap wr s.size 0 5)).size + 1))).drew.drewN m) = w2 at HB2 ⊢
            go_wp2
            refine bodyPost_ret (results_tmp2 rfl _ _ _) rfl ?_
            exact ⟨_, by rw [HN.out]; rfl, by rw [HN.out]; exact ⟨rfl, .inl ⟨rfl, rfl⟩⟩, HB2.out⟩
          · obtain ⟨oa, cap, rfl, hO⟩ := row_slice HO.out
            have HO1 := Lib.hid (((hO.alloc (.cells (bytesRow s (grownCap wr s.size 0 5)) 5 ((bytesRow s (grownCap wr s.size 0 5)).size, (bytesRow s (grownCap wr s.size 0 5)).size + 1)))))
            have hv1 : IntKind.i64.wrap ((o : Int) + 1) = (o : Int) + 1 := by rw [i64_w]; unfold wrap64; omega
            have hv2 : IntKind.i64.wrap ((o : Int) + 1 + (byN s o : Int)) = (o : Int) + 1 + (byN s o : Int) := by rw [i64_w]; unfold wrap64; omega
            have hb2 := byN_lt s (o + 1 + byN s o)
            have hv3 : IntKind.i64.wrap (byN s (o + 1 + byN s o) : Int) = (byN s (o + 1 + byN s o) : Int) := by rw [i64_w]; unfold wrap64; omega
            have hv4 : IntKind.i64.wrap (X : Int) = (X : Int) := by rw [i64_w]; unfold wrap64; omega
            have hx1 : ∀ h : ((o : Int) + 1 + (byN s o : Int)).toNat < s.size, ((s[((o : Int) + 1 + (byN s o : Int)).toNat]'h).toNat : Int) = (byN s (o + 1 + byN s o) : Int) := fun h => (bt_at s _ h).trans (by rw [show (o : Int) + 1 + (byN s o : Int) = ((o + 1 + byN s o : Nat) : Int) by omega]; exact bt_byN s _)
            have hp0 : (0 : Int) ≤ (o : Int) + 1 + (byN s o : Int) := by omega
            have hp1 : (0 : Int) ≤ (o : Int) + 1 := by omega
            have hp2 : (o : Int) + 1 ≤ (o : Int) + 1 + (byN s o : Int) := by omega
            have hp3 : (o : Int) + 1 + (byN s o : Int) ≤ (s.size : Int) := by omega
            have hp4 : (o : Int) + 1 + (byN s o : Int) < (s.size : Int) := by omega
            clear hO
            go_wp2_with fail
            refine (hW.out wr _ _ (le_grown wr s.size)).mono ?_
            rintro e w2 ⟨rfl, m, rfl⟩
            have HB2 := Lib.hid (pw_below_drewN (((HB.out).alloc (by have := HB.out.size; exact this) (.cells (bytesRow s (grownCap wr s.size 0 5)) 5 ((bytesRow s (grownCap wr s.size 0 5)).size, (bytesRow s (grownCap wr s.size 0 5)).size + 1)))).drew m)
            have HO2 := Lib.hid (show (((wr.alloc (.cells (bytesRow s (grownCap wr s.size 0 5)) 5 ((bytesRow s (grownCap wr s.size 0 5)).size, (bytesRow s (grownCap wr s.size 0 5)).size + 1))).drew.drewN m)).ownsRow _ _ _ _ _ _ from HO1.out)
            generalize ((wr.alloc (.cells (bytesRow s (grownCap wr s.size 0 5)) 5 ((bytesRow s (grownCap wr s.size 0 5)).size, (bytesRow s (grownCap wr s.size 0 5)).size + 1))).drew.drewN m) = w2 at HB2 HO2 ⊢
            go_wp2
            obtain ⟨i0, hi0, hz0, hz1, hz2⟩ := info_parts infoE
            have HI9 := Lib.hid (And.intro hi0 (And.intro hz0 (And.intro hz1 hz2)))
            have hbs := HB2.out.size
            clear hi0 hz0 hz1 hz2
            go_region_law (first | (refine step_append_own rfl (.tmp 40) (.tmp 59) 22 rfl w.heap.size 25 i0 zeroE 3 32 Tryd.underlying22 HI9.out.1 HI9.out.2.1 HI9.out.2.2.1 HI9.out.2.2.2 rfl (by decide) _ _ _ rfl (HO2.out.alloc _) ⟨w2.heap.size, 0, none⟩ 1 1 [_, _, _] rfl rfl (cells3_new _ _ _ _ _) (by simp [Value.oneCell']) (by unfold maxLen; omega) (by omega) (by simp; omega) ?_; intro v' w1 hown' hgrow; obtain ⟨g', cap', rfl⟩ := ownsRow_succ hown'))
            go_wp2
            go_roundw
            case rel =>
              refine ⟨k, o + 10 + byN s o, out ++ [mkE s o], by congr 1; omega, by omega, by simp; omega, by omega, Lib.hid ?_, Lib.hid ?_, Lib.hid ?_⟩
              · rw [HE.out, refD, if_pos (by omega), if_neg (by omega), if_neg (by rw [HX.out]; omega)]
              · have e : ncells (out ++ [mkE s o]) = ncells out ++ [.string (s.extract ((o : Int) + 1).toNat ((o : Int) + 1 + (byN s o : Int)).toNat), .int .i64 (byN s (o + 1 + byN s o) : Int), .int .i64 (X : Int)] := by
                  rw [ncells_append]
                  unfold mkE
                  rw [HX.out, show ((o : Int) + 1).toNat = o + 1 by omega, show ((o : Int) + 1 + (byN s o : Int)).toNat = o + 1 + byN s o by omega]
                  rfl
                rw [e, List.length_append]
                exact hown'
              · exact (HB2.out.drew.alloc (by exact hbs) _).grown hgrow (by simp; omega) (fun j ej => (row_block' HO2.out j ej).1)
            case measure =>
              simp only [intOf]
              omega
      · have HN := Lib.hid (show refDL s = (out, rightL out) by rw [HR0.out, HE.out, refD, if_neg (by omega)])
        obtain ⟨oa, cap, rfl, hO⟩ := row_slice HO.out
        obtain ⟨hC, hc⟩ := C_of_rows (RowsAt.of_own (w := wr) (l := out) (v := .slice oa out.length cap) (Own.of_row hO))
        have HRc := Lib.hid (HRT oa cap out wr hC hc (by omega))
        have hbs := HB.out.size
        clear hC hc hO
        go_wp2_with fail
        refine HRc.out.mono ?_
        rintro e w3 ⟨rfl, hb⟩
        have HB3 := Lib.hid hb
        clear hb
        go_wp2
        go_ret2
        exact ⟨_, by rw [HN.out]; rfl, by rw [HN.out]; exact row_below HO.out HB3.out, HB.out.trans (HB3.out.mono hbs)⟩
end Go.Proofs.YtijnlgmclaphhaaDoor
namespace Go.Proofs.YtijnlgmclaphhaaDoorZ
open Go.RowKit Go.Proofs.YtijnlgmclaphhaaDoor Go.Proofs.YtijnlgmclaphhaaDoorW.PrintWords
def gatehouseref13_Decode.f (a0 : ByteArray) : Option (List (S25) × Bool) := some (refDL a0)
theorem gatehouseref13_Decode.calls (a0 : ByteArray) (r1 : List (S25)) (r2 : Bool) (w : World) (h : gatehouseref13_Decode.f a0 = some (r1, r2)) :
    Calls Tryd.prog 18 #[.string a0] w fun e w' => ∃ v0_ : Value, e = .returned (.tuple #[v0_, .bool r2]) ∧ Kd.R k25 25 w' w.heap.size (fun _ => True) v0_ r1 ∧ Below w.heap.size w w' := by
  unfold gatehouseref13_Decode.f at h
  injection h with h
  refine (refdec_any (fun A c l W hC hc hl => gatehouseref13_Right.calls (2 * l.length + 301) A c l (rightL l) W hC hc (rRight_f l (by omega) _ (by omega))) a0 w).mono ?_
  rw [h]
  rintro e w' ⟨v', rfl, ho, hb⟩
  exact ⟨v', rfl, R_of_row _ ho, hb⟩
end Go.Proofs.YtijnlgmclaphhaaDoorZ
