import Derived.Test.YtijnlgmclaphhaaDoorL
import Derived.Test.YtijnlgmclaphhaaDoorSh2
import Derived.Lib.IndexLaws
import Derived.Lib.Hide
import Derived.WalkSpells
/-! strings.SplitSeq at one byte: its pieces, one behind the other. -/
namespace Go.Proofs.YtijnlgmclaphhaaDoor
open Go Go.RowKit Go.Shelf
attribute [local go_sem] Oper.semAt_some

def cutAt (c : UInt8) : List UInt8 → List (List UInt8)
  | [] => [[]]
  | b :: l => if b = c then [] :: cutAt c l else match cutAt c l with
    | p :: ps => (b :: p) :: ps
    | [] => [[b]]
def pieces (s : ByteArray) : List ByteArray := (cutAt 47 s.data.toList).map fun l => ⟨l.toArray⟩
theorem cutAt_ne (c : UInt8) : ∀ l, cutAt c l ≠ []
  | [] => by simp [cutAt]
  | b :: l => by
    unfold cutAt
    split
    · simp
    · split <;> simp
theorem cutAt_none (c : UInt8) : ∀ l : List UInt8, (∀ k : Nat, l[k]? ≠ some c) → cutAt c l = [l]
  | [], _ => rfl
  | b :: l, h => by
    have hb : b ≠ c := fun e => h 0 (by rw [e]; rfl)
    unfold cutAt
    rw [if_neg hb, cutAt_none c l fun k => h (k + 1)]
theorem cutAt_some (c : UInt8) : ∀ (l : List UInt8) (o : Nat), l[o]? = some c → (∀ k, k < o → l[k]? ≠ some c) → cutAt c l = l.take o :: cutAt c (l.drop (o + 1))
  | [], o, h, _ => by simp at h
  | b :: l, 0, h, _ => by
    have hb : b = c := by simpa using h
    conv => lhs; unfold cutAt
    rw [if_pos hb]; rfl
  | b :: l, o + 1, h, h2 => by
    have hb : b ≠ c := fun e => h2 0 (by omega) (by rw [e]; rfl)
    have ih := cutAt_some c l o (by simpa using h) (fun k hk => by simpa using h2 (k + 1) (by omega))
    conv => lhs; unfold cutAt
    rw [if_neg hb, ih]
    rfl
theorem pieces_none {s : ByteArray} (h : Lib.indexByte s.data.toList 47 < 0) : pieces s = [s] := by
  have e : Lib.indexByte s.data.toList 47 = -1 := by have := Lib.indexByte_ge s.data.toList 47; omega
  unfold pieces
  rw [cutAt_none _ _ (Lib.indexByte_none e)]
  rfl
theorem pieces_some {s : ByteArray} {o : Nat} (h : Lib.indexByte s.data.toList 47 = o) : pieces s = s.extract 0 o :: pieces (s.extract (o + 1) s.size) ∧ o < s.size := by
  obtain ⟨h1, h2⟩ := Lib.indexByte_some h
  have hlt : o < s.data.toList.length := (List.getElem?_eq_some_iff.1 h1).1
  refine ⟨?_, by rw [Lib.size_eq]; exact hlt⟩
  unfold pieces
  rw [cutAt_some _ _ o h1 h2, List.map_cons]
  have e1 : (⟨(s.data.toList.take o).toArray⟩ : ByteArray) = s.extract 0 o := by
    rw [Lib.extract_eq]; rfl
  have e2 : (s.extract (o + 1) s.size).data.toList = s.data.toList.drop (o + 1) := Lib.extract_to_end s (o + 1)
  rw [e1, e2]

theorem splitSeq_any (s : ByteArray) (w : World) : Calls Tryd.prog 45 #[.string s, .string ⟨#[47]⟩] w fun e w' => e = .returned (.func (Fn.func 68) #[] #[.pointer (some ⟨w.heap.size + 1, 0, none⟩), .pointer (some ⟨w.heap.size, 0, none⟩), .pointer (some ⟨w.heap.size + 2, 0, none⟩)]) ∧
    w' = ((w.alloc (.cells #[.string s] 9)).alloc (.cells #[.string ⟨#[47]⟩] 9)).alloc (.cells #[.int .i64 0] 3) := by
  go_enter Tryd.func45, Tryd.ntmps45
  go_wp2_with go_in
  go_ret
  exact ⟨rfl, rfl⟩

def box1 (W : World) (b : Nat) (v : Value) (t : TypeId) : Prop := W.heap[b]? = some (.cells #[v] t (0, 0))
theorem box1.cell {W : World} {b : Nat} {v : Value} {t : TypeId} (h : box1 W b v t) : W.cell? ⟨b, 0, none⟩ = some v := cell_of_row _ b 0 _ t (0, 0) h
theorem box1.froz {W : World} {b : Nat} {v : Value} {t : TypeId} (h : box1 W b v t) : W.frozen? ⟨b, 0, none⟩ = false := by unfold box1 at h; simp [World.frozen?, h]
theorem box1.keep {W W' : World} {lo hi b : Nat} {v : Value} {t : TypeId} (h : box1 W b v t) (k : Keep lo hi W W') (h1 : lo ≤ b) (h2 : b < hi) : box1 W' b v t := (k b h1 h2).trans h
theorem box1.set {W : World} {b : Nat} {v : Value} {t : TypeId} (h : box1 W b v t) (u : Value) : box1 (W.setCell ⟨b, 0, none⟩ u) b u t := by
  have := heap_setCell_same W b 0 #[v] t u h
  unfold box1
  rw [this]; rfl
theorem box1.other {W : World} {b c : Nat} {v : Value} {t : TypeId} (h : box1 W b v t) (u : Value) (hne : b ≠ c) : box1 (W.setCell ⟨c, 0, none⟩ u) b v t := by
  unfold box1
  rw [heap_setCell_other W ⟨c, 0, none⟩ b u hne]
  exact h
theorem box1.drawn {W : World} {b : Nat} {v : Value} {t : TypeId} (h : box1 W b v t) : box1 W.drew b v t := h
def leftOf (W : World) (b : Nat) : Nat := match W.cell? ⟨b, 0, none⟩ with | some (.string r) => r.size | _ => 0
theorem leftOf_box {W : World} {b : Nat} {r : ByteArray} {t : TypeId} (h : box1 W b (.string r) t) : leftOf W b = r.size := by unfold leftOf; rw [h.cell]

set_option maxRecDepth 100000 in
set_option maxHeartbeats 2000000 in
theorem split_gives (n lo : Nat) (s : ByteArray) (w : World) (hlo : lo + 3 ≤ w.heap.size) (hsz : s.size ≤ 1000000) (hs : box1 w lo (.string s) 9) (hp : box1 w (lo + 1) (.string ⟨#[47]⟩) 9) (hv : box1 w (lo + 2) (.int .i64 0) 3) :
    Gives Fence.wide n Tryd.prog 68 #[.pointer (some ⟨lo + 1, 0, none⟩), .pointer (some ⟨lo, 0, none⟩), .pointer (some ⟨lo + 2, 0, none⟩)] (fun x : ByteArray => #[.string x]) lo (lo + 3) (fun pre x => pre ++ [x] <+: pieces s) (fun xs => xs = pieces s) (fun xs => xs <+: pieces s) w := by
  intro l J Jx W hW hJ hJx hY h0
  have bS : box1 W lo (.string s) 9 := (hW.block lo (by omega)).trans hs
  have bP : box1 W (lo + 1) (.string ⟨#[47]⟩) 9 := (hW.block _ (by omega)).trans hp
  have bV : box1 W (lo + 2) (.int .i64 0) 3 := (hW.block _ (by omega)).trans hv
  have HS := Lib.hid bS
  have HP := Lib.hid bP
  have HV := Lib.hid bV
  have cP := bP.cell
  have HJ := Lib.hid hJ
  have HJx := Lib.hid hJx
  have HY := Lib.hid hY
  clear bS bP bV hs hp hv hJ hJx hY hW
  refine callsIn_of_wp Tryd.func68 rfl trivial ?_ rfl
  simp only [Tryd.ntmps68, List.size_toArray, List.length_cons, List.length_nil, Nat.reduceAdd, Nat.reduceSub, Array.replicate_succ, Array.replicate_zero, List.push_toArray, List.append_toArray, List.nil_append, List.cons_append]
  gi_wp2
  gi_loopw [7, 8] (fun _ _ wr => ∃ (pre : List ByteArray) (rest : ByteArray), rest.size ≤ 1000000 ∧ Hid (pieces s = pre ++ pieces rest) ∧ Hid (box1 wr lo (.string rest) 9) ∧ Hid (box1 wr (lo + 1) (.string ⟨#[47]⟩) 9) ∧ Hid (box1 wr (lo + 2) (.int .i64 0) 3) ∧ Hid (J pre wr)) (fun _ _ wr => leftOf wr lo)
  case atStart => exact ⟨[], s, hsz, rfl, HS.out, HP.out, HV.out, h0⟩
  case round =>
    obtain ⟨pre, rest, hrs, HE, HS, HP, HV, hJ0⟩ := hrel
    have cS := HS.out.cell
    have cP := HP.out.cell
    have cV := HV.out.cell
    by_cases hneg : Lib.indexByte rest.data.toList 47 < 0
    · have hfin : pieces s = pre ++ [rest] := by rw [HE.out, pieces_none hneg]
      have HF := Lib.hid hfin
      obtain ⟨fn, tmps, assign, body, hy, hR⟩ := HY.out pre rest wr hJ0.out (by rw [hfin]; exact List.prefix_refl _)
      have HR := Lib.hid hR
      clear hfin hR
      gi_wp2_with fail
      refine ⟨trivial, fun h => (by cases h), (callsIn_wide.2 (Tryd.strings_Index_one _ _ _)).mono ?_⟩
      rintro e w' ⟨rfl, hw⟩
      rw [hw]
      gi_wp2
      refine ⟨fun h => (by cases h), HR.out.mono ?_⟩
      rintro e W3 (⟨rfl, hJ3, hk3⟩ | ⟨rfl, hJx3⟩)
      · gi_wp2
        go_end0
        exact ⟨⟨_, rfl⟩, .inl ⟨_, rfl, by rw [HF.out]; exact hJ3⟩⟩
      · gi_wp2
        go_end0
        exact ⟨⟨_, rfl⟩, .inr ⟨_, by rw [HF.out]; exact List.prefix_refl _, hJx3⟩⟩
    · obtain ⟨o, ho⟩ : ∃ o : Nat, Lib.indexByte rest.data.toList 47 = o := ⟨(Lib.indexByte rest.data.toList 47).toNat, by omega⟩
      obtain ⟨hps, holt⟩ := pieces_some ho
      have hfin : pieces s = (pre ++ [rest.extract 0 o]) ++ pieces (rest.extract (o + 1) rest.size) := by rw [HE.out, hps]; simp
      have HF := Lib.hid hfin
      obtain ⟨fn, tmps, assign, body, hy, hR⟩ := HY.out pre (rest.extract 0 o) wr hJ0.out (by rw [hfin]; exact List.prefix_append _ _)
      have HR := Lib.hid hR
      have HO := Lib.hid ho
      have hz0 : decide ((o : Int) < 0) = false := decide_eq_false (by omega)
      have hz1 : (o : Int) ≤ (rest.size : Int) := by omega
      have hz2 : (o : Int) + 1 ≤ (rest.size : Int) := by omega
      clear hfin hR hps hneg ho
      gi_wp2_with fail
      refine ⟨trivial, fun h => (by cases h), (callsIn_wide.2 (Tryd.strings_Index_one _ _ _)).mono ?_⟩
      rintro e w' ⟨rfl, hw⟩
      rw [hw, HO.out]
      gi_wp2
      refine ⟨fun h => (by cases h), HR.out.mono ?_⟩
      rintro e W3 (⟨rfl, hJ3, hk3⟩ | ⟨rfl, hJx3⟩)
      · have kS := HS.out.keep hk3 (Nat.le_refl _) (by omega)
        have kP := HP.out.keep hk3 (by omega) (by omega)
        have kV := HV.out.keep hk3 (by omega) (by omega)
        have cS := kS.cell
        have fS := kS.froz
        have cP := kP.cell
        have HK := Lib.hid (And.intro kS (And.intro kP (And.intro kV hJ3)))
        clear kS kP kV hJ3 hk3
        gi_wp2
        go_roundw
        case rel => exact ⟨_, _, by simp; omega, HF.out, HK.out.1.set _, HK.out.2.1.other _ (by omega), HK.out.2.2.1.other _ (by omega), HJ.out.set _ _ _ _ (Nat.le_refl _) (by omega) HK.out.2.2.2⟩
        case measure => rw [leftOf_box (HK.out.1.set _), leftOf_box HS.out]; simp; omega
      · gi_wp2
        refine bodyPost_ret (results_none rfl _ _ _) rfl ?_
        exact ⟨⟨_, rfl⟩, .inr ⟨_, by rw [HF.out]; exact List.prefix_append _ _, hJx3⟩⟩
end Go.Proofs.YtijnlgmclaphhaaDoor
