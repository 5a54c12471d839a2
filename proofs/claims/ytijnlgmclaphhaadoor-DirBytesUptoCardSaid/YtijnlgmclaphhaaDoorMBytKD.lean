import Derived.Test.YtijnlgmclaphhaaDoorT
import Derived.Test.YtijnlgmclaphhaaDoorMBytKC
import Derived.BigRegionIn
/-! The iterator that goes over the entries that stand in bytes. -/
set_option linter.unusedVariables false
set_option linter.unusedSimpArgs false
namespace Go.Proofs.YtijnlgmclaphhaaDoor
open Go Go.RowKit Go.Proofs.YtijnlgmclaphhaaDoorZ Go.Proofs.YtijnlgmclaphhaaDoorW.PrintWords

def idE (s : ByteArray) (o : Int) : Nat → Int
  | 0 => 0
  | i + 1 => bits .or .i64 (idE s o i) (wrap64 (bt s (o + i) * 2 ^ (8 * i)))
def hdE (s : ByteArray) : Int := bt s 0
def nmE (s : ByteArray) : Nm := ⟨s.extract 1 (1 + hdE s).toNat, bt s (1 + hdE s), idE s (2 + hdE s) 8⟩
def tlE (s : ByteArray) : ByteArray := s.extract (hdE s + 10).toNat s.size
def entF : Nat → ByteArray → List (Nm × ByteArray)
  | 0, _ => []
  | k + 1, s => if 0 < (s.size : Int) ∧ hdE s + 10 ≤ (s.size : Int) then (nmE s, tlE s) :: entF k (tlE s) else []
def entL (s : ByteArray) : List (Nm × ByteArray) := entF s.size s
theorem hdE_range (s : ByteArray) : 0 ≤ hdE s ∧ hdE s ≤ 255 := bt_range s 0
theorem tlE_size (s : ByteArray) : (tlE s).size = s.size - (hdE s + 10).toNat := by unfold tlE; simp
theorem entF_fuel : ∀ (k j : Nat) (s : ByteArray), s.size ≤ k → s.size ≤ j → entF k s = entF j s
  | 0, 0, _, _, _ => rfl
  | 0, j + 1, s, h, _ => by simp only [entF]; rw [if_neg (by omega)]
  | k + 1, 0, s, _, h => by simp only [entF]; rw [if_neg (by omega)]
  | k + 1, j + 1, s, h1, h2 => by
    simp only [entF]
    split
    · have := tlE_size s
      have := hdE_range s
      rw [entF_fuel k j (tlE s) (by omega) (by omega)]
    · rfl
theorem entL_some {s : ByteArray} (h0 : 0 < (s.size : Int)) (h : hdE s + 10 ≤ (s.size : Int)) : entL s = (nmE s, tlE s) :: entL (tlE s) := by
  unfold entL
  obtain ⟨k, hk⟩ : ∃ k, s.size = k + 1 := ⟨s.size - 1, by omega⟩
  rw [hk, entF, if_pos ⟨h0, h⟩]
  have := tlE_size s
  have := hdE_range s
  rw [entF_fuel k _ (tlE s) (by omega) (Nat.le_refl _)]
theorem entL_none {s : ByteArray} (h : ¬ (0 < (s.size : Int) ∧ hdE s + 10 ≤ (s.size : Int))) : entL s = [] := by
  unfold entL
  cases hk : s.size with
  | zero => rfl
  | succ k => rw [entF, if_neg h]
theorem entries_any (s : ByteArray) (w : World) : Calls Tryd.prog 40 #[.string s] w fun e w' => e = .returned (.func (Fn.func 58) #[] #[.pointer (some ⟨w.heap.size, 0, none⟩)]) ∧ w' = w.alloc (.cells #[.string s] 9) := by
  go_enter Tryd.func40, Tryd.ntmps40
  go_wp2
  go_ret
  exact ⟨rfl, rfl⟩
def encE (x : Nm × ByteArray) : Array Value := #[nval x.1, .string x.2]
set_option maxRecDepth 100000 in
set_option maxHeartbeats 4000000 in
theorem ent_gives (n lo : Nat) (s : ByteArray) (w : World) (hlo : lo + 1 ≤ w.heap.size) (hsz : s.size ≤ 140737488355328) (hs : box1 w lo (.string s) 9) :
    Gives Fence.wide n Tryd.prog 58 #[.pointer (some ⟨lo, 0, none⟩)] encE lo (lo + 1) (fun pre x => pre ++ [x] <+: entL s) (fun xs => xs = entL s) (fun xs => xs <+: entL s) w := by
  intro l J Jx W hW hJ hJx hY h0
  have bS : box1 W lo (.string s) 9 := (hW.block lo (by omega)).trans hs
  have hloW : lo < W.heap.size := by have := hW.size; omega
  have HS := Lib.hid bS
  have HJ := Lib.hid hJ
  have HJx := Lib.hid hJx
  have HY := Lib.hid hY
  clear bS hs hJ hJx hY hW
  refine callsIn_of_wp Tryd.func58 rfl trivial ?_ rfl
  simp only [Tryd.ntmps58, List.size_toArray, List.length_cons, List.length_nil, Nat.reduceAdd, Nat.reduceSub, Array.replicate_succ, Array.replicate_zero, List.push_toArray, List.append_toArray, List.nil_append, List.cons_append]
  gi_wp2
  gi_loopw [3] (fun _ wr => ∃ (pre : List (Nm × ByteArray)) (rest : ByteArray), rest.size ≤ 140737488355328 ∧ Hid (entL s = pre ++ entL rest) ∧ Hid (box1 wr lo (.string rest) 9) ∧ Hid (J pre wr)) (fun _ wr => leftOf wr lo)
  case atStart => exact ⟨[], s, hsz, rfl, HS.out, h0⟩
  case round =>
    obtain ⟨pre, rest, hrs, HE, HS, hJ0⟩ := hrel
    have cS := HS.out.cell
    have hlr : lo < wr.heap.size := (Array.getElem?_eq_some_iff.1 HS.out).1
    have hx0 : ∀ h : 0 < rest.size, ((rest[0]'h).toNat : Int) = hdE rest := fun h => bt_at rest 0 h
    have hr := hdE_range rest
    by_cases hz : (0 : Int) < (rest.size : Int)
    · by_cases hl : (rest.size : Int) < hdE rest + 10
      · have hN := entL_none (s := rest) (fun h => by omega)
        have HN := Lib.hid hN
        clear hN
        gi_wp2
        refine bodyPost_ret (results_none rfl _ _ _) rfl ?_
        exact ⟨⟨_, rfl⟩, .inl ⟨_, by rw [HE.out, HN.out, List.append_nil], hJ0.out⟩⟩
      · have hS := entL_some hz (by omega)
        have HSm := Lib.hid hS
        clear hS
        have hx1 : ∀ h : (1 + hdE rest).toNat < rest.size, ((rest[(1 + hdE rest).toNat]'h).toNat : Int) = bt rest (1 + hdE rest) := fun h => bt_at rest _ h
        have hb1 : (1 : Int) ≤ 1 + hdE rest := by omega
        have hb2 : 1 + hdE rest ≤ (rest.size : Int) := by omega
        have hb3 : 1 + hdE rest < (rest.size : Int) := by omega
        have hb4 : (0 : Int) ≤ 1 + hdE rest := by omega
        have hwb : ∀ j, wrap64 (bt rest j) = bt rest j := fun j => by have := bt_range rest j; unfold wrap64; omega
        have hnl : ¬ (rest.size : Int) < hdE rest + 10 := hl
        gi_wp2
        gi_region
        gi_wp2
        gi_loopw [27] (fun v27 w2 => ∃ (i : Nat) (W2 : World), i ≤ 8 ∧ v27 = .int .i64 (i : Int) ∧ wr.heap.size = W2.heap.size ∧ Hid (box1 W2 lo (.string rest) 9) ∧ Hid (J pre W2) ∧ w2 = W2.alloc (.cells #[.string (rest.extract 1 (1 + hdE rest).toNat), .int .i64 (bt rest (1 + hdE rest)), .int .i64 (idE rest (2 + hdE rest) i)] 25)) (fun v27 _ => (8 - intOf v27).toNat)
        case atStart => exact ⟨0, wr.drew, by omega, rfl, rfl, HS.out.drawn, HJ.out.drew _ _ hJ0.out, rfl⟩
        case round =>
          obtain ⟨i, W2, hi8, rfl, hsz2, HS2, HJ2, rfl⟩ := hrel
          have cS2 := HS2.out.cell
          have hlr2 : lo < W2.heap.size := by omega
          by_cases hi : (i : Int) < 8
          · have hx2 : ∀ h : (2 + hdE rest + (i : Int)).toNat < rest.size, ((rest[(2 + hdE rest + (i : Int)).toNat]'h).toNat : Int) = bt rest (2 + hdE rest + (i : Int)) := fun h => bt_at rest _ h
            have hc1 : (0 : Int) ≤ 2 + hdE rest + (i : Int) := by omega
            have hc2 : 2 + hdE rest + (i : Int) < (rest.size : Int) := by omega
            gi_wp2
            gi_region
            gi_wp2
            refine ⟨⟨i + 1, W2.drew, by omega, by push_cast; rfl, hsz2, HS2.out.drawn, HJ.out.drew _ _ HJ2.out, rfl⟩, ?_⟩
            simp only [intOf]
            omega
          · obtain rfl : i = 8 := by omega
            have fS2 := HS2.out.froz
            have hh1 : (0 : Int) ≤ hdE rest + 10 := by omega
            have hh2 : hdE rest + 10 ≤ (rest.size : Int) := by omega
            have hfin : entL s = (pre ++ [(nmE rest, tlE rest)]) ++ entL (tlE rest) := by rw [HE.out, HSm.out]; simp
            have HF := Lib.hid hfin
            have bS3 : box1 ((W2.setCell ⟨lo, 0, none⟩ (.string (rest.extract (hdE rest + 10).toNat rest.size))).alloc (.cells #[.string (rest.extract 1 (1 + hdE rest).toNat), .int .i64 (bt rest (1 + hdE rest)), .int .i64 (idE rest (2 + hdE rest) 8)] 25)) lo (.string (rest.extract (hdE rest + 10).toNat rest.size)) 9 :=
              (Below.heap_alloc _ _ _ (by simp [World.setCell]; exact hlr2)).trans (HS2.out.set _)
            have HS3 := Lib.hid bS3
            have cS3 := bS3.cell
            obtain ⟨fn, tmps, assign, body, hy, hR⟩ := HY.out pre (nmE rest, tlE rest) _ (HJ.out.new _ _ (.cells #[.string (rest.extract 1 (1 + hdE rest).toNat), .int .i64 (bt rest (1 + hdE rest)), .int .i64 (idE rest (2 + hdE rest) 8)] 25) (HJ.out.set _ _ lo (.string (rest.extract (hdE rest + 10).toNat rest.size)) (Nat.le_refl _) (by omega) HJ2.out)) (by rw [hfin]; exact List.prefix_append _ _)
            have HR := Lib.hid hR
            have hy2 := hy
            unfold encE nval nmE tlE at hy2
            simp only at hy2
            clear hfin hR hy
            gi_wp2_with fail
            refine ⟨fun h => (by cases h), HR.out.mono ?_⟩
            rintro e W3 (⟨rfl, hJ3, hk3⟩ | ⟨rfl, hJx3⟩)
            · have kS := HS3.out.keep hk3 (Nat.le_refl _) (by omega)
              have HK := Lib.hid (And.intro kS hJ3)
              clear kS hJ3 hk3
              gi_wp2
              go_roundw
              case rel => exact ⟨_, tlE rest, by rw [tlE_size]; omega, HF.out, HK.out.1, HK.out.2⟩
              case measure =>
                rw [leftOf_box HK.out.1, leftOf_box HS.out]
                have := tlE_size rest
                unfold tlE at this
                omega
            · gi_wp2
              refine bodyPost_ret (results_none rfl _ _ _) rfl ?_
              exact ⟨⟨_, rfl⟩, .inr ⟨_, by rw [HF.out]; exact List.prefix_append _ _, hJx3⟩⟩
    · have hN := entL_none (s := rest) (fun h => by omega)
      have HN := Lib.hid hN
      clear hN
      gi_wp2
      go_end0
      exact ⟨⟨_, rfl⟩, .inl (by rw [HE.out, HN.out, List.append_nil]; exact hJ0.out)⟩
end Go.Proofs.YtijnlgmclaphhaaDoor
