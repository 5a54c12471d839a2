import Derived.Test.YtijnlgmclaphhaaDoorBd
import Derived.Test.YtijnlgmclaphhaaDoorMBytKN
/-! Encode. -/
namespace Go.Proofs.YtijnlgmclaphhaaDoor
open Go.RowKit Go.Proofs.YtijnlgmclaphhaaDoorZ

def idByte (n : Int) (i : Nat) : UInt8 := UInt8.ofNat (n.toNat / 256 ^ i % 256)
def idTo (n : Int) (i : Nat) : List UInt8 := (List.range i).map (idByte n)
def headN (x : Nm) : List UInt8 := UInt8.ofNat x.f0.size :: (x.f0.data.toList ++ [UInt8.ofNat x.f1.toNat])
def encN (x : Nm) : List UInt8 := headN x ++ idTo x.f2 8
def encL (l : List Nm) : List UInt8 := l.flatMap encN
def encodeL (l : List Nm) : ByteArray × Int := if rightL l = true then (⟨(encL l).toArray⟩, 0) else (⟨#[]⟩, 2)
theorem encode_no {l : List Nm} (h : rightL l = false) : encodeL l = (⟨#[]⟩, 2) := by unfold encodeL; rw [if_neg (by rw [h]; simp)]
theorem encode_yes {l : List Nm} (h : rightL l = true) : encodeL l = (⟨(encL l).toArray⟩, 0) := by unfold encodeL; rw [if_pos h]
theorem bc_append (a b : List UInt8) : Lib.byteCells (a ++ b) = Lib.byteCells a ++ Lib.byteCells b := by simp [Lib.byteCells]
theorem encN_length (x : Nm) : (encN x).length = 10 + x.f0.size := by
  have := Lib.size_eq x.f0
  unfold encN headN idTo
  rw [List.length_append, List.length_map, List.length_range, List.length_cons, List.length_append, List.length_singleton]
  omega
theorem encL_length (l : List Nm) : (encL l).length = sizeN l := by
  induction l with
  | nil => rfl
  | cons a l ih =>
    have e : encL (a :: l) = encN a ++ encL l := rfl
    rw [e, List.length_append, ih, encN_length, sizeN_cons]
theorem encL_take (l : List Nm) (i : Nat) (h : i < l.length) : encL (l.take (i + 1)) = encL (l.take i) ++ encN l[i] := by
  rw [List.take_succ_eq_append_getElem h]; unfold encL; rw [List.flatMap_append, List.flatMap_singleton]
theorem sizeN_take_le (l : List Nm) (i : Nat) : sizeN (l.take i) ≤ sizeN l := by
  conv => rhs; rw [← List.take_append_drop i l]
  rw [sizeN_append]; omega

theorem bc_snoc (a : List UInt8) (c : Int) (b : UInt8) (h : c = b.toNat) : Lib.byteCells a ++ [.int .u8 c] = Lib.byteCells (a ++ [b]) := by rw [bc_append, h]; rfl
theorem bc_str (a : List UInt8) (s : ByteArray) : Lib.byteCells a ++ Lib.strCells s = Lib.byteCells (a ++ s.data.toList) := by rw [bc_append]; rfl
theorem bc_len (a : List UInt8) : (Lib.byteCells a).length = a.length := by simp [Lib.byteCells]
theorem headN_length (x : Nm) : (headN x).length = 2 + x.f0.size := by
  have := Lib.size_eq x.f0
  unfold headN
  rw [List.length_cons, List.length_append, List.length_singleton]
  omega
theorem idByte_nat (n : Int) (i : Nat) (h : 0 ≤ n) : ((idByte n i).toNat : Int) = n / (256 : Int) ^ i % 256 := by
  obtain ⟨k, rfl⟩ := Int.eq_ofNat_of_zero_le h
  unfold idByte
  have e : (UInt8.ofNat (k / 256 ^ i % 256)).toNat = k / 256 ^ i % 256 := by
    rw [UInt8.toNat_ofNat']
    exact Nat.mod_mod _ _
  rw [Int.toNat_natCast, e, Int.natCast_emod, Int.natCast_ediv, Int.natCast_pow]
  rfl
theorem idTo_succ (n : Int) (i : Nat) : idTo n (i + 1) = idTo n i ++ [idByte n i] := by simp [idTo, List.range_succ]
theorem bc_id (P : List UInt8) (n c : Int) (i : Nat) (h : 0 ≤ n) (hc : c = n / (256 : Int) ^ i % 256) : Lib.byteCells (P ++ idTo n i) ++ [.int .u8 c] = Lib.byteCells (P ++ idTo n (i + 1)) := by
  rw [bc_snoc _ _ (idByte n i) (by rw [idByte_nat n i h]; exact hc), idTo_succ, List.append_assoc]
theorem kept_box {bb g : Nat} {w w' : World} {m : Nm} (h : Lib.OthersKept 5 (some bb) w w') (hg : w.heap[g]? = some (.cells (nlist m).toArray 25 (0, 0))) (hne : g ≠ bb) : w'.heap[g]? = some (.cells (nlist m).toArray 25 (0, 0)) :=
  h g _ hg (by simpa using hne) (fun c fz hc => by cases hc)
theorem below_base {w W W' : World} {B : Nat} (h : Below B w W) (h2 : Below B W W') : Below B w W' := h.trans h2

set_option maxRecDepth 100000 in
set_option maxHeartbeats 4000000 in
theorem encode_any (oa : Option Addr) (cap : Nat) (l : List Nm) (w : World) (hl : RowsAt w (.slice oa l.length cap) l) (hn : l.length ≤ 4398046511104) :
    Calls Tryd.prog 15 #[.slice oa l.length cap] w fun e w' => e = .returned (.tuple #[.string (encodeL l).1, .int .i64 (encodeL l).2]) ∧ Below w.heap.size w w' := by
  go_enter Tryd.func15, Tryd.ntmps15
  go_wp2_with fail
  refine (Right_any _ _ l _ hl hn).mono ?_
  rintro e w1 ⟨rfl, hb1⟩
  cases hr : rightL l
  · have HE := Lib.hid (encode_no hr)
    go_wp2
    go_ret2
    rw [HE.out]
    exact ⟨rfl, hb1⟩
  · have HE := Lib.hid (encode_yes hr)
    have hsz := (right_ord hr).2
    have hlen := right_len hr
    have HOK := Lib.hid (ord_ok (right_ord hr).1)
    have hB : w.heap.size ≤ w1.heap.size := hb1.size
    have HB1 := Lib.hid hb1
    obtain ⟨oa', cap', b, off, hv, h1, h2, h3, h4⟩ := hl
    cases hv
    have H3 := Lib.hid h3
    have H4 := Lib.hid h4
    clear h3 h4 hr hb1
    unfold maxLen at h2
    go_wp2
    go_loopw [13] (fun vi wr => ∃ (k : Nat), vi = .int .i64 k ∧ k ≤ l.length ∧ Hid (Lib.IsBuilderF 63 5 w.heap.size w1.heap.size (Lib.byteCells (encL (l.take k))) wr) ∧ Hid (Below w.heap.size w wr) ∧ w1.heap.size < wr.heap.size) (fun vi _ => (l.length - (intOf vi).toNat))
    case atStart =>
      refine ⟨0, rfl, by omega, ?_, (HB1.out.alloc hB _), by simp⟩
      exact .inl ⟨hB, .slice none 0 0, heap_alloc_new w1 _, World.ownsRowF_of ⟨rfl, .inl ⟨rfl, rfl⟩⟩, by simp [Value.ownBlock]⟩
    case round =>
      obtain ⟨k, rfl, hk, HI, HB, hwr⟩ := hrel
      by_cases hlt : k < l.length
      · obtain ⟨rfl, hbb⟩ := H3.out (by omega)
        obtain ⟨c0, c1, c2⟩ := RowsAt.cells H4 HB.out hbb k hlt
        have hok := HOK.out _ (List.getElem_mem hlt)
        have HT := Lib.hid (encL_take l k hlt)
        have HZ := Lib.hid (encL_length (l.take k))
        have hzk := sizeN_take_le l k
        generalize (l[k]'hlt) = m at *
        obtain ⟨o1, o2, o3, o4⟩ := okN_out hok
        obtain ⟨o5, o6⟩ := fits_out o1
        have hP : (encL (l.take k)).length ≤ 4096 := by rw [HZ.out]; omega
        generalize encL (l.take k) = P at *
        have HBX := Lib.hid (box_nm wr m 25)
        have HBA := Lib.hid (HB.out.alloc HB.out.size (.cells #[.string m.f0, .int .i64 m.f1, .int .i64 m.f2] 25))
        have hsa : w.heap.size ≤ (wr.alloc (.cells #[.string m.f0, .int .i64 m.f1, .int .i64 m.f2] 25)).heap.size := HBA.out.size
        go_wp2_with fail
        refine (writeByteK w.heap.size w1.heap.size _ _ _ (HI.out.alloc _) (by rw [bc_len]; omega) hsa).mono ?_
        rintro e w2 ⟨rfl, hI2, hb2, hk2⟩
        clear c0 c1 c2 hsa
        rw [bc_snoc _ _ (UInt8.ofNat m.f0.size) (by simp; omega)] at hI2
        have hg2 := kept_box hk2 HBX.out (by omega)
        obtain ⟨e0, e1, e2⟩ := (BoxAt.of_block hg2).cells
        have HB2 := Lib.hid (HBA.out.trans hb2)
        have HI2 := Lib.hid hI2
        have HG2 := Lib.hid hg2
        clear hI2 hb2 hk2 hg2
        have hs2 := HB2.out.size
        go_wp2_with fail
        refine (writeStringK w.heap.size w1.heap.size _ _ _ (.inr HI2.out) (by rw [bc_len]; simp; omega) hs2).mono ?_
        rintro e w3 ⟨rfl, hI3, hb3, hk3⟩
        clear e0 e1 e2 hs2
        rw [bc_str] at hI3
        have hg3 := kept_box hk3 HG2.out (by omega)
        obtain ⟨e0, e1, e2⟩ := (BoxAt.of_block hg3).cells
        have HB3 := Lib.hid (HB2.out.trans hb3)
        have HI3 := Lib.hid hI3
        have HG3 := Lib.hid hg3
        clear hI3 hb3 hk3 hg3
        have hs3 := HB3.out.size
        go_wp2_with fail
        refine (writeByteK w.heap.size w1.heap.size _ _ _ (.inr HI3.out) (by rw [bc_len]; simp; have := Lib.size_eq m.f0; simp at this; omega) hs3).mono ?_
        rintro e w4 ⟨rfl, hI4, hb4, hk4⟩
        clear e0 e1 e2 hs3
        rw [bc_snoc _ _ (UInt8.ofNat m.f1.toNat) (by simp; omega)] at hI4
        have eP : (P ++ [UInt8.ofNat m.f0.size] ++ m.f0.data.toList) ++ [UInt8.ofNat m.f1.toNat] = P ++ headN m ++ idTo m.f2 0 := by simp [headN, idTo]
        rw [eP] at hI4
        have HB4 := Lib.hid (HB3.out.trans hb4)
        have HI4 := Lib.hid hI4
        have HG4 := Lib.hid (kept_box hk4 HG3.out (by omega))
        clear hI4 hb4 hk4 eP
        go_wp2
        go_loopw [29] (fun vi wx => ∃ i : Nat, vi = .int .i64 i ∧ i ≤ 8 ∧ Hid (Lib.IsBuilderF 63 5 w.heap.size w1.heap.size (Lib.byteCells (P ++ headN m ++ idTo m.f2 i)) wx) ∧ Hid (Below w.heap.size w wx) ∧ Hid (wx.heap[wr.heap.size]? = some (.cells (nlist m).toArray 25 (0, 0)))) (fun vi _ => (8 - (intOf vi).toNat))
        case atStart => exact ⟨0, rfl, by omega, .inr HI4.out, HB4.out, HG4.out⟩
        case round =>
          obtain ⟨i, rfl, hi, HI5, HB5, HG5⟩ := hrel
          by_cases hi8 : i < 8
          · obtain ⟨e0, e1, e2⟩ := (BoxAt.of_block HG5.out).cells
            have hs5 := HB5.out.size
            have hln : (P ++ headN m ++ idTo m.f2 i).length + 1 ≤ 140737488355328 := by rw [List.length_append, List.length_append, headN_length]; simp [idTo]; omega
            rcases (show i = 0 ∨ i = 1 ∨ i = 2 ∨ i = 3 ∨ i = 4 ∨ i = 5 ∨ i = 6 ∨ i = 7 by omega) with rfl | rfl | rfl | rfl | rfl | rfl | rfl | rfl
            all_goals
              go_wp2_with fail
              refine (writeByteK w.heap.size _ _ _ _ (HI5.out) (by rw [bc_len]; exact hln) hs5).mono ?_
              rintro e w6 ⟨rfl, hI6, hb6, hk6⟩
              rw [bc_id _ _ _ _ (by omega) (by simp only [Int.reducePow, Int.pow_zero] <;> omega)] at hI6
              have HI6 := Lib.hid hI6
              have HB6 := Lib.hid (HB5.out.trans hb6)
              have HG6 := Lib.hid (kept_box hk6 HG5.out (by omega))
              clear hI6 hb6 hk6 e0 e1 e2 hs5 hln
              go_wp2
              go_roundw
              case rel => exact ⟨_, by go_num, by omega, .inr HI6.out, HB6.out, HG6.out⟩
              case measure => simp [intOf]
          · obtain rfl : i = 8 := by omega
            go_wp2
            go_roundw
            case rel => exact ⟨k + 1, by go_num, by omega, by rw [HT.out, show encN m = headN m ++ idTo m.f2 8 from rfl, ← List.append_assoc]; exact HI5.out, HB5.out, by have := (Array.getElem?_eq_some_iff.1 HG5.out).1; omega⟩
            case measure => simp [intOf]; omega
      · obtain rfl : k = l.length := by omega
        go_wp2_with fail
        refine (builderString w.heap.size w1.heap.size _ wr HI.out HB.out.size).mono ?_
        rintro e w2 ⟨rfl, hb2⟩
        go_wp2
        go_ret2
        rw [HE.out]
        exact ⟨rfl, HB.out.trans hb2⟩
end Go.Proofs.YtijnlgmclaphhaaDoor
namespace Go.Proofs.YtijnlgmclaphhaaDoorZ
open Go.RowKit Go.Proofs.YtijnlgmclaphhaaDoor Go.Proofs.YtijnlgmclaphhaaDoorW.PrintWords
def dir_Encode.f (l0 : List (S25)) : Option (ByteArray × Int) := if l0.length ≤ 4398046511104 then some (encodeL l0) else none
theorem dir_Encode.calls (A0 : Option Addr) (c0 : Nat) (l0 : List (S25)) (r1 : ByteArray) (r2 : Int) (w : World) (hr0 : Kd.C k25 w A0 l0.length l0) (hc0 : l0.length ≤ c0) (h : dir_Encode.f l0 = some (r1, r2)) :
    Calls Tryd.prog 15 #[.slice A0 l0.length c0] w fun e w' => e = .returned (.tuple #[.string r1, .int .i64 r2]) ∧ Below w.heap.size w w' := by
  unfold dir_Encode.f at h
  split at h
  · rename_i hl
    refine (encode_any A0 c0 l0 w (rows_of_C hr0 hc0) hl).mono ?_
    injection h with h
    rw [h]
    rintro e w' ⟨rfl, hb⟩
    exact ⟨rfl, hb⟩
  · cases h
end Go.Proofs.YtijnlgmclaphhaaDoorZ
