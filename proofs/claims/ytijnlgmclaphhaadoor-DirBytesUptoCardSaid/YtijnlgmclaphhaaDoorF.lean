import Derived.Test.YtijnlgmclaphhaaDoorSh
import Derived.WalkKit
import Derived.WalkSpells
import Derived.WalkLawsBesides
import Derived.Lib.Hide
import Derived.Laws.Entries
import Derived.Laws.Runes
import Derived.WalkMore
import Derived.Laws.RangeAny
import Derived.Lib.DecodeN
import Derived.Lib.TrimU
import Derived.Deep.LoopGhost
import Derived.Deep.QuietTactic
import Derived.BigQuiet
import Derived.Below
import Derived.Test.YtijnlgmclaphhaaDoorZ0
set_option linter.unusedSimpArgs false
set_option linter.unusedVariables false
/-! strings.ContainsAny at the two bytes that a name has not: whatever bytes the text has. -/
namespace Go.Proofs.YtijnlgmclaphhaaDoor
open Go.RowKit

def sl0 : ByteArray := ⟨#[47, 0]⟩
theorem sl0_size : sl0.size = 2 := rfl
theorem iter_below (w : World) (s : ByteArray) (pos : Nat) : Below w.heap.size w (w.iter s pos) := (Below.refl _ _).alloc (Nat.le_refl _) _
theorem enc_cases (r : Int) (hv : Utf8.valid r = true) (h : 128 ≤ r) : (∃ y x : UInt8, Utf8.encode r = ⟨#[y, x]⟩ ∧ 128 ≤ x.toNat) ∨ (∃ z y x : UInt8, Utf8.encode r = ⟨#[z, y, x]⟩) ∨ (∃ u z y x : UInt8, Utf8.encode r = ⟨#[u, z, y, x]⟩) := by
  have hc : ¬ r.toNat < 128 := by omega
  unfold Utf8.encode
  simp only [hv, if_true, hc, if_false]
  split
  · exact .inl ⟨_, _, rfl, by simp; omega⟩
  · split
    · exact .inr (.inl ⟨_, _, _, rfl⟩)
    · exact .inr (.inr ⟨_, _, _, _, rfl⟩)

set_option maxRecDepth 100000 in
theorem rune_bad (w : World) : Calls Tryd.prog 79 #[.string ⟨#[47, 0]⟩, .int .i32 65533] w fun e w' => e = .returned (.int .i64 (-1)) ∧ Below w.heap.size w w' := by
  have d0 : ∀ ty, (Instr.next (.pointer (some ⟨w.heap.size, 0, none⟩)) true ty).run Tryd.prog (w.iter ⟨#[47, 0]⟩ 0) = .ok (.tuple #[.bool true, .int .i64 0, .int .i32 47]) (w.iter ⟨#[47, 0]⟩ 1) := fun ty => run_next_ascii (P := Tryd.prog) w ⟨#[47, 0]⟩ 0 ty (by decide) (by decide)
  have d1 : ∀ ty, (Instr.next (.pointer (some ⟨w.heap.size, 0, none⟩)) true ty).run Tryd.prog (w.iter ⟨#[47, 0]⟩ 1) = .ok (.tuple #[.bool true, .int .i64 1, .int .i32 0]) (w.iter ⟨#[47, 0]⟩ 2) := fun ty => run_next_ascii (P := Tryd.prog) w ⟨#[47, 0]⟩ 1 ty (by decide) (by decide)
  have d2 : ∀ ty, (Instr.next (.pointer (some ⟨w.heap.size, 0, none⟩)) true ty).run Tryd.prog (w.iter ⟨#[47, 0]⟩ 2) = .ok (.tuple #[.bool false]) (w.iter ⟨#[47, 0]⟩ 2) := fun ty => run_next_end (P := Tryd.prog) w ⟨#[47, 0]⟩ 2 ty (by decide)
  go_enter Tryd.func79, Tryd.ntmps79
  go_wp2
  go_loopg [5, 6] 2 (fun g _ _ wx => ∃ i : Nat, i + g = 2 ∧ wx = w.iter ⟨#[47, 0]⟩ i)
  case atStart => exact ⟨0, by omega, rfl⟩
  case round =>
    obtain ⟨i, hig, rfl⟩ := hrel
    cases gk with
    | zero =>
      obtain rfl : i = 2 := by omega
      go_wp2
      go_ret
      exact ⟨rfl, iter_below _ _ _⟩
    | succ g =>
      rcases (show i = 0 ∨ i = 1 by omega) with rfl | rfl
      all_goals
        go_wp2
        go_roundg g
        case measure => omega
        case rel => exact ⟨_, by omega, rfl⟩
set_option maxHeartbeats 2000000 in
set_option maxRecDepth 100000 in
theorem rune_high (r : Int) (w : World) (h : 128 ≤ r) (h2 : r ≤ 1114111) : Calls Tryd.prog 79 #[.string ⟨#[47, 0]⟩, .int .i32 r] w fun e w' => e = .returned (.int .i64 (-1)) ∧ Below w.heap.size w w' := by
  by_cases hr : r = 65533
  · subst hr; exact rune_bad w
  · have hne : (r == 65533) = false := by simpa using hr
    have hr0 : 0 ≤ r := by omega
    have hlt : ¬ r < 128 := by omega
    cases hv : Lib.validRune r
    · go_enter Tryd.func79, Tryd.ntmps79
      go_wp2_with (go_at_call 86; refine (Tryd.utf8_ValidRune _ _).mono ?_; rintro e w' ⟨rfl, hw⟩; rw [hw, hv])
      go_ret
      exact ⟨rfl, Below.refl _ _⟩
    · have hv' : Utf8.valid r = true := by
        unfold Lib.validRune at hv
        unfold Utf8.valid
        simp at hv ⊢
        omega
      rcases enc_cases r hv' h with ⟨y, x, he, hx⟩ | ⟨z, y, x, he⟩ | ⟨u, z, y, x, he⟩
      · have hne2 : ((0 : Int) != (x.toNat : Int)) = true := by rw [bne_iff_ne]; omega
        have hw2 := Lib.hid (show IntKind.i64.wrap 2 = 2 by decide)
        have HBB := Lib.hid (show (((({ data := #[47, 0] } : ByteArray)[1]'(by decide)).toNat : Int) != ((({ data := #[y, x] } : ByteArray)[1]'(by show 1 < 2; omega)).toNat : Int)) = true from hne2)
        clear hv'
        go_enter Tryd.func79, Tryd.ntmps79
        go_wp2_with (go_at_call 86; refine (Tryd.utf8_ValidRune _ _).mono ?_; rintro e w' ⟨rfl, hw⟩; rw [hw, hv])
        go_step3
        go_wp2
        go_loop [9, 10] (fun v9 v10 => v9 = .int .i64 1 ∧ v10 = .int .i64 0) (fun _ _ => 0)
        case atStart => exact ⟨rfl, rfl⟩
        case round =>
          obtain ⟨rfl, rfl⟩ := hrel
          go_wp2
          go_step3
          go_wp2
          go_quiet (fail)
          have hbb := HBB.out
          go_wp2
          obtain ⟨W, hW⟩ : ∃ W : World, W = w.drewN nq := ⟨_, rfl⟩
          rw [← hW]
          have hb : Below w.heap.size w W := by subst hW; exact ⟨rfl, rfl, rfl, Nat.le_refl _, fun _ _ => rfl⟩
          clear hW hbb
          have hw3 := hw2.out
          go_quiet ((go_at_call 46; exact Calls.quiet_of_same (Tryd.strings_IndexByte _ _ _)))
          go_wp2
          rw [Exit.noGoto_ret]
          go_wp2
          rw [Exit.noGoto_ret]
          go_wp2
          go_ret
          exact ⟨rfl, ⟨hb.os, hb.tape, hb.output, hb.size, hb.block⟩⟩
      · clear hv'
        go_enter Tryd.func79, Tryd.ntmps79
        go_wp2_with (go_at_call 86; refine (Tryd.utf8_ValidRune _ _).mono ?_; rintro e w' ⟨rfl, hw⟩; rw [hw, hv])
        go_step3
        go_wp2
        go_loop [9, 10] (fun v9 v10 => v9 = .int .i64 2 ∧ v10 = .int .i64 0) (fun _ _ => 0)
        case atStart => exact ⟨rfl, rfl⟩
        case round =>
          obtain ⟨rfl, rfl⟩ := hrel
          go_wp2
          go_ret
          exact ⟨rfl, Below.refl _ _⟩
      · clear hv'
        go_enter Tryd.func79, Tryd.ntmps79
        go_wp2_with (go_at_call 86; refine (Tryd.utf8_ValidRune _ _).mono ?_; rintro e w' ⟨rfl, hw⟩; rw [hw, hv])
        go_step3
        go_wp2
        go_loop [9, 10] (fun v9 v10 => v9 = .int .i64 3 ∧ v10 = .int .i64 0) (fun _ _ => 0)
        case atStart => exact ⟨rfl, rfl⟩
        case round =>
          obtain ⟨rfl, rfl⟩ := hrel
          go_wp2
          go_ret
          exact ⟨rfl, Below.refl _ _⟩
end Go.Proofs.YtijnlgmclaphhaaDoor
namespace Go.Proofs.YtijnlgmclaphhaaDoor
open Go.RowKit

def badB (b : UInt8) : Bool := b == 47 || b == 0
def hasBad (s : ByteArray) : Bool := s.data.toList.any badB
def iterAt (W : World) (b : Nat) (s : ByteArray) (pos : Nat) : World := { W with heap := W.heap.setIfInBounds b (.stringIter s pos) }
theorem iterAt_get (W : World) (b : Nat) (s : ByteArray) (pos : Nat) (h : b < W.heap.size) : (iterAt W b s pos).heap[b]? = some (.stringIter s pos) := by
  simp [iterAt, h]
theorem iterAt_size (W : World) (b : Nat) (s : ByteArray) (pos : Nat) : (iterAt W b s pos).heap.size = W.heap.size := by simp [iterAt]
theorem iterAt_below {w W : World} {b : Nat} {s : ByteArray} {pos : Nat} (h : Below w.heap.size w W) (hb : w.heap.size ≤ b) : Below w.heap.size w (iterAt W b s pos) :=
  ⟨h.os, h.tape, h.output, by rw [iterAt_size]; exact h.size, fun k hk => by
    show (W.heap.setIfInBounds b (.stringIter s pos))[k]? = _
    rw [Array.getElem?_setIfInBounds, if_neg (by omega)]; exact h.block k hk⟩
theorem next_at (W : World) (b : Nat) (s : ByteArray) (pos : Nat) (ty : TypeId) (hg : W.heap[b]? = some (.stringIter s pos)) (h : pos < s.size) :
    (Instr.next (.pointer (some ⟨b, 0, none⟩)) true ty).run Tryd.prog W = .ok (.tuple #[.bool true, .int .i64 pos, .int .i32 (Utf8.decode s pos).1]) (iterAt W b s (pos + (Utf8.decode s pos).2)) := by
  simp only [Instr.next, getObj, setObj, Sem.run_bind, Sem.run, hg, Result.andThen, h, if_true, iterAt]
  simp [goInt]
theorem next_end_at (W : World) (b : Nat) (s : ByteArray) (pos : Nat) (ty : TypeId) (hg : W.heap[b]? = some (.stringIter s pos)) (h : ¬ pos < s.size) :
    (Instr.next (.pointer (some ⟨b, 0, none⟩)) true ty).run Tryd.prog W = .ok (.tuple #[.bool false]) W := by
  simp [Instr.next, getObj, Sem.run, hg, h]
set_option maxRecDepth 100000 in
set_option maxHeartbeats 2000000 in
/-- What a rune beyond ASCII takes is beyond ASCII. -/
theorem dec_skip (s : ByteArray) (i : Nat) (h : 128 ≤ (s.get! i).toNat) : ∀ j, j < (Utf8.decode s i).2 → 128 ≤ (s.get! (i + j)).toNat := by
  rw [Lib.decode_at]
  generalize hb1 : (s.get! (i + 1)).toNat = b1
  generalize hb2 : (s.get! (i + 2)).toNat = b2
  generalize hb3 : (s.get! (i + 3)).toNat = b3
  unfold Lib.decodeN
  intro j hj
  rw [if_neg (by omega)] at hj
  have k0 : j = 0 → 128 ≤ (s.get! (i + j)).toNat := by rintro rfl; exact h
  by_cases c2 : (s.get! i).toNat / 32 = 6 ∧ 1 < s.size - i ∧ b1 / 64 = 2
  · rw [if_pos c2] at hj
    have hj2 : j < 2 := by split at hj <;> simp at hj <;> omega
    rcases (show j = 0 ∨ j = 1 by omega) with rfl | rfl
    · exact h
    · rw [hb1]; omega
  · rw [if_neg c2] at hj
    by_cases c3 : (s.get! i).toNat / 16 = 14 ∧ (1 < s.size - i ∧ b1 / 64 = 2) ∧ (2 < s.size - i ∧ b2 / 64 = 2)
    · rw [if_pos c3] at hj
      have hj2 : j < 3 := by split at hj <;> simp at hj <;> omega
      rcases (show j = 0 ∨ j = 1 ∨ j = 2 by omega) with rfl | rfl | rfl
      · exact h
      · rw [hb1]; omega
      · rw [hb2]; omega
    · rw [if_neg c3] at hj
      by_cases c4 : (s.get! i).toNat / 8 = 30 ∧ (1 < s.size - i ∧ b1 / 64 = 2) ∧ (2 < s.size - i ∧ b2 / 64 = 2) ∧ (3 < s.size - i ∧ b3 / 64 = 2)
      · rw [if_pos c4] at hj
        have hj2 : j < 4 := by split at hj <;> simp at hj <;> omega
        rcases (show j = 0 ∨ j = 1 ∨ j = 2 ∨ j = 3 by omega) with rfl | rfl | rfl | rfl
        · exact h
        · rw [hb1]; omega
        · rw [hb2]; omega
        · rw [hb3]; omega
      · rw [if_neg c4] at hj
        exact k0 (by simpa using hj)
theorem get_at! (s : ByteArray) (i : Nat) (h : i < s.size) : s.get! i = s[i]'h := by
  have := Go.get_at s i h
  simpa using this
/-- The bytes ahead of i are good. -/
def Clean (s : ByteArray) (i : Nat) : Prop := ∀ j, j < i → (h : j < s.size) → badB (s[j]'h) = false
theorem Clean.zero (s : ByteArray) : Clean s 0 := fun _ h => by omega
theorem Clean.end {s : ByteArray} {i : Nat} (h : Clean s i) (hi : s.size ≤ i) : hasBad s = false := by
  unfold hasBad
  rw [List.any_eq_false]
  intro b hb
  obtain ⟨j, hj, rfl⟩ := List.getElem_of_mem hb
  have hj' : j < s.size := by simpa using hj
  have := h j (by omega) hj'
  intro hh
  have e : s.data.toList[j]'hj = s[j]'hj' := rfl
  rw [e, this] at hh
  cases hh
theorem Clean.hit {s : ByteArray} {i : Nat} (hi : i < s.size) (h : badB (s[i]'hi) = true) : hasBad s = true := by
  unfold hasBad
  rw [List.any_eq_true]
  exact ⟨s[i]'hi, by show s.data[i] ∈ s.data.toList; simp, h⟩
theorem Clean.one {s : ByteArray} {i : Nat} (h : Clean s i) (hi : i < s.size) (hb : badB (s[i]'hi) = false) : Clean s (i + 1) := fun j hj hs => by
  rcases Nat.lt_or_ge j i with h' | h'
  · exact h j h' hs
  · obtain rfl : j = i := by omega
    exact hb
theorem bad_high {b : UInt8} (h : 128 ≤ b.toNat) : badB b = false := by
  unfold badB
  simp only [Bool.or_eq_false_iff, beq_eq_false_iff_ne, ne_eq]
  constructor <;> rintro rfl <;> simp at h
theorem Clean.skip {s : ByteArray} {i : Nat} (h : Clean s i) (hb : 128 ≤ (s.get! i).toNat) : Clean s (i + (Utf8.decode s i).2) := fun j hj hs => by
  rcases Nat.lt_or_ge j i with h' | h'
  · exact h j h' hs
  · have := dec_skip s i hb (j - i) (by omega)
    rw [show i + (j - i) = j by omega, get_at! s j hs] at this
    exact bad_high this
theorem index_bad (x : UInt8) : decide (0 ≤ Lib.indexByte [47, 0] x) = badB x := by
  revert x
  have : ∀ n : Nat, n < 256 → decide (0 ≤ Lib.indexByte [47, 0] (UInt8.ofNat n)) = badB (UInt8.ofNat n) := by decide +kernel
  intro x
  have := this x.toNat x.toNat_lt
  simpa using this

set_option maxHeartbeats 2000000 in
set_option maxRecDepth 100000 in
theorem indexAny_short (s : ByteArray) (w : World) (h8 : s.size ≤ 8) : Calls Tryd.prog 73 #[.string s, .string ⟨#[47, 0]⟩] w fun e w' => ∃ r : Int, e = .returned (.int .i64 r) ∧ decide (0 ≤ r) = hasBad s ∧ Below w.heap.size w w' := by
  have h8z : decide ((8 : Int) < (s.size : Int)) = false := decide_eq_false (by omega)
  go_enter Tryd.func73, Tryd.ntmps73
  go_wp2_with (go_at_call 80; refine (Tryd.strings_shouldUseASCIISet _ _).mono ?_; rintro e w' ⟨rfl, hw⟩; rw [hw, h8z])
  go_loopg [9, 10] s.size (fun g _ _ wx => ∃ i : Nat, s.size ≤ i + g ∧ wx.heap[w.heap.size]? = some (.stringIter s i) ∧ Below w.heap.size w wx ∧ Hid (Clean s i))
  case atStart => exact ⟨0, by omega, World.iter_heap w s 0, iter_below w s 0, Clean.zero s⟩
  case round =>
    obtain ⟨i, hig, hg, hb, HC⟩ := hrel
    have hlt : w.heap.size < wr.heap.size := (Array.getElem?_eq_some_iff.1 hg).1
    by_cases hi : i < s.size
    · obtain ⟨g, rfl⟩ : ∃ g, gk = g + 1 := ⟨gk - 1, by omega⟩
      have hit := fun p => iterAt_get wr w.heap.size s p hlt
      have hib := fun p => iterAt_below (s := s) (pos := p) hb (Nat.le_refl w.heap.size)
      have HIT := Lib.hid hit
      have HIB := Lib.hid hib
      clear hit hib
      obtain ⟨x, hx⟩ : ∃ x : UInt8, s[i]'hi = x := ⟨_, rfl⟩
      by_cases h128 : x.toNat < 128
      · have hd : Utf8.decode s i = (x.toNat, 1) := by rw [Go.decode_ascii s i hi (by rw [hx]; exact h128), hx]
        have hnx := fun ty => next_at wr w.heap.size s i ty hg hi
        rw [hd] at hnx
        have hback : ((x.toNat : Int)).toNat.toUInt8 = x := by simp
        have hz0 : (0 : Int) ≤ (x.toNat : Int) := by omega
        have hz1 : (x.toNat : Int) < 128 := by omega
        have HX := Lib.hid hx
        clear hx hd hg
        have hib := index_bad x
        cases hbad : badB x
        · rw [hbad] at hib
          have hneg : ¬ ((0 : Int) ≤ Lib.indexByte [47, 0] x) := of_decide_eq_false hib
          clear hib
          go_wp2_with (go_at_call 79; refine (Tryd.strings_IndexRune_ascii _ _ _ hz0 hz1).mono ?_; rintro e w' ⟨rfl, hw⟩; rw [hw, hback])
          go_roundg g
          case measure => omega
          case rel => exact ⟨i + 1, by omega, HIT.out _, HIB.out _, HC.out.one hi (by rw [HX.out]; exact hbad)⟩
        · rw [hbad] at hib
          have hpos : (0 : Int) ≤ Lib.indexByte [47, 0] x := of_decide_eq_true hib
          clear hib
          go_wp2_with (go_at_call 79; refine (Tryd.strings_IndexRune_ascii _ _ _ hz0 hz1).mono ?_; rintro e w' ⟨rfl, hw⟩; rw [hw, hback])
          go_ret
          exact ⟨_, rfl, by rw [Clean.hit hi (by rw [HX.out]; exact hbad)]; exact decide_eq_true (by omega), HIB.out _⟩
      · have hge : 128 ≤ (s.get! i).toNat := by rw [get_at! s i hi, hx]; omega
        obtain ⟨r, hr⟩ : ∃ r : Nat, (Utf8.decode s i).1 = r := ⟨_, rfl⟩
        have hr1 : 128 ≤ (r : Int) := by have := (Go.decode_high s i hi (by rw [hx]; omega)).1; omega
        have hr2 : (r : Int) ≤ 1114111 := by have := Lib.rune_le s i; omega
        have hw1 := (Go.decode_high s i hi (by rw [hx]; omega)).2
        have HS := Lib.hid (HC.out.skip hge)
        have hnx := fun ty => next_at wr w.heap.size s i ty hg hi
        rw [hr] at hnx
        generalize (Utf8.decode s i).2 = k at *
        clear hx hg hr hge
        go_wp2_with (go_at_call 79; refine (rune_high _ _ hr1 hr2).mono ?_; rintro e w' ⟨rfl, hb2⟩)
        go_roundg g
        case measure => omega
        case rel => exact ⟨i + k, by omega, (hb2.block _ (by rw [iterAt_size]; exact hlt)).trans (HIT.out _), (HIB.out _).trans (hb2.mono (by rw [iterAt_size]; omega)), HS.out⟩
    · have hnx := fun ty => next_end_at wr w.heap.size s i ty hg hi
      clear hg
      go_wp2
      go_ret
      exact ⟨_, rfl, by rw [HC.out.end (by omega)]; decide, hb⟩
end Go.Proofs.YtijnlgmclaphhaaDoor
namespace Go.Proofs.YtijnlgmclaphhaaDoor
open Go.RowKit

theorem zero105 : ∀ w, (zeroValue 105).run Tryd.prog w = .ok (.agg (Array.replicate 256 (.bool false))) w := (zero_of_info (t := 105) (n := 256) (by kernel_rfl)).1
theorem any_bad : ∀ l : List UInt8, decide (0 ≤ Lib.indexAny l [47, 0]) = l.any badB := by
  intro l
  induction l with
  | nil => rfl
  | cons b l ih =>
    have e : ([47, 0] : List UInt8).contains b = badB b := by
      unfold badB
      simp [List.contains_cons]
      rfl
    have hge := Lib.indexAny_ge [47, 0] l
    rw [Lib.indexAny, List.any_cons, ← ih, e]
    cases badB b
    · simp only [Bool.false_eq_true, if_false, Bool.false_or]
      by_cases h : Lib.indexAny l [47, 0] = -1
      · rw [h]; rfl
      · rw [if_neg (by simpa using h)]
        exact decide_eq_decide.2 (by omega)
    · rfl
theorem containsAny_any (s : ByteArray) (w : World) (hs : s.size ≤ 1000) : Calls Tryd.prog 63 #[.string s, .string ⟨#[47, 0]⟩] w fun e w' => e = .returned (.bool (hasBad s)) ∧ Below w.heap.size w w' := by
  have hc : Calls Tryd.prog 73 #[.string s, .string ⟨#[47, 0]⟩] w fun e w' => ∃ r : Int, e = .returned (.int .i64 r) ∧ decide (0 ≤ r) = hasBad s ∧ Below w.heap.size w w' := by
    by_cases h8 : s.size ≤ 8
    · exact indexAny_short s w h8
    · refine (Tryd.strings_IndexAny_long zero105 s ⟨#[47, 0]⟩ w (by decide) (by omega) (by omega) (by decide) ?_).mono ?_
      · intro j b hj
        have : b ∈ ([47, 0] : List UInt8) := List.mem_of_getElem? hj
        simp at this
        rcases this with rfl | rfl <;> decide
      · rintro e w' ⟨rfl, rfl⟩
        exact ⟨_, rfl, any_bad _, ((Below.refl _ _).alloc (Nat.le_refl _) _).alloc (by simp) _⟩
  go_enter Tryd.func63, Tryd.ntmps63
  go_wp2_with fail
  refine hc.mono ?_
  rintro e w' ⟨r, rfl, hr, hb⟩
  have HR := Lib.hid hr
  clear hr
  go_wp2
  go_ret
  exact ⟨by rw [← HR.out]; rfl, hb⟩
def fitsB (s : ByteArray) : Bool := decide (1 ≤ s.size) && decide (s.size ≤ 32) && s.toList != [46] && s.toList != [46, 46] && !hasBad s
theorem fits_any (s : ByteArray) (w : World) : Calls Tryd.prog 49 #[.string s] w fun e w' => e = .returned (.bool (fitsB s)) ∧ Below w.heap.size w w' := by
  have hf : ∀ b, fitsB s = b → Hid (fitsB s = b) := fun _ h => Lib.hid h
  by_cases h1 : 1 ≤ s.size
  · by_cases h2 : s.size ≤ 32
    · by_cases h3 : s.toList = [46]
      · have E := hf false (by unfold fitsB; rw [h3]; simp)
        rw [E.out]
        clear hf
        go_enter Tryd.func49, Tryd.ntmps49
        go_wp2
        go_ret
        exact ⟨rfl, Below.refl _ _⟩
      · by_cases h4 : s.toList = [46, 46]
        · have E := hf false (by unfold fitsB; rw [h4]; simp)
          rw [E.out]
          clear hf
          go_enter Tryd.func49, Tryd.ntmps49
          go_wp2
          go_ret
          exact ⟨rfl, Below.refl _ _⟩
        · have E := hf (!hasBad s) (by unfold fitsB; rw [decide_eq_true h1, decide_eq_true h2, bne_iff_ne.2 h3, bne_iff_ne.2 h4]; simp)
          rw [E.out]
          clear hf
          go_enter Tryd.func49, Tryd.ntmps49
          go_wp2_with fail
          refine (containsAny_any s _ (by omega)).mono ?_
          rintro e w' ⟨rfl, hb⟩
          go_wp2
          go_ret
          have e3 : (s.toList == [46]) = false := beq_eq_false_iff_ne.2 h3
          have e4 : (s.toList == [46, 46]) = false := beq_eq_false_iff_ne.2 h4
          exact ⟨by simp [e3, e4], hb⟩
    · have E := hf false (by unfold fitsB; rw [decide_eq_false h2]; simp)
      rw [E.out]
      clear hf
      go_enter Tryd.func49, Tryd.ntmps49
      go_wp2
      go_ret
      exact ⟨rfl, Below.refl _ _⟩
  · have E := hf false (by unfold fitsB; rw [decide_eq_false h1]; simp)
    rw [E.out]
    clear hf
    go_enter Tryd.func49, Tryd.ntmps49
    go_wp2
    go_ret
    exact ⟨rfl, Below.refl _ _⟩
end Go.Proofs.YtijnlgmclaphhaaDoor
namespace Go.Proofs.YtijnlgmclaphhaaDoorZ
open Go.RowKit Go.Proofs.YtijnlgmclaphhaaDoor
def dir_fits.f (a0 : ByteArray) : Option Bool := some (fitsB a0)
theorem dir_fits.calls (a0 : ByteArray) (r : Bool) (w : World) (h : dir_fits.f a0 = some r) :
    Calls Tryd.prog 49 #[.string a0] w fun e w' => e = .returned (.bool r) ∧ Below w.heap.size w w' := by
  cases h
  exact fits_any a0 w
end Go.Proofs.YtijnlgmclaphhaaDoorZ
