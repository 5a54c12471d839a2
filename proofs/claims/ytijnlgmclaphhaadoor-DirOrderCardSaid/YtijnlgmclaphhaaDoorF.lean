import Derived.Test.YtijnlgmclaphhaaDoorSh
import Derived.WalkKit
import Derived.WalkSpells
import Derived.WalkLawsBesides
import Derived.Lib.Hide
import Derived.Laws.Entries
import Derived.Laws.Runes
import Derived.WalkMore
import Derived.Laws.RangeAny
import Derived.Lib.DecodeN
import Derived.Lib.TrimU
import Derived.Deep.LoopGhost
import Derived.Deep.QuietTactic
import Derived.BigQuiet
import Derived.Below
/-! strings.ContainsAny at the two bytes that a name has not: whatever bytes the text has. -/
namespace Go.Proofs.YtijnlgmclaphhaaDoor
open Go.RowKit

def sl0 : ByteArray := ⟨#[47, 0]⟩
theorem sl0_size : sl0.size = 2 := rfl
theorem iter_below (w : World) (s : ByteArray) (pos : Nat) : Below w.heap.size w (w.iter s pos) := (Below.refl _ _).alloc (Nat.le_refl _) _
theorem enc_cases (r : Int) (hv : Utf8.valid r = true) (h : 128 ≤ r) : (∃ y x : UInt8, Utf8.encode r = ⟨#[y, x]⟩ ∧ 128 ≤ x.toNat) ∨ (∃ z y x : UInt8, Utf8.encode r = ⟨#[z, y, x]⟩) ∨ (∃ u z y x : UInt8, Utf8.encode r = ⟨#[u, z, y, x]⟩) := by
  have hc : ¬ r.toNat < 128 := by omega
  unfold Utf8.encode
  simp only [hv, if_true, hc, if_false]
  split
  · exact .inl ⟨_, _, rfl, by simp; omega⟩
  · split
    · exact .inr (.inl ⟨_, _, _, rfl⟩)
    · exact .inr (.inr ⟨_, _, _, _, rfl⟩)

set_option maxRecDepth 100000 in
theorem rune_bad (w : World) : Calls Tryd.prog 79 #[.string ⟨#[47, 0]⟩, .int .i32 65533] w fun e w' => e = .returned (.int .i64 (-1)) ∧ Below w.heap.size w w' := by
  have d0 : ∀ ty, (Instr.next (.pointer (some ⟨w.heap.size, 0, none⟩)) true ty).run Tryd.prog (w.iter ⟨#[47, 0]⟩ 0) = .ok (.tuple #[.bool true, .int .i64 0, .int .i32 47]) (w.iter ⟨#[47, 0]⟩ 1) := fun ty => run_next_ascii (P := Tryd.prog) w ⟨#[47, 0]⟩ 0 ty (by decide) (by decide)
  have d1 : ∀ ty, (Instr.next (.pointer (some ⟨w.heap.size, 0, none⟩)) true ty).run Tryd.prog (w.iter ⟨#[47, 0]⟩ 1) = .ok (.tuple #[.bool true, .int .i64 1, .int .i32 0]) (w.iter ⟨#[47, 0]⟩ 2) := fun ty => run_next_ascii (P := Tryd.prog) w ⟨#[47, 0]⟩ 1 ty (by decide) (by decide)
  have d2 : ∀ ty, (Instr.next (.pointer (some ⟨w.heap.size, 0, none⟩)) true ty).run Tryd.prog (w.iter ⟨#[47, 0]⟩ 2) = .ok (.tuple #[.bool false]) (w.iter ⟨#[47, 0]⟩ 2) := fun ty => run_next_end (P := Tryd.prog) w ⟨#[47, 0]⟩ 2 ty (by decide)
  go_enter Tryd.func79, Tryd.ntmps79
  go_wp2
  go_loopg [5, 6] 2 (fun g _ _ wx => ∃ i : Nat, i + g = 2 ∧ wx = w.iter ⟨#[47, 0]⟩ i)
  case atStart => exact ⟨0, by omega, rfl⟩
  case round =>
    obtain ⟨i, hig, rfl⟩ := hrel
    cases gk with
    | zero =>
      obtain rfl : i = 2 := by omega
      go_wp2
      go_ret
      exact ⟨rfl, iter_below _ _ _⟩
    | succ g =>
      rcases (show i = 0 ∨ i = 1 by omega) with rfl | rfl
      all_goals
        go_wp2
        go_roundg g
        case measure => omega
        case rel => exact ⟨_, by omega, rfl⟩
set_option maxHeartbeats 2000000 in
set_option maxRecDepth 100000 in
theorem rune_high (r : Int) (w : World) (h : 128 ≤ r) (h2 : r ≤ 1114111) : Calls Tryd.prog 79 #[.string ⟨#[47, 0]⟩, .int .i32 r] w fun e w' => e = .returned (.int .i64 (-1)) ∧ Below w.heap.size w w' := by
  by_cases hr : r = 65533
  · subst hr; exact rune_bad w
  · have hne : (r == 65533) = false := by simpa using hr
    have hr0 : 0 ≤ r := by omega
    have hlt : ¬ r < 128 := by omega
    cases hv : Lib.validRune r
    · go_enter Tryd.func79, Tryd.ntmps79
      go_wp2_with (go_at_call 86; refine (Tryd.utf8_ValidRune _ _).mono ?_; rintro e w' ⟨rfl, hw⟩; rw [hw, hv])
      go_ret
      exact ⟨rfl, Below.refl _ _⟩
    · have hv' : Utf8.valid r = true := by
        unfold Lib.validRune at hv
        unfold Utf8.valid
        simp at hv ⊢
        omega
      rcases enc_cases r hv' h with ⟨y, x, he, hx⟩ | ⟨z, y, x, he⟩ | ⟨u, z, y, x, he⟩
      · have hne2 : ((0 : Int) != (x.toNat : Int)) = true := by rw [bne_iff_ne]; omega
        have hw2 := Lib.hid (show IntKind.i64.wrap 2 = 2 by decide)
        have HBB := Lib.hid (show (((({ data := #[47, 0] } : ByteArray)[1]'(by decide)).toNat : Int) != ((({ data := #[y, x] } : ByteArray)[1]'(by show 1 < 2; omega)).toNat : Int)) = true from hne2)
        clear hv'
        go_enter Tryd.func79, Tryd.ntmps79
        go_wp2_with (go_at_call 86; refine (Tryd.utf8_ValidRune _ _).mono ?_; rintro e w' ⟨rfl, hw⟩; rw [hw, hv])
        go_step3
        go_wp2
        go_loop [9, 10] (fun v9 v10 => v9 = .int .i64 1 ∧ v10 = .int .i64 0) (fun _ _ => 0)
        case atStart => exact ⟨rfl, rfl⟩
        case round =>
          obtain ⟨rfl, rfl⟩ := hrel
          go_wp2
          go_step3
          go_wp2
          go_quiet (fail)
          have hbb := HBB.out
          go_wp2
          obtain ⟨W, hW⟩ : ∃ W : World, W = w.drewN nq := ⟨_, rfl⟩
          rw [← hW]
          have hb : Below w.heap.size w W := by subst hW; exact ⟨rfl, rfl, rfl, Nat.le_refl _, fun _ _ => rfl⟩
          clear hW hbb
          have hw3 := hw2.out
          go_quiet ((go_at_call 46; exact Calls.quiet_of_same (Tryd.strings_IndexByte _ _ _)))
          go_wp2
          rw [Exit.noGoto_ret]
          go_wp2
          rw [Exit.noGoto_ret]
          go_wp2
          go_ret
          exact ⟨rfl, ⟨hb.os, hb.tape, hb.output, hb.size, hb.block⟩⟩
      · clear hv'
        go_enter Tryd.func79, Tryd.ntmps79
        go_wp2_with (go_at_call 86; refine (Tryd.utf8_ValidRune _ _).mono ?_; rintro e w' ⟨rfl, hw⟩; rw [hw, hv])
        go_step3
        go_wp2
        go_loop [9, 10] (fun v9 v10 => v9 = .int .i64 2 ∧ v10 = .int .i64 0) (fun _ _ => 0)
        case atStart => exact ⟨rfl, rfl⟩
        case round =>
          obtain ⟨rfl, rfl⟩ := hrel
          go_wp2
          go_ret
          exact ⟨rfl, Below.refl _ _⟩
      · clear hv'
        go_enter Tryd.func79, Tryd.ntmps79
        go_wp2_with (go_at_call 86; refine (Tryd.utf8_ValidRune _ _).mono ?_; rintro e w' ⟨rfl, hw⟩; rw [hw, hv])
        go_step3
        go_wp2
        go_loop [9, 10] (fun v9 v10 => v9 = .int .i64 3 ∧ v10 = .int .i64 0) (fun _ _ => 0)
        case atStart => exact ⟨rfl, rfl⟩
        case round =>
          obtain ⟨rfl, rfl⟩ := hrel
          go_wp2
          go_ret
          exact ⟨rfl, Below.refl _ _⟩
end Go.Proofs.YtijnlgmclaphhaaDoor
