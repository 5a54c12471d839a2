import Derived.Test.YtnddocchfkhlbaaH3
namespace Go.Proofs.Ytnddocchfkhlbaa
open Go.RowKit

set_option maxRecDepth 100000 in
set_option maxHeartbeats 8000000 in
theorem hsum_any (w : World) (B p : Nat) (S : Nat → Int) (r : List UInt8) (n : Nat) (hH : HashAt w B p S r n) (h1 : r.length ≤ 64) (h2 : n ≤ 70368744177664) (hS : okS S) :
    Calls Try.prog 14 #[.pointer (some ⟨p, 0, none⟩)] w fun e w' => e = .returned (.string (bstr (digestL (fullS S (r ++ pad n)) 8))) ∧ Below w.heap.size w w' := by
  obtain ⟨z, hz⟩ : ∃ z : Nat, (119 - n % 64) % 64 = z := ⟨_, rfl⟩
  have hz64 : z < 64 := by omega
  obtain ⟨a1, ha1⟩ : ∃ a : Int, (n : Int).tmod 64 = a := ⟨_, rfl⟩
  have hb1 : a1 = n % 64 := by rw [← ha1, Int.tmod_eq_emod_of_nonneg (by omega)]
  obtain ⟨a2, ha2⟩ : ∃ a : Int, IntKind.i64.wrap (119 - a1) = a := ⟨_, rfl⟩
  have hb2 : a2 = 119 - a1 := by rw [← ha2]; exact IntWalk.i64_in _ (by omega)
  have ha3 : a2.tmod 64 = (z : Int) := by rw [Int.tmod_eq_emod_of_nonneg (by omega)]; omega
  have ha4 : IntKind.u64.wrap (n : Int) = n := IntWalk.u64_in _ (by omega)
  obtain ⟨X, hX⟩ : ∃ X : Int, IntKind.u64.wrap ((n : Int) * 8) = X := ⟨_, rfl⟩
  have hX8 := Lib.hid (show X = ((n * 8 : Nat) : Int) by rw [← hX, IntWalk.u64_in _ (by omega)]; omega)
  have HZ := Lib.hid hz
  clear hb1 hb2 hz
  have hmk := fun W => run_make_row' (P := Try.prog) 42 5 (.int .u8 0) 1 Try.underlying42 info5 rfl .i64 .i64 z (by omega) (by omega) W
  go_enter Try.func14, Try.ntmps14
  go_wp2_with fail
  refine (copy_any w B p S r n hH (by omega)).mono ?_
  rintro e w2 ⟨q, rfl, hq, hb2⟩
  have c9 := (hH.below hb2).cell9
  go_wp2_with fail
  have hcv := fun (W : World) (g : Nat) (h : ZR W g z) => zr_string h
  have hmd := fun W => zr_made W z
  have hps := Lib.hid (pad_size z (n * 8))
  have hbs := bstr_size
  have hpl : p < w2.heap.size := World.block_lt_of_cell? w2 _ c9
  have hc9 : ∀ o, (w2.alloc o).cell? ⟨p, 9, none⟩ = some (.int .i64 n) := fun o => (World.cell?_of_block (Below.heap_alloc _ _ _ hpl)).trans c9
  have hhl := hiB_length
  have hdr := fun W g => zr_drew W g z
  go_cut [] from 11 to 30 (fun wc => HashAt wc w.heap.size q (fullS S (r ++ pad n)) (restS (r ++ pad n)) (n + (pad n).length) ∧ Below w.heap.size w wc)
  case first =>
   go_region_with (first
    | (go_at_call 30; refine (high_int X (n * 8) 8 hX8.out _ (by omega) (by omega) 8 rfl).mono ?_; rintro e w' ⟨rfl, hb'⟩; have hbW : Below w2.heap.size w2 w' := below_through (by first | exact (Below.refl _ _).drew | exact ((Below.refl _ _).alloc (Nat.le_refl _) _).drew) hb'; have k9 : w'.cell? ⟨p, 9, none⟩ = some (.int .i64 n) := (hbW.cell (p := ⟨p, 9, none⟩) hpl).trans c9; have kz := fun g (h : ZR _ g z) => zr_below h hb'; have kq : HashAt w' w.heap.size q S r n := HashAt.below hq hbW; have kb : Below w.heap.size w w' := below_through hb2 hbW)
    | (go_at_call 13; refine (add_any _ w.heap.size q S r n _ (by first | exact kq | exact kq.below ((Below.refl _ _).alloc (Nat.le_refl _) _).drew | exact kq.below ((Below.refl _ _).alloc (Nat.le_refl _) _)) (by rw [hps.out]; omega) (by rw [hps.out]; omega)).mono ?_; rintro e w3 ⟨rfl, hq3, hb3⟩; have kb3 : Below w.heap.size w w3 := by first | exact kb.trans hb3 | exact (kb.alloc kb.size _).drew.trans hb3 | exact (kb.alloc kb.size _).trans hb3))
   all_goals (go_wp2_with fail; go_meet; case rel => exact pad_meets HZ.out hq3 kb3)
  case rest =>
    obtain ⟨hq3, hb3⟩ := hcut
    generalize hT : fullS S (r ++ pad n) = T at *
    have HT := Lib.hid hT
    clear hT
    have hok : ∀ j, j < 8 → 0 ≤ T j ∧ T j ≤ 4294967295 := by rw [← HT.out]; exact okS_full hS _
    have cs := fun j hj => hq3.cellS (j := j) hj
    have d0 := cs 0 (by omega)
    have d1 := cs 1 (by omega)
    have d2 := cs 2 (by omega)
    have d3 := cs 3 (by omega)
    have d4 := cs 4 (by omega)
    have d5 := cs 5 (by omega)
    have d6 := cs 6 (by omega)
    have d7 := cs 7 (by omega)
    have HOK := Lib.hid hok
    clear cs hok ha1 ha2 ha3 ha4 hX hmk hz64
    go_wp2
    go_loopw [4, 35] (fun v i wr => ∃ k : Nat, k ≤ 8 ∧ i = .int .i64 k ∧ v = .string (bstr (digestL T k)) ∧ Below w.heap.size w wr) (fun _ i _ => 8 - (intOf i).toNat)
    case atStart => exact ⟨0, by omega, rfl, rfl, hb3⟩
    case round =>
      clear d0 d1 d2 d3 d4 d5 d6 d7 hb3
      obtain ⟨k, hk, rfl, rfl, hbel⟩ := hrel
      by_cases hlt : k < 8
      · have ix := fun W => index_s8 T k hlt W
        have ⟨o0, o1⟩ := HOK.out k hlt
        generalize hg : T k = x at *
        have HG := Lib.hid hg
        clear hg
        have hbs := bstr_size
        have hhl := hiB_length
        have hdl := Lib.hid (digestL_length T k)
        have hdl8 : (digestL T k).length ≤ 32 := by rw [hdl.out]; omega
        go_wp2_with fail
        refine (high_int x x.toNat 4 (by omega) _ (by omega) (by omega) 4 rfl).mono ?_
        rintro e w4 ⟨rfl, hb4⟩
        have hb5 := below_through hbel hb4
        clear ix o0 o1 hb4 hbel
        go_wp2
        go_roundw
        case rel => exact ⟨k + 1, by omega, by go_num, by rw [digestL_succ HG.out], hb5⟩
        case measure => simp [intOf]; omega
      · obtain rfl : k = 8 := by omega
        go_wp2
        go_ret
        exact ⟨by rw [HT.out]; rfl, hbel⟩
end Go.Proofs.Ytnddocchfkhlbaa
