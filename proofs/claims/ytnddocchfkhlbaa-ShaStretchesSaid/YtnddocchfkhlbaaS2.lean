import Derived.Test.YtnddocchfkhlbaaS1
import Derived.Test.YtnddocchfkhlbaaR
import Derived.Test.YtnddocchfkhlbaaL
import Derived.BigRegion
namespace Go.Proofs.Ytnddocchfkhlbaa
open Go.RowKit

theorem amt_range (k : Int) : 0 ≤ amt k ∧ amt k ≤ 31 := by
  have h : (BitVec.ofInt 64 (IntKind.u64.wrap k) &&& BitVec.ofInt 64 31).toNat ≤ 31 := by
    rw [BitVec.toNat_and]
    exact Nat.le_trans Nat.and_le_right (by decide)
  have e : amt k = IntKind.u64.wrap (BitVec.ofInt 64 (IntKind.u64.wrap k) &&& BitVec.ofInt 64 31).toNat := rfl
  rw [e, IntWalk.u64_in _ (by omega)]
  omega
theorem rotk (k x : Int) (w : World) :
    Calls Try.prog 37 #[.int .u32 x, .int .i64 k] w fun e w' => e = .returned (.int .u32 (rl (amt k) x)) ∧ w' = w :=
  (rot_any x k (amt k) w rfl (amt_range k).1 (amt_range k).2).mono fun _ _ ⟨a, b⟩ => ⟨a, b.symm⟩

theorem ka_size : KA.size = 64 := by decide +kernel
theorem ka_at : ∀ k, k < 64 → KA[k]? = some (.int .u32 (KV k)) := by
  intro k hk
  have h : (List.range 64).all (fun k => match KA[k]? with | some (.int .u32 n) => n == KV k | _ => false) = true := by decide +kernel
  have := List.all_eq_true.1 h k (List.mem_range.2 hk)
  revert this
  split
  · rename_i n hn; intro h; rw [hn]; simp at h; rw [h]
  · intro h; cases h

theorem index_ka (k : Nat) (hk : k < 64) (w : World) : (Instr.index 40 (.agg KA) (.int .i64 k)).run Try.prog w = .ok (.int .u32 (KV k)) w := by
  have h := ka_at k hk
  simp [Instr.index, asIntOf, run_underlying Try.underlying40, Try.sizeOf39, part, h, hk]

theorem W_next (m : Nat → Int) (i : Nat) (h : 16 ≤ i) : W m i = wN (W m (i - 16)) (W m (i - 7)) (W m (i - 15)) (W m (i - 2)) := by
  rw [W, if_neg (by omega)]


theorem rnd_meets (m S : Nat → Int) (k i : Nat) (hi : i < 8) :
    (if i = 0 then Value.int .u32 ((stp m S k 7 + Sg1 (stp m S k 4) + ch (stp m S k 4) (stp m S k 5) (stp m S k 6) + KV k + W m k + (Sg0 (stp m S k 0) + maj (stp m S k 0) (stp m S k 1) (stp m S k 2))) % 4294967296)
      else if i = 4 then Value.int .u32 ((stp m S k 3 + (stp m S k 7 + Sg1 (stp m S k 4) + ch (stp m S k 4) (stp m S k 5) (stp m S k 6) + KV k + W m k)) % 4294967296)
      else Value.int .u32 (if i = 0 then stp m S k 0 else stp m S k (i - 1))) = Value.int .u32 (stp m S (k + 1) i) := by
  match i, hi with
  | 0, _ => rfl
  | 1, _ => rfl
  | 2, _ => rfl
  | 3, _ => rfl
  | 4, _ => rfl
  | 5, _ => rfl
  | 6, _ => rfl
  | 7, _ => rfl

theorem zeros_row (w : World) (f : Nat → Value) (hf : ∀ i, i < 64 → f i = .int .u32 0) : (w.alloc (.cells (Array.replicate 64 (.int .u32 0)) 40)).rowIs w.heap.size 40 64 f := by
  have := World.rowIs_alloc w (Array.replicate 64 (.int .u32 0)) 40 f (fun i hi => by
    have h : i < 64 := by simpa using hi
    rw [hf i h]; simp [h])
  simpa using this


set_option maxRecDepth 100000 in
set_option maxHeartbeats 1000000 in
theorem block_any (w : World) (hb : Nat) (S : Nat → Int) (f : Nat → Value) (g off cap : Nat) (m : Nat → Int) (_ : 64 ≤ cap)
    (hH : w.rowIs hb 52 10 f) (hf : ∀ j, j < 8 → f j = .int .u32 (S j))
    (hB : ∀ j, j < 64 → w.cell? ⟨g, off + j, none⟩ = some (.int .u8 (m j)))
    (hm : ∀ j, 0 ≤ m j ∧ m j ≤ 255) :
    Calls Try.prog 29 #[.pointer (some ⟨hb, 0, none⟩), .slice (some ⟨g, off, none⟩) 64 cap] w fun e w' => e = .returned (.tuple #[]) ∧ w.grownBy w' (some hb) ∧ w'.rowIs hb 52 10 (fun j => if j < 8 then .int .u32 (blk m S j) else f j) := by
  have hgl : g < w.heap.size := World.block_lt_of_cell? w _ (hB 0 (by omega))
  have hbl : hb < w.heap.size := hH.lt
  have HB := Lib.hid hB
  have HM := Lib.hid hm
  have HF := Lib.hid hf
  have HH := Lib.hid hH
  clear hB hm hf hH
  go_enter Try.func29, Try.ntmps29
  go_wp2
  go_loopw [17] (fun i wr => ∃ k : Nat, k ≤ 16 ∧ i = .int .i64 k ∧ Below w.heap.size w wr ∧ wr.rowIs w.heap.size 40 64 (fun j => .int .u32 (if j < k then w0 m j else 0))) (fun i _ => 16 - (intOf i).toNat)
  case atStart => exact ⟨0, by omega, rfl, (Below.refl _ _).alloc (Nat.le_refl _) _, zeros_row w _ (fun i hi => by simp)⟩
  case round =>
    obtain ⟨k, hk, rfl, hnx, hrow⟩ := hrel
    by_cases hlt : k < 16
    · have c0 : wr.cell? ⟨g, off + 4 * k, none⟩ = some (.int .u8 (m (4 * k))) := (hnx.cell hgl).trans (HB.out _ (by omega))
      have c1 : wr.cell? ⟨g, off + (4 * k + 1), none⟩ = some (.int .u8 (m (4 * k + 1))) := (hnx.cell hgl).trans (HB.out _ (by omega))
      have c2 : wr.cell? ⟨g, off + (4 * k + 2), none⟩ = some (.int .u8 (m (4 * k + 2))) := (hnx.cell hgl).trans (HB.out _ (by omega))
      have c3 : wr.cell? ⟨g, off + (4 * k + 3), none⟩ = some (.int .u8 (m (4 * k + 3))) := (hnx.cell hgl).trans (HB.out _ (by omega))
      have cw := hrow.cell (i := k) (by omega)
      have fw := hrow.frozen k
      have b0 := HM.out (4 * k)
      have b1 := HM.out (4 * k + 1)
      have b2 := HM.out (4 * k + 2)
      have b3 := HM.out (4 * k + 3)
      go_wp2
      refine wp_region_quiet_tail (C := fun w' => ∃ n, w' = wr.drewN n) 35 _ rfl (by kernel_rfl) (by kernel_rfl) (by kernel_rfl) ⟨1, rfl⟩ ?_
      simp only [List.take_succ_cons, List.take_zero]
      repeat (go_big_quiet_step (fail))
      refine wpQuiet_nil ?_
      rintro _ ⟨nq, rfl⟩
      go_wp2
      go_roundw
      case rel =>
        refine ⟨k + 1, by omega, by go_num, ?_, ?_⟩
        · exact (hnx.trans (Below.drewN' _ _ _)).setCell (Nat.le_refl _) _
        · refine ((hrow.drewN' nq).set k _).congr fun i _ => ?_
          by_cases h : i = k
          · subst h; simp [w0]
          · by_cases h2 : i < k
            · simp [h, h2, show i < k + 1 by omega]
            · simp [h, h2, show ¬ i < k + 1 by omega]
      case measure => simp [intOf]; omega
    · obtain rfl : k = 16 := by omega
      clear hlt hk
      obtain ⟨w1, rfl⟩ : ∃ w1 : World, w1 = wr := ⟨_, rfl⟩
      go_wp2
      go_loopw [6] (fun i wx => ∃ k : Nat, 16 ≤ k ∧ k ≤ 64 ∧ i = .int .i64 k ∧ Below w.heap.size w wx ∧ wx.rowIs w.heap.size 40 64 (fun j => .int .u32 (if j < k then W m j else 0))) (fun i _ => 64 - (intOf i).toNat)
      case atStart =>
        refine ⟨16, by omega, by omega, rfl, hnx, hrow.congr fun i _ => ?_⟩
        by_cases h : i < 16
        · simp only [h, if_true]; rw [W, if_pos h]
        · simp [h]
      case round =>
        clear hnx hrow
        obtain ⟨k, hk0, hk, rfl, hnx, hrow⟩ := hrel
        by_cases hlt : k < 64
        · have c2 := hrow.cell (i := k - 2) (by omega)
          have c15 := hrow.cell (i := k - 15) (by omega)
          have c16 := hrow.cell (i := k - 16) (by omega)
          have c7 := hrow.cell (i := k - 7) (by omega)
          have cw := hrow.cell (i := k) (by omega)
          have fw := hrow.frozen k
          rw [if_pos (by omega)] at c2 c15 c16 c7
          go_wp2
          go_quiet (fail)
          go_wp2
          refine wp_region_quiet_tail (C := fun w' => ∃ n, w' = wr.drewN n) 29 _ rfl (by kernel_rfl) (by kernel_rfl) (by kernel_rfl) ⟨nq + 1, drewN_step _ _⟩ ?_
          simp only [List.take_succ_cons, List.take_zero]
          repeat (go_big_quiet_step (exact (rotk _ _ _).mono fun _ _ h => ⟨h.1, _, h.2⟩))
          refine wpQuiet_nil ?_
          rintro _ ⟨nq, rfl⟩
          go_wp2
          go_roundw
          case rel =>
            refine ⟨k + 1, by omega, by omega, by go_num, ?_, ?_⟩
            · exact (hnx.trans (Below.drewN' _ _ _)).setCell (Nat.le_refl _) _
            · refine ((hrow.drewN' _).set k _).congr fun i _ => ?_
              by_cases h : i = k
              · subst h; rw [if_pos rfl, if_pos (by omega), W_next m i hk0]; rfl
              · by_cases h2 : i < k
                · simp [h, h2, show i < k + 1 by omega]
                · simp [h, h2, show ¬ i < k + 1 by omega]
          case measure => simp [intOf]; omega
        · obtain rfl : k = 64 := by omega
          clear hlt hk hk0
          have cs : ∀ j, j < 8 → wr.cell? ⟨hb, j, none⟩ = some (.int .u32 (S j)) := fun j hj => by
            rw [hnx.cell (p := ⟨hb, j, none⟩) hbl, HH.out.cell (by omega), HF.out j hj]
          have d0 := cs 0 (by omega)
          have d1 := cs 1 (by omega)
          have d2 := cs 2 (by omega)
          have d3 := cs 3 (by omega)
          have d4 := cs 4 (by omega)
          have d5 := cs 5 (by omega)
          have d6 := cs 6 (by omega)
          have d7 := cs 7 (by omega)
          clear cs
          obtain ⟨w2, rfl⟩ : ∃ w2 : World, w2 = wr := ⟨_, rfl⟩
          go_wp2_with (go_at_call 38; with_reducible refine (constants_any _).mono ?_; rintro e w' ⟨rfl, rfl⟩)
          have hlo : w.heap.size ≤ w2.heap.size := hnx.size
          have hne := Lib.hid (show ¬ w.heap.size = w2.heap.size from by have := hrow.lt; omega)
          go_loopw [101] (fun i wr => ∃ k : Nat, k ≤ 64 ∧ i = .int .i64 k ∧ Below w.heap.size w wr ∧ wr.rowIs w.heap.size 40 64 (fun j => .int .u32 (W m j)) ∧
             wr.rowIs w2.heap.size 49 8 (fun j => .int .u32 (stp m S k j))) (fun i _ => 64 - (intOf i).toNat)
          case atStart =>
            refine ⟨0, by omega, rfl, (hnx.alloc hlo _).alloc (by simp; omega) _, ((hrow.alloc _).alloc _).congr fun i hi => by simp [hi], (World.rowIs_alloc w2 _ 49 _ ?_).alloc _⟩
            intro i hi
            match i, hi with
            | 0, _ => rfl
            | 1, _ => rfl
            | 2, _ => rfl
            | 3, _ => rfl
            | 4, _ => rfl
            | 5, _ => rfl
            | 6, _ => rfl
            | 7, _ => rfl
          case round =>
            clear hnx hrow d0 d1 d2 d3 d4 d5 d6 d7
            obtain ⟨k, hk, rfl, hnx, hrow, hv⟩ := hrel
            by_cases hlt : k < 64
            · have ix := index_ka k hlt
              have cw := hrow.cell hlt
              generalize hst : stp m S k = V at *
              have HST := Lib.hid hst
              clear hst
              have v0 := hv.cell (i := 0) (by omega)
              have v1 := hv.cell (i := 1) (by omega)
              have v2 := hv.cell (i := 2) (by omega)
              have v3 := hv.cell (i := 3) (by omega)
              have v4 := hv.cell (i := 4) (by omega)
              have v5 := hv.cell (i := 5) (by omega)
              have v6 := hv.cell (i := 6) (by omega)
              have v7 := hv.cell (i := 7) (by omega)
              go_wp2
              go_quiet (fail)
              go_wp2
              go_quiet (exact (rotk _ _ _).mono fun _ _ h => ⟨h.1, _, h.2⟩)
              go_wp2
              go_quiet (exact (rotk _ _ _).mono fun _ _ h => ⟨h.1, _, h.2⟩)
              go_wp2
              refine wp_region_quiet_tail (C := fun w' => ∃ n, w' = wr.drewN n) 2 _ rfl (by kernel_rfl) (by kernel_rfl) (by kernel_rfl) (drewN_in _ _ _) ?_
              simp only [List.take_succ_cons, List.take_zero]
              repeat (go_big_quiet_step (fail))
              refine wpQuiet_nil ?_
              rintro _ ⟨nq, rfl⟩
              refine copy_step rfl (.tmp 161) (.tmp 162) 60 60 rfl Try.underlying60 w2.heap.size V rfl rfl (hv.drewN' _) ?_
              intro w4 hv4 hg4
              have hrow4 := row_grown (hrow.drewN' _) hg4 (fun h => hne.out (Option.some.inj h))
              have hnx4 := (hnx.trans (Below.drewN' _ _ _)).grown hg4 (hnx.trans (Below.drewN' _ _ _)).size (fun k hk => by obtain rfl := Option.some.inj hk; exact hlo)
              clear hv hrow hnx v0 v1 v2 v3 v4 v5 v6 v7 cw hg4
              have e4 := hv4.cell (i := 4) (by omega)
              have e0 := hv4.cell (i := 0) (by omega)
              have f4 := hv4.frozen 4
              have f0 := hv4.frozen 0
              rw [if_neg (by omega)] at e4
              go_wp2
              go_roundw
              case rel =>
                refine ⟨k + 1, by omega, by go_num, (hnx4.setCell hlo _).setCell hlo _, (hrow4.setOther hne.out _).setOther hne.out _, ((hv4.set 4 _).set 0 _).congr fun i hi => ?_⟩
                have hst := HST.out
                subst hst
                exact rnd_meets m S k i hi
              case measure => simp [intOf]; omega
            · obtain rfl : k = 64 := by omega
              clear hlt hk
              obtain ⟨w3, rfl⟩ : ∃ w3 : World, w3 = wr := ⟨_, rfl⟩
              have hrow3 : w3.rowIs hb 52 10 f := HH.out.of_block (hnx.block hb hbl)
              have hg3 : w.grownBy w3 (some hb) := grown_of hnx _ (Nat.le_refl _)
              clear hnx hrow
              have hne2 := Lib.hid (show ¬ hb = w2.heap.size from by omega)
              go_wp2
              go_loopw [174] (fun i wr => ∃ k : Nat, k ≤ 8 ∧ i = .int .i64 k ∧ w.grownBy wr (some hb) ∧ wr.rowIs w2.heap.size 49 8 (fun j => .int .u32 (stp m S 64 j)) ∧
                 wr.rowIs hb 52 10 (fun j => if j < k then .int .u32 (blk m S j) else f j)) (fun i _ => 8 - (intOf i).toNat)
              case atStart => exact ⟨0, by omega, rfl, hg3, hv, hrow3.congr fun i _ => by simp⟩
              case round =>
                clear hg3 hv hrow3
                obtain ⟨k, hk, rfl, hg, hv, hrow⟩ := hrel
                by_cases hlt : k < 8
                · have c0 := hrow.cell (i := k) (by omega)
                  rw [if_neg (by omega), HF.out k hlt] at c0
                  have c1 := hv.cell (i := k) (by omega)
                  have f0 := hrow.frozen k
                  generalize hst : stp m S 64 = V at *
                  have HST := Lib.hid hst
                  clear hst
                  go_wp2
                  refine wp_region_quiet_tail (C := fun w' => ∃ n, w' = wr.drewN n) 11 _ rfl (by kernel_rfl) (by kernel_rfl) (by kernel_rfl) ⟨1, rfl⟩ ?_
                  simp only [List.take_succ_cons, List.take_zero]
                  repeat (go_big_quiet_step (fail))
                  refine wpQuiet_nil ?_
                  rintro _ ⟨nq, rfl⟩
                  go_wp2
                  go_roundw
                  case rel =>
                    refine ⟨k + 1, by omega, by go_num, ?_, (hv.drewN' _).setOther (Ne.symm hne2.out) _, ((hrow.drewN' _).set k _).congr fun i hi => ?_⟩
                    · exact grown_trans (grown_trans hg (grown_drewN _ _ _)) (grown_setCell _ _ _ _)
                    · by_cases h : i = k
                      · subst h; rw [if_pos rfl, if_pos (by omega)]; unfold blk; rw [HST.out]
                      · by_cases h2 : i < k
                        · simp [h, h2, show i < k + 1 by omega]
                        · simp [h, h2, show ¬ i < k + 1 by omega]
                  case measure => simp [intOf]; omega
                · obtain rfl : k = 8 := by omega
                  go_wp2
                  go_end0
                  exact ⟨rfl, hg, hrow⟩
end Go.Proofs.Ytnddocchfkhlbaa
