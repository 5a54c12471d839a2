import Derived.Test.YtnddocchfkhlbaaS2
import Derived.Laws.MakeOwn
namespace Go.Proofs.Ytnddocchfkhlbaa
open Go.RowKit

/-! The reference's block. -/
def tr (n : Int) (x : Int) : Int := bits .or .u32 (x / 2 ^ n.toNat) (x * 2 ^ (32 - n).toNat % 4294967296)
set_option maxRecDepth 100000 in
theorem turn_any (x n : Int) (w : World) (hn : 0 ≤ n ∧ n ≤ 32) :
    Calls Try.prog 36 #[.int .u32 x, .int .u64 n] w fun e w' => e = .returned (.int .u32 (tr n x)) ∧ w' = w := by
  go_enter Try.func36, Try.ntmps36
  go_wp2
  go_ret
  exact ⟨by simp [tr], rfl⟩
def arr8 (S : Nat → Int) : Array Value := #[.int .u32 (S 0), .int .u32 (S 1), .int .u32 (S 2), .int .u32 (S 3), .int .u32 (S 4), .int .u32 (S 5), .int .u32 (S 6), .int .u32 (S 7)]

theorem mk64 (w : World) : (Instr.makeSlice 60 (.int .i64 64) (.int .i64 64)).run Try.prog w = .ok (.slice (some ⟨w.heap.size, 0, none⟩) 64 64) (w.alloc (.cells (Array.replicate 64 (.int .u32 0)) 39)) := by
  have h : (Try.prog.info? 39).map (fun i => (i.zero, i.size, i.bytes)) = some (some (.int .u32 0), 1, 4) := by kernel_rfl
  obtain ⟨i, hi, he⟩ := Option.map_eq_some_iff.1 h
  simp only [Prod.mk.injEq] at he
  have := run_makeSlice (P := Try.prog) w 60 39 i (.int .u32 0) Try.underlying60 hi he.1 .i64 .i64 64 64 (by omega) (by omega) (by rw [he.2.1]; decide) (by rw [he.2.2]; decide) (by omega)
  have e : madeCells (Value.int .u32 0).cells (Int.toNat 64 * 1) = Array.replicate 64 (.int .u32 0) := by kernel_rfl
  rw [this, he.2.1, e]
  rfl
theorem bits_or_comm (a b : Int) : bits .or .u32 a b = bits .or .u32 b a := by
  simp only [bits]
  rw [BitVec.or_comm]
theorem tr_rl (n k : Int) (h : amt k = 32 - n) (hn : 0 ≤ n ∧ n ≤ 32) (x : Int) : tr n x = rl (amt k) x := by
  unfold tr rl
  rw [h, bits_or_comm, show (32 - (32 - n)).toNat = n.toNat by omega]
theorem rsg0_eq (x : Int) : bits .xor .u32 (bits .xor .u32 (tr 7 x) (tr 18 x)) (x / 8) = sg0 x := by
  rw [sg0, tr_rl 7 (-7) (by decide +kernel) (by omega), tr_rl 18 (-18) (by decide +kernel) (by omega)]
theorem rsg1_eq (x : Int) : bits .xor .u32 (bits .xor .u32 (tr 17 x) (tr 19 x)) (x / 1024) = sg1 x := by
  rw [sg1, tr_rl 17 (-17) (by decide +kernel) (by omega), tr_rl 19 (-19) (by decide +kernel) (by omega)]
theorem wN_meets (a b x y : Int) : ((bits .xor .u32 (bits .xor .u32 (tr 17 y) (tr 19 y)) (y / 1024)) + b + (bits .xor .u32 (bits .xor .u32 (tr 7 x) (tr 18 x)) (x / 8)) + a) % 4294967296 = wN a b x y := by
  rw [rsg0_eq, rsg1_eq, wN]
  congr 1
  omega
theorem Sg1_eq (e : Int) : bits .xor .u32 (bits .xor .u32 (tr 6 e) (tr 11 e)) (tr 25 e) = Sg1 e := by
  rw [Sg1, tr_rl 6 (-6) (by decide +kernel) (by omega), tr_rl 11 (-11) (by decide +kernel) (by omega), tr_rl 25 (-25) (by decide +kernel) (by omega)]
theorem Sg0_eq (e : Int) : bits .xor .u32 (bits .xor .u32 (tr 2 e) (tr 13 e)) (tr 22 e) = Sg0 e := by
  rw [Sg0, tr_rl 2 (-2) (by decide +kernel) (by omega), tr_rl 13 (-13) (by decide +kernel) (by omega), tr_rl 22 (-22) (by decide +kernel) (by omega)]
theorem ofInt_bits (v : BitVec 32) : BitVec.ofInt 32 (IntKind.u32.wrap (v.toNat : Int)) = v := by
  have h : (v.toNat : Int) < 4294967296 := by have := v.isLt; omega
  have : IntKind.u32.wrap (v.toNat : Int) = (v.toNat : Int) := by
    unfold IntKind.wrap
    simp [IntKind.bits, IntKind.signed]
    omega
  rw [this]
  simp
theorem ch_eq (e f g : Int) : bits .or .u32 (bits .and .u32 e f) (bits .and .u32 (bits .xor .u32 IntKind.u32.max e) g) = ch e f g := by
  unfold ch
  have hmx : BitVec.ofInt 32 IntKind.u32.max = BitVec.allOnes 32 := by decide
  have key : ∀ E F G : BitVec 32, (E &&& F) ||| ((BitVec.allOnes 32 ^^^ E) &&& G) = (E &&& F) ^^^ ((BitVec.allOnes 32 ^^^ E) &&& G) := by
    intro E F G
    apply BitVec.eq_of_getLsbD_eq
    intro i hi
    simp only [BitVec.getLsbD_or, BitVec.getLsbD_and, BitVec.getLsbD_xor, BitVec.getLsbD_allOnes, hi, decide_true]
    cases E.getLsbD i <;> cases F.getLsbD i <;> cases G.getLsbD i <;> rfl
  have hx : bits .xor .u32 IntKind.u32.max e = IntKind.u32.wrap ((BitVec.allOnes 32 ^^^ BitVec.ofInt 32 e).toNat : Int) := by
    show IntKind.u32.wrap ((BitVec.ofInt 32 IntKind.u32.max ^^^ BitVec.ofInt 32 e).toNat : Int) = _
    rw [hmx]
  have ha : ∀ a b : Int, bits .and .u32 a b = IntKind.u32.wrap ((BitVec.ofInt 32 a &&& BitVec.ofInt 32 b).toNat : Int) := fun _ _ => rfl
  have ho : ∀ a b : Int, bits .or .u32 a b = IntKind.u32.wrap ((BitVec.ofInt 32 a ||| BitVec.ofInt 32 b).toNat : Int) := fun _ _ => rfl
  have hxx : ∀ a b : Int, bits .xor .u32 a b = IntKind.u32.wrap ((BitVec.ofInt 32 a ^^^ BitVec.ofInt 32 b).toNat : Int) := fun _ _ => rfl
  rw [hx, ho, ha, ha, hxx, ofInt_bits, ofInt_bits, ofInt_bits, key]
theorem maj_eq (a b c : Int) : bits .or .u32 (bits .or .u32 (bits .and .u32 a b) (bits .and .u32 a c)) (bits .and .u32 b c) = maj a b c := by
  unfold maj
  have key : ∀ E F G : BitVec 32, ((E &&& F) ||| (E &&& G)) ||| (F &&& G) = ((E &&& F) ^^^ (E &&& G)) ^^^ (F &&& G) := by
    intro E F G
    apply BitVec.eq_of_getLsbD_eq
    intro i hi
    simp only [BitVec.getLsbD_or, BitVec.getLsbD_and, BitVec.getLsbD_xor]
    cases E.getLsbD i <;> cases F.getLsbD i <;> cases G.getLsbD i <;> rfl
  have ha : ∀ a b : Int, bits .and .u32 a b = IntKind.u32.wrap ((BitVec.ofInt 32 a &&& BitVec.ofInt 32 b).toNat : Int) := fun _ _ => rfl
  have ho : ∀ a b : Int, bits .or .u32 a b = IntKind.u32.wrap ((BitVec.ofInt 32 a ||| BitVec.ofInt 32 b).toNat : Int) := fun _ _ => rfl
  have hxx : ∀ a b : Int, bits .xor .u32 a b = IntKind.u32.wrap ((BitVec.ofInt 32 a ^^^ BitVec.ofInt 32 b).toNat : Int) := fun _ _ => rfl
  rw [ho, ho, ha, ha, ha, hxx, hxx, ofInt_bits, ofInt_bits, ofInt_bits, ofInt_bits, ofInt_bits, key]
theorem a_meets (m S : Nat → Int) (k : Nat) :
    ((stp m S k 7 + bits .xor .u32 (bits .xor .u32 (tr 6 (stp m S k 4)) (tr 11 (stp m S k 4))) (tr 25 (stp m S k 4)) + bits .or .u32 (bits .and .u32 (stp m S k 4) (stp m S k 5)) (bits .and .u32 (bits .xor .u32 IntKind.u32.max (stp m S k 4)) (stp m S k 6)) + KV k + W m k) % 4294967296 +
      (bits .xor .u32 (bits .xor .u32 (tr 2 (stp m S k 0)) (tr 13 (stp m S k 0))) (tr 22 (stp m S k 0)) + bits .or .u32 (bits .or .u32 (bits .and .u32 (stp m S k 0) (stp m S k 1)) (bits .and .u32 (stp m S k 0) (stp m S k 2))) (bits .and .u32 (stp m S k 1) (stp m S k 2))) % 4294967296) % 4294967296 = stp m S (k + 1) 0 := by
  rw [Sg1_eq, ch_eq, Sg0_eq, maj_eq]
  show _ = (tt (KV k) (W m k) (stp m S k) + uu (stp m S k)) % 4294967296
  unfold tt uu
  omega
theorem e_meets (m S : Nat → Int) (k : Nat) :
    (stp m S k 3 + (stp m S k 7 + bits .xor .u32 (bits .xor .u32 (tr 6 (stp m S k 4)) (tr 11 (stp m S k 4))) (tr 25 (stp m S k 4)) + bits .or .u32 (bits .and .u32 (stp m S k 4) (stp m S k 5)) (bits .and .u32 (bits .xor .u32 IntKind.u32.max (stp m S k 4)) (stp m S k 6)) + KV k + W m k) % 4294967296) % 4294967296 = stp m S (k + 1) 4 := by
  rw [Sg1_eq, ch_eq]
  show _ = (stp m S k 3 + tt (KV k) (W m k) (stp m S k)) % 4294967296
  unfold tt
  omega
/-- A whole array into a row. -/
theorem store_row {ops : Array Oper} {Q : Exit → Act → World → Prop} {o : Oper} {rest : List Oper} {a : Act} {w : World} (hgd : o.guard = none) {t : TypeId} (x y : Operand) (ho : o.op = .store t x y)
    (g : Nat) (hx : a.eval x = .pointer (some ⟨g, 0, none⟩)) (c : Array Value) (hy : a.eval y = .agg c) {n : Nat} {z : Nat → Value} (hz : w.rowIs g t n z) (hi : (Try.prog.info? t).map (·.size) = some n) (hn : c.size = n) (h1 : c.all (·.oneCell') = true)
    (h : ∀ w', w'.heap[g]? = some (.cells c t (0, 0)) → w.grownBy w' (some g) → wpList Try.prog ops Q rest (a.put o.dst undef) w') : wpList Try.prog ops Q (o :: rest) a w := by
  obtain ⟨old, hb, hs, _⟩ := hz
  exact wpList_plain hgd fun K hK => wp_store_row t x y ho g c hx hy t old hb (by rw [hi, hn]) (by rw [hs, hn]) h1 (hK _ _ (h _ (setRow_heap w g old c t (0, 0) hb) (grown_setRow _ _ _)))
/-- The world of the reference's block: its two arrays, its result, its words. -/
structure Fr (w wr : World) (S f : Nat → Int) : Prop where
  below : Below w.heap.size w wr
  h : wr.rowIs w.heap.size 45 8 (fun j => .int .u32 (S j))
  k : wr.rowIs (w.heap.size + 1) 40 64 (fun j => .int .u32 (KV j))
  o : ∃ z, wr.rowIs (w.heap.size + 1 + 1) 45 8 z
  r : wr.rowIs (w.heap.size + 1 + 1 + 1) 39 64 (fun j => .int .u32 (f j))
theorem Fr.drewN {w wr : World} {S f : Nat → Int} (h : Fr w wr S f) (n : Nat) : Fr w (wr.drewN n) S f :=
  ⟨h.below.trans (Below.drewN' _ _ _), h.h.drewN' n, h.k.drewN' n, h.o.elim fun z hz => ⟨z, hz.drewN' n⟩, h.r.drewN' n⟩
theorem Fr.set {w wr : World} {S f : Nat → Int} (h : Fr w wr S f) (i : Nat) (v : Int) : Fr w (wr.setCell ⟨w.heap.size + 1 + 1 + 1, i, none⟩ (.int .u32 v)) S (fun j => if j = i then v else f j) :=
  ⟨h.below.setCell (show w.heap.size ≤ w.heap.size + 1 + 1 + 1 by omega) _, h.h.setOther (show w.heap.size ≠ w.heap.size + 1 + 1 + 1 by omega) _, h.k.setOther (show w.heap.size + 1 ≠ w.heap.size + 1 + 1 + 1 by omega) _, h.o.elim fun z hz => ⟨z, hz.setOther (show w.heap.size + 1 + 1 ≠ w.heap.size + 1 + 1 + 1 by omega) _⟩, (h.r.set i _).congr fun j _ => by split <;> rfl⟩
theorem Fr.congr {w wr : World} {S f g : Nat → Int} (h : Fr w wr S f) (e : ∀ j, j < 64 → f j = g j) : Fr w wr S g :=
  ⟨h.below, h.h, h.k, h.o, h.r.congr fun j hj => by rw [e j hj]⟩
theorem Fr.start (w : World) (S : Nat → Int) (z : Array Value) (hz : z.size = 8) : Fr w ((((w.alloc (.cells (arr8 S) 45)).alloc (.cells KA 40)).alloc (.cells z 45)).alloc (.cells (Array.replicate 64 (.int .u32 0)) 39)) S (fun _ => 0) := by
  have a1 := World.rowIs_alloc w (arr8 S) 45 (fun j => .int .u32 (S j)) (fun i hi => by
    have : i < 8 := hi
    match i, this with
    | 0, _ => rfl
    | 1, _ => rfl
    | 2, _ => rfl
    | 3, _ => rfl
    | 4, _ => rfl
    | 5, _ => rfl
    | 6, _ => rfl
    | 7, _ => rfl)
  have a2 := World.rowIs_alloc (w.alloc (.cells (arr8 S) 45)) KA 40 (fun j => .int .u32 (KV j)) (fun i hi => ka_at i (by rw [ka_size] at hi; exact hi))
  have a3 := World.rowIs_alloc ((w.alloc (.cells (arr8 S) 45)).alloc (.cells KA 40)) z 45 (fun j => z.getD j (.bool false)) (fun i hi => by simp [hi])
  have a4 := World.rowIs_alloc (((w.alloc (.cells (arr8 S) 45)).alloc (.cells KA 40)).alloc (.cells z 45)) (Array.replicate 64 (.int .u32 0)) 39 (fun _ => .int .u32 0) (fun i hi => by
    have h : i < 64 := by simpa using hi
    simp [h])
  have e1 : (w.alloc (.cells (arr8 S) 45)).heap.size = w.heap.size + 1 := by simp
  have e2 : ((w.alloc (.cells (arr8 S) 45)).alloc (.cells KA 40)).heap.size = w.heap.size + 1 + 1 := by simp
  have e3 : (((w.alloc (.cells (arr8 S) 45)).alloc (.cells KA 40)).alloc (.cells z 45)).heap.size = w.heap.size + 1 + 1 + 1 := by simp
  rw [e1, ka_size] at a2
  rw [e2, hz] at a3
  rw [e3] at a4
  refine ⟨(((((Below.refl _ w).alloc (Nat.le_refl _) _).alloc (by simp) _).alloc (by simp; omega) _).alloc (by simp; omega) _), ((a1.alloc _).alloc _).alloc _, (a2.alloc _).alloc _, ⟨_, a3.alloc _⟩, ?_⟩
  simpa using a4
set_option maxRecDepth 100000 in
set_option maxHeartbeats 1000000 in
theorem rblock_any (w : World) (S : Nat → Int) (g off cap : Nat) (m : Nat → Int) (_ : 64 ≤ cap)
    (hB : ∀ j, j < 64 → w.cell? ⟨g, off + j, none⟩ = some (.int .u8 (m j)))
    (hm : ∀ j, 0 ≤ m j ∧ m j ≤ 255) :
    Calls Try.prog 27 #[.agg (arr8 S), .slice (some ⟨g, off, none⟩) 64 cap, .agg KA] w fun e w' => e = .returned (.agg (arr8 (blk m S))) ∧ Below w.heap.size w w' := by
  have hgl : g < w.heap.size := World.block_lt_of_cell? w _ (hB 0 (by omega))
  have HB := Lib.hid hB
  have HM := Lib.hid hm
  clear hB hm
  have hmk := mk64
  go_enter Try.func27, Try.ntmps27
  go_wp2
  clear hmk
  go_loopw [8] (fun i wr => ∃ k : Nat, k ≤ 16 ∧ i = .int .i64 k ∧ Fr w wr S (fun j => if j < k then w0 m j else 0)) (fun i _ => 16 - (intOf i).toNat)
  case atStart => exact ⟨0, by omega, rfl, (Fr.start w S _ rfl).congr fun j _ => by simp⟩
  case round =>
    obtain ⟨k, hk, rfl, hF⟩ := hrel
    by_cases hlt : k < 16
    · have c0 : wr.cell? ⟨g, off + 4 * k, none⟩ = some (.int .u8 (m (4 * k))) := (hF.below.cell hgl).trans (HB.out _ (by omega))
      have c1 : wr.cell? ⟨g, off + (4 * k + 1), none⟩ = some (.int .u8 (m (4 * k + 1))) := (hF.below.cell hgl).trans (HB.out _ (by omega))
      have c2 : wr.cell? ⟨g, off + (4 * k + 2), none⟩ = some (.int .u8 (m (4 * k + 2))) := (hF.below.cell hgl).trans (HB.out _ (by omega))
      have c3 : wr.cell? ⟨g, off + (4 * k + 3), none⟩ = some (.int .u8 (m (4 * k + 3))) := (hF.below.cell hgl).trans (HB.out _ (by omega))
      have cw := hF.r.cell (i := k) (by omega)
      have fw := hF.r.frozen k
      have b0 := HM.out (4 * k)
      have b1 := HM.out (4 * k + 1)
      have b2 := HM.out (4 * k + 2)
      have b3 := HM.out (4 * k + 3)
      go_wp2
      refine wp_region_quiet_tail (C := fun w' => ∃ n, w' = wr.drewN n) 36 _ rfl (by kernel_rfl) (by kernel_rfl) (by kernel_rfl) ⟨1, rfl⟩ ?_
      simp only [List.take_succ_cons, List.take_zero]
      repeat (go_big_quiet_step (fail))
      refine wpQuiet_nil ?_
      rintro _ ⟨nq, rfl⟩
      go_wp2
      go_roundw
      case rel =>
        refine ⟨k + 1, by omega, by go_num, ?_⟩
        refine ((hF.drewN nq).set k _).congr fun i _ => ?_
        by_cases h : i = k
        · subst h; simp [w0]
        · by_cases h2 : i < k
          · simp [h, h2, show i < k + 1 by omega]
          · simp [h, h2, show ¬ i < k + 1 by omega]
      case measure => simp [intOf]; omega
    · obtain rfl : k = 16 := by omega
      clear hlt hk
      go_wp2
      go_loopw [9] (fun i wr => ∃ k : Nat, 16 ≤ k ∧ k ≤ 64 ∧ i = .int .i64 k ∧ Fr w wr S (fun j => if j < k then W m j else 0)) (fun i _ => 64 - (intOf i).toNat)
      case atStart =>
        refine ⟨16, by omega, by omega, rfl, hF.congr fun i _ => ?_⟩
        by_cases h : i < 16
        · simp only [h, if_true]; rw [W, if_pos h]
        · simp [h]
      case round =>
        clear hF
        obtain ⟨k, hk0, hk, rfl, hF⟩ := hrel
        by_cases hlt : k < 64
        · have c2 := hF.r.cell (i := k - 2) (by omega)
          have c15 := hF.r.cell (i := k - 15) (by omega)
          have c16 := hF.r.cell (i := k - 16) (by omega)
          have c7 := hF.r.cell (i := k - 7) (by omega)
          have cw := hF.r.cell (i := k) (by omega)
          have fw := hF.r.frozen k
          rw [if_pos (by omega)] at c2 c15 c16 c7
          go_wp2
          go_quiet (exact (turn_any _ _ _ (by omega)).mono fun _ _ h => ⟨h.1, _, h.2⟩)
          go_wp2
          go_quiet (exact (turn_any _ _ _ (by omega)).mono fun _ _ h => ⟨h.1, _, h.2⟩)
          go_wp2
          refine wp_region_quiet_tail (C := fun w' => ∃ n, w' = wr.drewN n) 18 _ rfl (by kernel_rfl) (by kernel_rfl) (by kernel_rfl) (drewN_in _ _ _) ?_
          simp only [List.take_succ_cons, List.take_zero]
          repeat (go_big_quiet_step (fail))
          refine wpQuiet_nil ?_
          rintro _ ⟨nq, rfl⟩
          go_wp2
          go_roundw
          case rel =>
            refine ⟨k + 1, by omega, by omega, by go_num, ?_⟩
            refine ((hF.drewN _).set k _).congr fun i _ => ?_
            by_cases h : i = k
            · subst h
              rw [if_pos rfl, if_pos (by omega), W_next m i hk0]
              exact wN_meets _ _ _ _
            · by_cases h2 : i < k
              · simp [h, h2, show i < k + 1 by omega]
              · simp [h, h2, show ¬ i < k + 1 by omega]
          case measure => simp [intOf]; omega
        · obtain rfl : k = 64 := by omega
          clear hlt hk hk0
          have cs : ∀ j, j < 8 → wr.cell? ⟨w.heap.size, j, none⟩ = some (.int .u32 (S j)) := fun j hj => hF.h.cell hj
          have d0 := cs 0 (by omega)
          have d1 := cs 1 (by omega)
          have d2 := cs 2 (by omega)
          have d3 := cs 3 (by omega)
          have d4 := cs 4 (by omega)
          have d5 := cs 5 (by omega)
          have d6 := cs 6 (by omega)
          have d7 := cs 7 (by omega)
          clear cs
          go_wp2
          go_quiet (fail)
          go_wp2
          clear d0 d1 d2 d3 d4 d5 d6 d7
          go_loopw [12, 13, 14, 15, 16, 17, 18, 19, 20] (fun u0 u1 u2 u3 u4 u5 u6 u7 i wr => ∃ k : Nat, k ≤ 64 ∧ i = .int .i64 k ∧ Fr w wr S (W m) ∧ u0 = .int .u32 (stp m S k 0) ∧ u1 = .int .u32 (stp m S k 1) ∧ u2 = .int .u32 (stp m S k 2) ∧ u3 = .int .u32 (stp m S k 3) ∧ u4 = .int .u32 (stp m S k 4) ∧ u5 = .int .u32 (stp m S k 5) ∧ u6 = .int .u32 (stp m S k 6) ∧ u7 = .int .u32 (stp m S k 7)) (fun _ _ _ _ _ _ _ _ i _ => 64 - (intOf i).toNat)
          case atStart => exact ⟨0, by omega, rfl, (hF.drewN _).congr fun j hj => by simp [hj], rfl, rfl, rfl, rfl, rfl, rfl, rfl, rfl⟩
          case round =>
            clear hF
            obtain ⟨k, hk, rfl, hF, rfl, rfl, rfl, rfl, rfl, rfl, rfl, rfl⟩ := hrel
            by_cases hlt : k < 64
            · have cw := hF.r.cell hlt
              have ck := hF.k.cell hlt
              generalize hst : stp m S k = V at *
              have HST := Lib.hid hst
              clear hst
              go_wp2
              go_quiet (exact (turn_any _ _ _ (by omega)).mono fun _ _ h => ⟨h.1, _, h.2⟩)
              go_wp2
              go_roundw
              case rel =>
                have hst := HST.out
                subst hst
                exact ⟨k + 1, by omega, by go_num, hF.drewN _, congrArg (Value.int .u32) (a_meets m S k), rfl, rfl, rfl, congrArg (Value.int .u32) (e_meets m S k), rfl, rfl, rfl⟩
              case measure => simp [intOf]; omega
            · obtain rfl : k = 64 := by omega
              clear hlt hk
              have cs : ∀ j, j < 8 → wr.cell? ⟨w.heap.size, j, none⟩ = some (.int .u32 (S j)) := fun j hj => hF.h.cell hj
              have d0 := cs 0 (by omega)
              have d1 := cs 1 (by omega)
              have d2 := cs 2 (by omega)
              have d3 := cs 3 (by omega)
              have d4 := cs 4 (by omega)
              have d5 := cs 5 (by omega)
              have d6 := cs 6 (by omega)
              have d7 := cs 7 (by omega)
              clear cs
              obtain ⟨z, hz⟩ := hF.o
              go_wp2_with (refine store_row rfl (.tmp 6) (.tmp 238) rfl (w.heap.size + 1 + 1) rfl (arr8 (blk m S)) rfl hz (by kernel_rfl) rfl (by kernel_rfl) ?_; intro w9 hw9 hg9)
              refine bodyPost_ret (v := .agg (arr8 (blk m S))) ?_ rfl ⟨rfl, hF.below.grown hg9 hF.below.size (fun k hk => by obtain rfl := Option.some.inj hk; omega)⟩
              exact results_cell_row Try.results27 _ _ (w.heap.size + 1 + 1) 45 (arr8 (blk m S)) (0, 0) _ rfl hw9 Try.underlying45 rfl (by kernel_rfl)
end Go.Proofs.Ytnddocchfkhlbaa
