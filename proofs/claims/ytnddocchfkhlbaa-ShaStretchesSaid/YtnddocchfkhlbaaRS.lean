import Derived.Test.YtnddocchfkhlbaaRC
import Derived.Test.YtnddocchfkhlbaaRO
import Derived.Test.YtnddocchfkhlbaaX3
import Derived.Test.YtnddocchfkhlbaaP
import Derived.Test.YtnddocchfkhlbaaR2
namespace Go.Proofs.Ytnddocchfkhlbaa
open Go.RowKit Go.Proofs.YtnddocchfkhlbaaZ

theorem OwnF.form {w : World} {B : Nat} {e : TypeId} {size : Nat} {v : Value} {n : Nat} {xs : List Value} (h : OwnF w B e size v n xs) : ∃ A c, v = .slice A n c := by
  rcases h.2 with ⟨rfl, rfl⟩ | ⟨g, off, cap, cur, fr, rfl, _⟩
  · exact ⟨_, _, rfl⟩
  · exact ⟨_, _, rfl⟩
def lenOf : Value → Nat
  | .slice _ l _ => l
  | _ => 0
theorem fullS_step (S : Nat → Int) (l : List UInt8) (h : 64 ≤ l.length) : fullS S l = fullS (blk (bytesOf l) S) (l.drop 64) := by
  rw [fullS, if_pos h]
theorem fullS_stop (S : Nat → Int) (l : List UInt8) (h : l.length < 64) : fullS S l = S := by
  rw [fullS, if_neg (by omega)]
theorem row_arr8 {w : World} {g : Nat} {f : Nat → Int} (h : w.rowIs g 45 8 (fun j => .int .u32 (f j))) : w.heap[g]? = some (.cells (arr8 f) 45 (0, 0)) := by
  obtain ⟨c, hb, hn, hc⟩ := h
  have : c = arr8 f := by
    apply Array.ext_getElem?
    intro i
    by_cases hi : i < 8
    · rw [hc i hi]
      match i, hi with
      | 0, _ => rfl
      | 1, _ => rfl
      | 2, _ => rfl
      | 3, _ => rfl
      | 4, _ => rfl
      | 5, _ => rfl
      | 6, _ => rfl
      | 7, _ => rfl
    · rw [Array.getElem?_eq_none (by omega), Array.getElem?_eq_none (by show 8 ≤ i; omega)]
  rw [← this]; exact hb
theorem arr8_row {w : World} {g : Nat} {f : Nat → Int} (h : w.heap[g]? = some (.cells (arr8 f) 45 (0, 0))) : w.rowIs g 45 8 (fun j => .int .u32 (f j)) :=
  ⟨_, h, rfl, fun i hi => match i, hi with
    | 0, _ => rfl
    | 1, _ => rfl
    | 2, _ => rfl
    | 3, _ => rfl
    | 4, _ => rfl
    | 5, _ => rfl
    | 6, _ => rfl
    | 7, _ => rfl⟩
theorem load64 {w : World} {g : Nat} (h : w.heap[g]? = some (.cells KA 40 (0, 0))) (n : Nat) : (loadCellsFrom ⟨g, 0, none⟩ 0 64 #[]).run Try.prog (w.drewN n) = .ok KA (w.drewN n) := by
  have := run_loadCells_list (P := Try.prog) (w.drewN n) ⟨g, 0, none⟩ KA.toList (fun j v hv => by
    have hadd : (⟨g, 0, none⟩ : Addr).add j = ⟨g, j, none⟩ := by unfold Addr.add; split <;> simp_all
    rw [hadd]
    show w.cell? ⟨g, j, none⟩ = some v
    rw [cell_of_row _ _ j KA 40 (0, 0) h]
    simpa using hv)
  rw [show KA.toList.length = 64 from by rw [Array.length_toList, ka_size]] at this
  simpa [loadCells] using this
theorem index_a8 (S : Nat → Int) (k : Nat) (hk : k < 8) (w : World) :
    (Instr.index 45 (.agg (arr8 S)) (.int .i64 k)).run Try.prog w = .ok (.int .u32 (S k)) w := by
  unfold arr8
  match k, hk with
  | 0, _ => simp [Instr.index, asIntOf, run_underlying Try.underlying45, Try.sizeOf39, part]
  | 1, _ => simp [Instr.index, asIntOf, run_underlying Try.underlying45, Try.sizeOf39, part]
  | 2, _ => simp [Instr.index, asIntOf, run_underlying Try.underlying45, Try.sizeOf39, part]
  | 3, _ => simp [Instr.index, asIntOf, run_underlying Try.underlying45, Try.sizeOf39, part]
  | 4, _ => simp [Instr.index, asIntOf, run_underlying Try.underlying45, Try.sizeOf39, part]
  | 5, _ => simp [Instr.index, asIntOf, run_underlying Try.underlying45, Try.sizeOf39, part]
  | 6, _ => simp [Instr.index, asIntOf, run_underlying Try.underlying45, Try.sizeOf39, part]
  | 7, _ => simp [Instr.index, asIntOf, run_underlying Try.underlying45, Try.sizeOf39, part]
theorem quiet_load {ops : Array Oper} {C : World → Prop} {Q : Act → Prop} {a : Act} {o : Oper} {rest : List Oper} (hgd : o.guard = none) (t : TypeId) (x : Operand) (ho : o.op = .load t x)
    (g : Nat) (hx : a.eval x = .pointer (some ⟨g, 0, none⟩)) (cs : Array Value) (t' : TypeId) (fr : Nat × Nat) (hC : ∀ w, C w → w.heap[g]? = some (.cells cs t' fr)) (n : Nat) (e : TypeId)
    (hu : Try.prog.underlying t = some (.array n e)) (hi : (Try.prog.info? t).map (·.size) = some cs.size)
    (h : wpQuiet Try.prog ops C Q rest (a.put o.dst (.agg cs))) : wpQuiet Try.prog ops C Q (o :: rest) a := by
  have hw : Region.wanted o (yielded ops a.tmps) = true := by simp [Region.wanted, hgd]
  show if Region.wanted o (yielded ops a.tmps) then o.quiet Try.prog a C (wpQuiet Try.prog ops C Q rest) else _
  rw [if_pos hw]
  refine ⟨.agg cs, fun w hcw => ?_, h⟩
  unfold Oper.quietAt execOp
  simp only [ho, hx, Instr.loadAt, Instr.sureAddr, Sem.run_bind, Sem.run_pure, Result.andThen_ok, run_loadVar_row w g t' t cs fr (.array n e) (hC w hcw) hu rfl hi]
  exact ⟨rfl, rfl⟩
theorem hi4 (n : Nat) : cells (hiB n 4) = [.int .u8 ((n : Int) / 16777216 % 256), .int .u8 ((n : Int) / 65536 % 256), .int .u8 ((n : Int) / 256 % 256), .int .u8 ((n : Int) % 256)] := by
  have f : ∀ m : Nat, ((UInt8.ofNat m).toNat : Int) = (m : Int) % 256 := fun m => by simp
  show [Value.int .u8 ((UInt8.ofNat (n / 16777216)).toNat : Int), Value.int .u8 ((UInt8.ofNat (n / 65536)).toNat : Int), Value.int .u8 ((UInt8.ofNat (n / 256)).toNat : Int), Value.int .u8 ((UInt8.ofNat (n / 1)).toNat : Int)] = _
  rw [f, f, f, f, Nat.div_one, Int.natCast_ediv, Int.natCast_ediv, Int.natCast_ediv]
  rfl
theorem digest_cells (S : Nat → Int) (k : Nat) (h : 0 ≤ S k) : cells (digestL S k) ++ [.int .u8 (S k / 16777216 % 256), .int .u8 (S k / 65536 % 256), .int .u8 (S k / 256 % 256), .int .u8 (S k % 256)] = cells (digestL S (k + 1)) := by
  have e : digestL S (k + 1) = digestL S k ++ hiB (S k).toNat 4 := by simp [digestL, List.range_succ]
  rw [e]
  have e2 : cells (digestL S k ++ hiB (S k).toNat 4) = cells (digestL S k) ++ cells (hiB (S k).toNat 4) := by unfold cells; rw [List.map_append]
  rw [e2, hi4, Int.toNat_of_nonneg h]
theorem cells_app (a b : List UInt8) : cells (a ++ b) = cells a ++ cells b := by unfold cells; rw [List.map_append]
set_option maxRecDepth 100000 in
set_option maxHeartbeats 1000000 in
theorem rsum_any (s : ByteArray) (w : World) (hs : s.size ≤ 70368744177664) :
    Calls Try.prog 11 #[.string s] w fun e w' => e = .returned (.string (bstr (shaD s.data.toList))) ∧ Below w.heap.size w w' := by
  obtain ⟨i0, hi, hz0, hz1, hz2⟩ := info_parts info5
  have HI := Lib.hid (And.intro hi (And.intro hz0 (And.intro hz1 hz2)))
  clear hi hz0 hz1 hz2
  obtain ⟨z, hz⟩ : ∃ z : Nat, (119 - s.size % 64) % 64 = z := ⟨_, rfl⟩
  have hz64 : z < 64 := by omega
  have HZ := Lib.hid hz
  clear hz
  obtain ⟨l, hl⟩ : ∃ l : List UInt8, s.data.toList = l := ⟨_, rfl⟩
  have HL := Lib.hid hl
  have hln := Lib.hid (show l.length = s.size by rw [← hl]; simp)
  have hcv := fun W => Lib.run_convert_string_bytes (P := Try.prog) W 9 42 5 s Try.underlying9 Try.underlying42 Try.underlying5
  have hfb := fun W => Lib.hid (ownF_bytes W s (by unfold maxLen; omega))
  rw [hl] at hfb
  clear hl
  go_enter Try.func11, Try.ntmps11
  go_wp2_with fail
  refine (rconst_any w).mono ?_
  rintro e w1 ⟨rfl, hb1⟩
  have hzr := World.rowIs_alloc w1 zeros64 40 (fun _ => .int .u32 0) (fun i hi => zero64 i hi)
  have HZR := Lib.hid hzr
  clear hzr
  obtain ⟨X, hX⟩ : ∃ X : Nat, s.size * 8 = X := ⟨_, rfl⟩
  have hX1 : (s.size : Int) * 8 = (X : Int) := by omega
  go_wp2_with (first | (refine store_row rfl (.tmp 3) (.tmp 13) rfl w1.heap.size rfl KA rfl HZR.out (by kernel_rfl) rfl (by kernel_rfl) ?_; intro w2 hw2 hg2) | (at_builtin; refine wpList_append_OwnF rfl (.tmp 20) (.tmp 21) 42 42 rfl w2.heap.size 5 i0 (.int .u8 0) 1 1 Try.underlying42 HI.out.1 HI.out.2.1 HI.out.2.2.1 HI.out.2.2.2 rfl _ _ _ rfl ((hfb w2).out.below ((Below.refl _ _).alloc (Nat.le_refl _) _)) _ 1 [.int .u8 128] rfl (Src.ofSlice _ Try.underlying42 ⟨(Lib.bytesWorld w2 5 s).heap.size, 0, none⟩ 1 1 _ rfl ?c1 ?c2) (by unfold maxLen; omega) (by omega) (by have := Lib.bytesWorld_size w2 5 s; simp; omega) ?_))
  case c1 =>
    intro j u hj
    match j, hj with
    | 0, hj => simp at hj; subst hj; simp [Addr.add]
  case c2 => intro u hu; simp at hu; subst hu; rfl
  intro v3 w3 hown3 hg3
  have hb3 : Below w2.heap.size w2 w3 := ((below_bytes w2 s).alloc (by rw [Lib.bytesWorld_size]; omega) _).grown hg3 (by have := Lib.bytesWorld_size w2 5 s; simp; omega) (fun q hq => ((hfb w2).out.block q hq).1)
  have hb2 : Below w.heap.size w w2 := (hb1.alloc hb1.size _).grown hg2 (by have := hb1.size; simp; omega) (fun q hq => by obtain rfl := Option.some.inj hq; exact hb1.size)
  have e3 : cells l ++ [Value.int .u8 128] = cells (l ++ 128 :: List.replicate 0 0) := by rw [cells_app]; rfl
  rw [e3] at hown3
  clear hg3 hfb hcv HZR hg2 hb1 e3
  have HX := Lib.hid hX
  have HX1 := Lib.hid hX1
  clear hX hX1
  go_wp2
  go_loopw [4] (fun v wr => ∃ k : Nat, k ≤ z ∧ OwnF wr w2.heap.size 5 1 v (s.size + 1 + k) (cells (l ++ 128 :: List.replicate k 0)) ∧ Below w2.heap.size w2 wr) (fun v _ => s.size + 1 + z - lenOf v)
  case atStart => exact ⟨0, by omega, hown3, hb3⟩
  case round =>
    clear hown3 hb3
    obtain ⟨k, hk, hown, hb⟩ := hrel
    obtain ⟨A, c, rfl⟩ := hown.form
    have hz := HZ.out
    obtain ⟨N, hN⟩ : ∃ N, s.size + 1 + k = N := ⟨_, rfl⟩
    rw [hN] at hown ⊢
    obtain ⟨q, hq⟩ : ∃ q : Int, (N : Int).tmod 64 = q := ⟨_, rfl⟩
    have hq2 : q = ((N % 64 : Nat) : Int) := by rw [← hq, Int.tmod_eq_emod_of_nonneg (by omega)]; omega
    by_cases hlt : k < z
    · have hq3 : ¬ q = 56 := by omega
      clear hq2 hz
      have HN := Lib.hid hN
      clear hN
      go_wp2_with (at_builtin; refine wpList_append_OwnF rfl (.tmp 27) (.tmp 28) 42 42 rfl w2.heap.size 5 i0 (.int .u8 0) 1 1 Try.underlying42 HI.out.1 HI.out.2.1 HI.out.2.2.1 HI.out.2.2.2 rfl _ _ _ rfl (hown.below ((Below.refl _ _).alloc (Nat.le_refl _) _)) _ 1 [.int .u8 0] rfl (Src.ofSlice _ Try.underlying42 ⟨wr.heap.size, 0, none⟩ 1 1 _ rfl ?c1 ?c2) (by have := HN.out; unfold maxLen; omega) (by have := HN.out; omega) (by have := hb.size; simp; omega) ?_)
      case c1 =>
        intro j u hj
        match j, hj with
        | 0, hj => simp at hj; subst hj; simp [Addr.add]
      case c2 => intro u hu; simp at hu; subst hu; rfl
      intro v' w4 hown4 hg4
      have hb4 : Below w2.heap.size w2 w4 := (hb.alloc hb.size _).grown hg4 (by have := hb.size; simp; omega) (fun q hq => (hown.block q hq).1)
      have e4 : cells (l ++ 128 :: List.replicate k 0) ++ [Value.int .u8 0] = cells (l ++ 128 :: List.replicate (k + 1) 0) := by
        rw [List.replicate_succ', ← List.cons_append, ← List.append_assoc, cells_app (l ++ _)]; rfl
      rw [e4] at hown4
      obtain ⟨A', c', rfl⟩ := hown4.form
      clear hg4 hown hb e4
      go_wp2
      go_roundw
      case rel => exact ⟨k + 1, by omega, by rw [show s.size + 1 + (k + 1) = N + 1 by have := HN.out; omega]; exact hown4, hb4⟩
      case measure => have := HN.out; simp [lenOf]; omega
    · obtain rfl : z = k := by omega
      have hq3 : q = 56 := by omega
      clear hq2
      go_wp2
      clear hq hq3 hlt hk hz
      have hLN : (l ++ 128 :: List.replicate z 0).length = N := by rw [List.length_append, hln.out, List.length_cons, List.length_replicate]; omega
      obtain ⟨M, hM⟩ : ∃ M : List UInt8, l ++ 128 :: List.replicate z 0 = M := ⟨_, rfl⟩
      rw [hM] at hown hLN
      have HM := Lib.hid hM
      clear hM
      go_loopw [4, 6] (fun v i wr => ∃ k : Nat, k ≤ 8 ∧ i = .int .i64 (7 - k) ∧ OwnF wr w2.heap.size 5 1 v (N + k) (cells (M ++ (hiB X 8).take k)) ∧ Below w2.heap.size w2 wr) (fun _ i _ => (intOf i + 1).toNat)
      case atStart => exact ⟨0, by omega, rfl, by rw [List.take_zero, List.append_nil]; exact hown, hb⟩
      case round =>
        clear hown hb
        obtain ⟨k, hk, rfl, hown, hb⟩ := hrel
        obtain ⟨A, c, rfl⟩ := hown.form
        by_cases hlt : k < 8
        · have e1 : (8 * (7 - (k : Int))).toNat = 8 * (7 - k) := by omega
          go_wp2_with (at_builtin; refine wpList_append_OwnF rfl (.tmp 34) (.tmp 41) 42 42 rfl w2.heap.size 5 i0 (.int .u8 0) 1 1 Try.underlying42 HI.out.1 HI.out.2.1 HI.out.2.2.1 HI.out.2.2.2 rfl _ _ _ rfl (hown.below ((Below.refl _ _).alloc (Nat.le_refl _) _)) _ 1 [.int .u8 ((X : Int) / 2 ^ (8 * (7 - k)) % 256)] rfl (Src.ofSlice _ Try.underlying42 ⟨wr.heap.size, 0, none⟩ 1 1 _ rfl ?c1 ?c2) (by unfold maxLen; omega) (by omega) (by have := hb.size; simp; omega) ?_)
          case c1 =>
            intro j u hj
            match j, hj with
            | 0, hj => simp at hj; subst hj; simp [Addr.add]
          case c2 => intro u hu; simp at hu; subst hu; rfl
          intro v' w4 hown4 hg4
          have hb4 : Below w2.heap.size w2 w4 := (hb.alloc hb.size _).grown hg4 (by have := hb.size; simp; omega) (fun q hq => (hown.block q hq).1)
          have hk8 : k < (hiB X 8).length := by rw [hiB_length]; exact hlt
          have e4 : cells (M ++ (hiB X 8).take k) ++ [Value.int .u8 ((X : Int) / 2 ^ (8 * (7 - k)) % 256)] = cells (M ++ (hiB X 8).take (k + 1)) := by
            rw [cells_app M ((hiB X 8).take k), cells_app M ((hiB X 8).take (k + 1)), List.append_assoc, cells_snoc _ _ hk8 _ (hiB_at X 8 k hk8).symm]
          rw [e4] at hown4
          obtain ⟨A', c', rfl⟩ := hown4.form
          clear hg4 hown hb e4 e1
          go_wp2
          go_roundw
          case rel => exact ⟨k + 1, by omega, by congr 1; omega, hown4, hb4⟩
          case measure => simp [intOf]; omega
        · rw [show (7 : Int) - (k : Int) = -1 by omega]
          obtain rfl : k = 8 := by omega
          rw [List.take_of_length_le (by rw [hiB_length]; omega)] at hown
          -- the first words
          obtain ⟨L, hL⟩ : ∃ L : List UInt8, M ++ hiB X 8 = L := ⟨_, rfl⟩
          have hLL : L.length = N + 8 := by rw [← hL, List.length_append, hLN, hiB_length]
          have HLD := Lib.hid hL
          rw [hL] at hown
          rw [← hLL] at hown ⊢
          have hL64 : L.length % 64 = 0 := by have := HZ.out; omega
          clear hL hLN
          have hLb : L.length ≤ 70368744178000 := by omega
          have HLL := Lib.hid hLL
          clear hLL
          go_wp2
          obtain ⟨w5, hw5⟩ : ∃ w5 : World, w5 = wr := ⟨_, rfl⟩
          subst hw5
          go_loopw [8] (fun i wr => ∃ k : Nat, k ≤ 8 ∧ i = .int .i64 k ∧ wr.rowIs w5.heap.size 45 8 (fun j => .int .u32 (if j < k then FV j else 0)) ∧ Below w5.heap.size w5 wr) (fun i _ => 8 - (intOf i).toNat)
          case atStart =>
            refine ⟨0, by omega, rfl, ?_, (Below.refl _ _).alloc (Nat.le_refl _) _⟩
            exact (World.rowIs_alloc w5 (Array.replicate 8 (.int .u32 0)) 45 (fun _ => .int .u32 0) (fun i hi => by
              have h : i < 8 := by simpa using hi
              simp [h])).congr fun j _ => by simp
          case round =>
            obtain ⟨k, hk, rfl, hrow, hb5⟩ := hrel
            by_cases hlt : k < 8
            · go_wp2_with (go_at_call 26; with_reducible refine (prime_any k (by omega) _).mono ?_; rintro e w' ⟨rfl, n, rfl⟩)
              refine (root2_any k hlt _).mono ?_
              rintro e w6 ⟨rfl, hb6⟩
              have hrow6 := row_below (hrow.drewN' n) hb6
              have hbb6 := below_more (hb5.trans (Below.drewN' _ _ n)) hb6 hb5.size
              have cw6 := hrow6.cell hlt
              have fw6 := hrow6.frozen k
              clear hb6
              go_wp2
              go_roundw
              case rel =>
                refine ⟨k + 1, by omega, by go_num, (hrow6.set k _).congr fun i _ => ?_, hbb6.setCell (Nat.le_refl _) _⟩
                by_cases h : i = k
                · subst h; simp
                · by_cases h2 : i < k
                  · simp [h, h2, show i < k + 1 by omega]
                  · simp [h, h2, show ¬ i < k + 1 by omega]
              case measure => simp [intOf]; omega
            · rw [show (k : Int) = 8 by omega]
              obtain rfl : k = 8 := by omega
              have hrowF : w5.heap.size < wr.heap.size := hrow.lt
              have hst : wr.heap[w5.heap.size]? = some (.cells (arr8 FV) 45 (0, 0)) := row_arr8 (hrow.congr fun j hj => by simp [hj])
              go_wp2
              go_loopw [9] (fun i wr => ∃ (k : Nat) (T : Nat → Int), 64 * k ≤ L.length ∧ i = .int .i64 (64 * k : Nat) ∧ wr.heap[w5.heap.size]? = some (.cells (arr8 T) 45 (0, 0)) ∧ fullS T (L.drop (64 * k)) = fullS FV L ∧ Below w5.heap.size w5 wr) (fun i _ => L.length + 64 - (intOf i).toNat)
              case atStart => exact ⟨0, FV, by omega, rfl, hst, rfl, hb5⟩
              case round =>
                clear hst hrow hrowF hb5
                obtain ⟨k, T, hk, rfl, hst, hT, hb5⟩ := hrel
                have hw5 : w5.heap.size < wr.heap.size := (Array.getElem?_eq_some_iff.1 hst).1
                have hownr := hown.below hb5
                have hka : wr.heap[w1.heap.size]? = some (.cells KA 40 (0, 0)) := by
                  have h1 : w1.heap.size < w2.heap.size := (Array.getElem?_eq_some_iff.1 hw2).1
                  rw [hb5.block _ (by have := hb.size; omega), hb.block _ h1]; exact hw2
                obtain ⟨I, hI⟩ : ∃ I : Nat, 64 * k = I := ⟨_, rfl⟩
                rw [hI] at hk hT ⊢
                have HIk := Lib.hid hI
                clear hI
                by_cases hlt : I < L.length
                · have h64 : I + 64 ≤ L.length := by have := HIk.out; omega
                  obtain ⟨g, off, cap, cur, fr, hv, hBg, hgc, hfr, hfit, hnc, hcm, hcc⟩ : ∃ g off cap cur fr, (Value.slice A L.length c) = .slice (some ⟨g, off, none⟩) L.length cap ∧ w2.heap.size ≤ g ∧ wr.heap[g]? = some (.cells cur 5 fr) ∧ (fr = ((0 : Nat), (0 : Nat)) ∨ cur.size ≤ fr.1) ∧ off + cap * 1 ≤ cur.size ∧ L.length ≤ cap ∧ cap ≤ maxLen ∧ ∀ j, j < L.length * 1 → cur[off + j]? = (cells L)[j]? := by
                    rcases hownr.2 with ⟨_, h0⟩ | h
                    · omega
                    · exact h
                  injection hv with hA _ hcap
                  subst hA hcap
                  have hcell := hownr.cells rfl
                  have hcb : ∀ j, j < 64 → wr.cell? ⟨g, off + I + j, none⟩ = some (.int .u8 (bytesOf (L.drop I) j)) := fun j hj => by
                    rw [Nat.add_assoc, hcell (I + j) _ (cells_at L (I + j) (by omega))]
                    unfold bytesOf
                    rw [List.getD_eq_getElem?_getD, List.getD_eq_getElem?_getD, List.getElem?_drop]
                  have hrowT := arr8_row hst
                  have d0 := hrowT.cell (i := 0) (by omega)
                  have d1 := hrowT.cell (i := 1) (by omega)
                  have d2 := hrowT.cell (i := 2) (by omega)
                  have d3 := hrowT.cell (i := 3) (by omega)
                  have d4 := hrowT.cell (i := 4) (by omega)
                  have d5 := hrowT.cell (i := 5) (by omega)
                  have d6 := hrowT.cell (i := 6) (by omega)
                  have d7 := hrowT.cell (i := 7) (by omega)
                  have hK := load64 hka
                  have hne : ¬ c = I := by omega
                  have hHc := Lib.hid hcell
                  have hHcb := Lib.hid hcb
                  have hHr := Lib.hid hrowT
                  clear hcell hcb hrowT hcc hfit hfr
                  have hcut : ∀ W, (Instr.slice 42 (.slice (some ⟨g, off, none⟩) L.length c) (some (.int .i64 (I : Int))) (some (.int .i64 ((I : Int) + 64))) none).run Try.prog W = .ok (.slice (some ⟨g, off + I, none⟩) 64 (c - I)) W := by
                    intro W
                    have := Go.Proofs.YtnddocchfkhlbaaW.PrintWords.cut_mid (P := Try.prog) 42 5 .i64 .i64 Try.underlying42 HI.out.1 1 HI.out.2.2.1 (some ⟨g, off, none⟩) L.length c I (I + 64) (by omega) (by omega) (by omega) hnc W
                    rw [this, Int.toNat_natCast, if_neg hne, show ((I : Int) + 64).toNat - I = 64 by omega]
                    simp [Addr.add]
                  go_wp2
                  refine wp_region_quiet_tails (C := fun w' => ∃ n, w' = wr.drewN n) 7 (by kernel_rfl) (by kernel_rfl) (by kernel_rfl) (by decide) ⟨1, rfl⟩ ?_
                  simp only [List.take_succ_cons, List.take_zero]
                  repeat (go_big_quiet_step (fail))
                  refine quiet_load rfl 40 (.tmp 3) rfl w1.heap.size rfl KA 40 (0, 0) (by rintro _ ⟨n, rfl⟩; exact hka) _ _ Try.underlying40 (by kernel_rfl) ?_
                  clear d0 d1 d2 d3 d4 d5 d6 d7 hcut hK
                  refine wpQuiet_nil ?_
                  rintro _ ⟨nq, rfl⟩
                  simp only [List.drop_succ_cons, List.drop_zero]
                  go_wp2_with fail
                  refine (rblock_any (wr.drewN nq) T g (off + I) (c - I) (bytesOf (L.drop I)) (by omega) hHcb.out (bytesOf_range _)).mono ?_
                  rintro e w8 ⟨rfl, hb8⟩
                  have hr8 := row_below (hHr.out.drewN' nq) hb8
                  have hbb8 := below_more (hb5.trans (Below.drewN' _ _ nq)) hb8 hb5.size
                  clear hb8
                  go_wp2_with (refine store_row rfl (.tmp 7) (.tmp 65) rfl w5.heap.size rfl (arr8 (blk (bytesOf (L.drop I)) T)) rfl hr8 (by kernel_rfl) rfl (by kernel_rfl) ?_; intro w9 hw9 hg9)
                  go_roundw
                  case rel =>
                    refine ⟨k + 1, blk (bytesOf (L.drop I)) T, by have := HIk.out; omega, by have := HIk.out; congr 1; omega, hw9, ?_, hbb8.grown hg9 hbb8.size (fun q hq => by obtain rfl := Option.some.inj hq; exact Nat.le_refl _)⟩
                    rw [← hT, fullS_step T (L.drop I) (by rw [List.length_drop]; omega), List.drop_drop]
                    congr 2
                    have := HIk.out
                    omega
                  case measure => simp [intOf]; omega
                · have hIL : I = L.length := by omega
                  have hTT : T = fullS FV L := by
                    rw [← hT, hIL, List.drop_length, fullS_stop _ _ (by simp)]
                  have hok : ∀ j, j < 8 → 0 ≤ T j ∧ T j ≤ 4294967295 := by rw [hTT]; exact okS_full okS_FV L
                  have HTT := Lib.hid hTT
                  have HOK := Lib.hid hok
                  clear hTT hok
                  have hstA : ∀ o : Obj, (wr.alloc o).heap[w5.heap.size]? = some (.cells (arr8 T) 45 (0, 0)) := fun o => (Below.heap_alloc wr o _ hw5).trans hst
                  have ix := fun W k hk => index_a8 T k hk W
                  go_wp2_with (refine wpList_load_row rfl 45 (.tmp 7) rfl w5.heap.size rfl 45 (arr8 T) (0, 0) _ (hstA _) Try.underlying45 rfl (by kernel_rfl) ?_)
                  obtain ⟨w6, hw6⟩ : ∃ w6 : World, w6 = wr := ⟨_, rfl⟩
                  subst hw6
                  go_wp2
                  go_loopw [10, 68] (fun v i wx => ∃ k : Nat, k ≤ 8 ∧ i = .int .i64 k ∧ Own wx w6.heap.size 5 1 v (4 * k) (cells (digestL T k)) ∧ Below w6.heap.size w6 wx) (fun _ i _ => 8 - (intOf i).toNat)
                  case atStart => exact ⟨0, by omega, rfl, own_empty w6 5, (Below.refl _ _).alloc (Nat.le_refl _) _⟩
                  case round =>
                    obtain ⟨k, hk, rfl, hown5, hb6⟩ := hrel
                    obtain ⟨A5, c5, rfl⟩ := hown5.form
                    by_cases hlt8 : k < 8
                    · have ixk := fun W => ix W k hlt8
                      have ⟨o0, o1⟩ := HOK.out k hlt8
                      clear ix
                      go_wp2_with (at_builtin; refine wpList_append_Own rfl (.tmp 71) (.tmp 83) 42 42 rfl w6.heap.size 5 i0 (.int .u8 0) 1 1 Try.underlying42 HI.out.1 HI.out.2.1 HI.out.2.2.1 HI.out.2.2.2 rfl _ _ _ rfl (hown5.below ((Below.refl _ _).alloc (Nat.le_refl _) _)) _ 4 [.int .u8 (T k / 16777216 % 256), .int .u8 (T k / 65536 % 256), .int .u8 (T k / 256 % 256), .int .u8 (T k % 256)] rfl (Src.ofSlice _ Try.underlying42 ⟨wr.heap.size, 0, none⟩ 4 4 _ rfl ?c1 ?c2) (by unfold maxLen; omega) (by omega) (by have := hb6.size; simp; omega) ?_)
                      case c1 =>
                        intro j u hj
                        match j, hj with
                        | 0, hj => simp at hj; subst hj; first | (simp [Addr.add]; done) | (simp [Addr.add]; omega)
                        | 1, hj => simp at hj; subst hj; first | (simp [Addr.add]; done) | (simp [Addr.add]; omega)
                        | 2, hj => simp at hj; subst hj; first | (simp [Addr.add]; done) | (simp [Addr.add]; omega)
                        | 3, hj => simp at hj; subst hj; first | (simp [Addr.add]; done) | (simp [Addr.add]; omega)
                      case c2 => intro u hu; simp at hu; rcases hu with rfl | rfl | rfl | rfl <;> rfl
                      intro v' w7 hown7 hg7
                      have hb7 : Below w6.heap.size w6 w7 := (hb6.alloc hb6.size _).grown hg7 (by have := hb6.size; simp; omega) (fun q hq => (hown5.block q hq).1)
                      rw [digest_cells T k o0] at hown7
                      clear hg7 hown5 hb6 o0 o1 ixk
                      go_wp2
                      go_roundw
                      case rel => exact ⟨k + 1, by omega, by go_num, hown7, hb7⟩
                      case measure => simp [intOf]; omega
                    · obtain rfl : k = 8 := by omega
                      have hstr := own_string (l := digestL T 8) (by rw [digestL_length]; exact hown5)
                      go_wp2
                      go_ret
                      refine ⟨?_, below_through (below_through (below_through hb2 hb) hb5) hb6⟩
                      have hsd : shaD l = digestL T 8 := by
                        unfold shaD
                        rw [(full_append FV l (pad l.length)).1, HTT.out, ← HLD.out, ← HM.out]
                        congr 2
                        unfold pad
                        rw [hln.out, HZ.out, HX.out, List.append_assoc]
                        rfl
                      rw [HL.out, hsd]
                      rfl
end Go.Proofs.Ytnddocchfkhlbaa
