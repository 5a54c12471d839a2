import Derived.Test.YtnddocchfkhlbaaRB
import Derived.Test.YtnddocchfkhlbaaRD
namespace Go.Proofs.Ytnddocchfkhlbaa
open Go.RowKit Go.Proofs.YtnddocchfkhlbaaZ

theorem prime_any (i : Nat) (h : i < 64) (w : World) : Calls Try.prog 26 #[.int .i64 i] w fun e w' => e = .returned (.int .u64 (PV i)) ∧ ∃ n, w' = w.drewN n :=
  (gatehouseref15_prime.calls 20000 i _ w (prime_at i h)).mono fun _ _ ⟨a, b⟩ => ⟨a, b.out⟩
theorem root3_any (i : Nat) (h : i < 64) (w : World) : Calls Try.prog 25 #[.int .u64 (PV i), .int .i64 3] w fun e w' => e = .returned (.int .u32 (KV i)) ∧ Below w.heap.size w w' :=
  gatehouseref15_root.calls 200 _ _ _ w (root3_at i h)
theorem root2_any (i : Nat) (h : i < 8) (w : World) : Calls Try.prog 25 #[.int .u64 (PV i), .int .i64 2] w fun e w' => e = .returned (.int .u32 (FV i)) ∧ Below w.heap.size w w' :=
  gatehouseref15_root.calls 200 _ _ _ w (root2_at i h)
def zeros64 : Array Value := Array.replicate 64 (.int .u32 0)
theorem zero64 (i : Nat) (hi : i < zeros64.size) : zeros64[i]? = some (.int .u32 0) := by
  have h : i < 64 := by simpa [zeros64] using hi
  simp [zeros64, h]
theorem row_ka {w : World} {g : Nat} {f : Nat → Int} (h : w.rowIs g 40 64 (fun j => .int .u32 (f j))) (hf : ∀ j, j < 64 → f j = KV j) : w.heap[g]? = some (.cells KA 40 (0, 0)) := by
  obtain ⟨c, hb, hn, hc⟩ := h
  have : c = KA := by
    apply Array.ext_getElem?
    intro i
    by_cases hi : i < 64
    · rw [hc i hi, ka_at i hi]
      show some (Value.int .u32 (f i)) = _
      rw [hf i hi]
    · rw [Array.getElem?_eq_none (by omega), Array.getElem?_eq_none (by rw [ka_size]; omega)]
  rw [← this]; exact hb
theorem below_more {B : Nat} {w w1 w2 : World} (h : Below B w w1) (h2 : Below w1.heap.size w1 w2) (hB : B ≤ w1.heap.size) : Below B w w2 := h.trans (h2.mono hB)
theorem row_below {w w' : World} {b : Nat} {t : TypeId} {n : Nat} {f : Nat → Value} (h : w.rowIs b t n f) (hb : Below w.heap.size w w') : w'.rowIs b t n f := h.of_block (hb.block _ h.lt)
set_option maxRecDepth 100000 in
set_option maxHeartbeats 1000000 in
theorem rconst_any (w : World) : Calls Try.prog 24 #[] w fun e w' => e = .returned (.agg KA) ∧ Below w.heap.size w w' := by
  go_enter Try.func24, Try.ntmps24
  go_wp2
  go_loopw [2] (fun i wr => ∃ k : Nat, k ≤ 64 ∧ i = .int .i64 k ∧ Below w.heap.size w wr ∧ (∃ z, wr.rowIs w.heap.size 40 64 z) ∧ wr.rowIs (w.heap.size + 1) 40 64 (fun j => .int .u32 (if j < k then KV j else 0))) (fun i _ => 64 - (intOf i).toNat)
  case atStart =>
    refine ⟨0, by omega, rfl, ?_, ?_, ?_⟩
    · exact ((Below.refl _ w).alloc (Nat.le_refl _) _).alloc (by simp) _
    · exact ⟨_, (World.rowIs_alloc w _ 40 (fun _ => .int .u32 0) (fun i hi => zero64 i hi)).alloc _⟩
    · have := World.rowIs_alloc (w.alloc (.cells zeros64 40)) zeros64 40 (fun _ => .int .u32 0) (fun i hi => zero64 i hi)
      have e : (w.alloc (.cells zeros64 40)).heap.size = w.heap.size + 1 := by simp
      rw [e] at this
      exact this.congr fun j _ => by simp
  case round =>
    obtain ⟨k, hk, rfl, hb, ⟨z, hz⟩, hrow⟩ := hrel
    by_cases hlt : k < 64
    · go_wp2_with (go_at_call 26; with_reducible refine (prime_any k hlt _).mono ?_; rintro e w' ⟨rfl, n, rfl⟩)
      refine (root3_any k hlt _).mono ?_
      rintro e w5 ⟨rfl, hb5⟩
      have hrow5 := row_below (hrow.drewN' n) hb5
      have hz5 := row_below (hz.drewN' n) hb5
      have hbb5 := below_more (hb.trans (Below.drewN' _ _ n)) hb5 hb.size
      have cw5 := hrow5.cell hlt
      have fw5 := hrow5.frozen k
      go_wp2
      go_roundw
      case rel =>
        refine ⟨k + 1, by omega, by go_num, hbb5.setCell (show w.heap.size ≤ w.heap.size + 1 by omega) _, ⟨_, hz5.setOther (show w.heap.size ≠ w.heap.size + 1 by omega) _⟩, (hrow5.set k _).congr fun i _ => ?_⟩
        by_cases h : i = k
        · subst h; simp
        · by_cases h2 : i < k
          · simp [h, h2, show i < k + 1 by omega]
          · simp [h, h2, show ¬ i < k + 1 by omega]
      case measure => simp [intOf]; omega
    · obtain rfl : k = 64 := by omega
      have hka := row_ka hrow (fun j hj => by simp [hj])
      go_wp2_with (first | (refine wpList_load_row rfl 40 (.tmp 1) rfl (w.heap.size + 1) rfl 40 KA (0, 0) _ hka Try.underlying40 rfl (by kernel_rfl) ?_) | (refine store_row rfl (.tmp 0) (.tmp 12) rfl w.heap.size rfl KA rfl hz (by kernel_rfl) rfl (by kernel_rfl) ?_; intro w9 hw9 hg9))
      refine bodyPost_ret (v := .agg KA) ?_ rfl ⟨rfl, hb.grown hg9 hb.size (fun k hk => by obtain rfl := Option.some.inj hk; omega)⟩
      exact results_cell_row Try.results24 _ _ w.heap.size 40 KA (0, 0) _ rfl hw9 Try.underlying40 rfl (by kernel_rfl)
end Go.Proofs.Ytnddocchfkhlbaa
