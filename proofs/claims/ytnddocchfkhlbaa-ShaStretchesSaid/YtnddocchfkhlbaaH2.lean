import Derived.Test.YtnddocchfkhlbaaH
import Derived.Laws.BytesArg
import Derived.Deep.CutBlock
import Derived.Deep.RegionHeld3
namespace Go.Proofs.Ytnddocchfkhlbaa
open Go.RowKit

def bstr (l : List UInt8) : ByteArray := ⟨l.toArray⟩
/-- A number's n bytes, the highest first. -/
def hiB (x n : Nat) : List UInt8 := (List.range n).map fun j => UInt8.ofNat (x / 2 ^ (8 * (n - 1 - j)))

theorem cells_snoc (l : List UInt8) (k : Nat) (hk : k < l.length) (z : Int) (hz : z = ((l[k]).toNat : Int)) : cells (l.take k) ++ [Value.int .u8 z] = cells (l.take (k + 1)) := by
  subst hz
  rw [List.take_succ_eq_append_getElem hk]
  unfold cells
  rw [List.map_append]
  rfl
theorem hiB_length (x n : Nat) : (hiB x n).length = n := by simp [hiB]
theorem hiB_at (x n k : Nat) (h : k < (hiB x n).length) : (((hiB x n)[k]).toNat : Int) = (x : Int) / 2 ^ (8 * (n - 1 - k)) % 256 := by
  have : ((hiB x n)[k]).toNat = x / 2 ^ (8 * (n - 1 - k)) % 256 := by simp [hiB]
  rw [this, Int.natCast_emod, Int.natCast_ediv]
  congr 2

/-- A []byte of the call's own, as a string. -/
theorem own_string {w : World} {B : Nat} {v : Value} {l : List UInt8} (h : Own w B 5 1 v l.length (cells l)) : (convert 42 9 v).run Try.prog w = .ok (.string (bstr l)) w := by
  rcases h.2 with ⟨rfl, h0⟩ | ⟨g, off, cap, cur, rfl, _⟩
  · obtain rfl : l = [] := List.eq_nil_of_length_eq_zero h0
    exact run_convert_bytes_nil w 42 5 Try.underlying42 Try.underlying5 0 0 9 Try.underlying9
  · have := run_convert_bytes_arg (P := Try.prog) w 42 5 Try.underlying42 Try.underlying5 g off l.length cap (l.map fun b => (b.toNat : Int)) (by simp) (fun i hi => by
      rw [h.cells rfl i (.int .u8 (bytesOf l i)) (cells_at l i hi)]
      simp [bytesOf, hi]) 9 Try.underlying9
    rw [this]
    have e : (l.map fun b => (b.toNat : Int)).map (fun n => UInt8.ofNat n.toNat) = l := by
      rw [List.map_map]
      refine (List.map_congr_left fun b _ => ?_).trans (List.map_id l)
      simp
    rw [strOfNums, e, bstr]

set_option maxRecDepth 100000 in
set_option maxHeartbeats 400000 in
theorem high_any (x n : Nat) (w : World) (hx : x < 18446744073709551616) (hn : n ≤ 8) :
    Calls Try.prog 30 #[.int .u64 x, .int .i64 n] w fun e w' => e = .returned (.string (bstr (hiB x n))) ∧ Below w.heap.size w w' := by
  obtain ⟨i0, hi, hz0, hz1, hz2⟩ := info_parts info5
  have HI := Lib.hid (And.intro hi (And.intro hz0 (And.intro hz1 hz2)))
  clear hi hz0 hz1 hz2
  have HX := Lib.hid hx
  clear hx
  go_enter Try.func30, Try.ntmps30
  go_wp2
  go_loopw [5, 6] (fun v i wr => ∃ k : Nat, k ≤ n ∧ i = .int .i64 ((n : Int) - 1 - k) ∧ Own wr w.heap.size 5 1 v k (cells ((hiB x n).take k)) ∧ Below w.heap.size w wr) (fun _ i _ => (intOf i + 1).toNat)
  case atStart => exact ⟨0, by omega, by simp, Own.nil _ _ _ _, Below.refl _ _⟩
  case round =>
    obtain ⟨k, hk, rfl, hown, hbel⟩ := hrel
    by_cases hlt : k < n
    · have e1 : (8 * ((n : Int) - 1 - k)).toNat = 8 * (n - 1 - k) := by omega
      go_wp2_with (at_builtin; refine wpList_append_Own rfl (.tmp 13) (.tmp 19) 42 42 rfl w.heap.size 5 i0 (.int .u8 0) 1 1 Try.underlying42 HI.out.1 HI.out.2.1 HI.out.2.2.1 HI.out.2.2.2 rfl _ _ _ rfl (hown.below ((Below.refl _ _).alloc (Nat.le_refl _) _)) _ 1 [.int .u8 ((x : Int) / 2 ^ (8 * (n - 1 - k)) % 256)] rfl (Src.ofSlice _ Try.underlying42 ⟨wr.heap.size, 0, none⟩ 1 1 _ rfl ?c1 ?c2) (by unfold maxLen; omega) (by omega) (by have := hbel.size; simp; omega) ?_)
      case c1 =>
        intro j u hj
        match j, hj with
        | 0, hj => simp at hj; subst hj; simp [Addr.add]
      case c2 => intro u hu; simp at hu; subst hu; rfl
      intro v' w1 hown1 hg1
      rw [cells_snoc _ _ (by rw [hiB_length]; exact hlt) _ (hiB_at x n k (by rw [hiB_length]; exact hlt)).symm] at hown1
      have hb1 : Below w.heap.size w w1 := (hbel.alloc hbel.size _).grown hg1 (by have := hbel.size; simp; omega) (fun q hq => (hown.block q hq).1)
      clear hg1 hown hbel e1
      go_wp2
      go_roundw
      case rel => exact ⟨k + 1, by omega, by congr 1; omega, hown1, hb1⟩
      case measure => simp [intOf]; omega
    · obtain rfl : k = n := by omega
      have hs := own_string (by rw [hiB_length]; rw [List.take_of_length_le (by rw [hiB_length]; omega)] at hown; exact hown)
      go_wp2
      go_ret
      exact ⟨rfl, hbel⟩

def HA : Array Value := FA ++ #[.slice none 0 0, .int .i64 0]
theorem build52 (w : World) : (Instr.build 52 #[(0, .agg FA)]).run Try.prog w = .ok (.agg HA) w := by kernel_rfl
theorem ha_size : HA.size = 10 := rfl
theorem ha_at : ∀ j, j < 10 → HA[j]? = some (if j < 8 then .int .u32 (FV j) else if j = 8 then .slice none 0 0 else .int .i64 0) := by
  intro j hj
  match j, hj with
  | 0, _ => rfl
  | 1, _ => rfl
  | 2, _ => rfl
  | 3, _ => rfl
  | 4, _ => rfl
  | 5, _ => rfl
  | 6, _ => rfl
  | 7, _ => rfl
  | 8, _ => rfl
  | 9, _ => rfl

theorem ha_fold : Array.foldl (fun (cs : Array Value) (x : Value × Nat) => cs.setIfInBounds x.snd x.fst)
    #[Value.int IntKind.u32 0, Value.int IntKind.u32 0, Value.int IntKind.u32 0, Value.int IntKind.u32 0, Value.int IntKind.u32 0, Value.int IntKind.u32 0, Value.int IntKind.u32 0, Value.int IntKind.u32 0, Value.slice none 0 0, Value.int IntKind.i64 0]
    FA.zipIdx 0 FA.size = HA := by rfl

set_option maxRecDepth 100000 in
theorem new_any (w : World) :
    Calls Try.prog 12 #[] w fun e w' => ∃ p, e = .returned (.pointer (some ⟨p, 0, none⟩)) ∧ HashAt w' w.heap.size p FV [] 0 ∧ Below w.heap.size w w' := by
  go_enter Try.func12, Try.ntmps12
  go_wp2_with (go_at_call 28; refine (first_any _).mono ?_; rintro e w' ⟨rfl, rfl⟩)
  go_ret
  refine ⟨_, rfl, ?_, ((Below.refl _ _).alloc (Nat.le_refl _) _).alloc (by simp) _⟩
  have hr : ((w.alloc (.cells FA 49)).alloc (.cells HA 52)).rowIs (w.heap.size + 1) 52 10 (fun j => if j < 8 then .int .u32 (FV j) else if j = 8 then .slice none 0 0 else .int .i64 0) := by
    have := World.rowIs_alloc (w.alloc (.cells FA 49)) HA 52 _ (fun i hi => ha_at i (by rw [ha_size] at hi; exact hi))
    rw [ha_size] at this
    simpa using this
  exact ⟨by omega, .slice none 0 0, _, Own.nil _ _ _ _, hr, fun j hj => by rw [if_pos hj], rfl, rfl⟩

theorem Own.src {w : World} {B : Nat} {e : TypeId} {size : Nat} {v : Value} {n : Nat} {xs : List Value} (h : Own w B e size v n xs) {P : Program} {tx e' : TypeId} (ht : P.underlying tx = some (.slice e')) (h1 : ∀ u ∈ xs, u.oneCell' = true) : Src P size tx v n xs w := by
  have hl := h.1
  rcases h.2 with ⟨rfl, h0⟩ | ⟨g, off, cap, cur, rfl, _⟩
  · subst h0
    have : xs = [] := List.eq_nil_of_length_eq_zero (by simpa using hl)
    subst this
    exact Src.ofNil w ht 0
  · exact Src.ofSlice w ht _ n cap xs hl (fun j u hu => by
      have hadd : (⟨g, off, none⟩ : Addr).add j = ⟨g, off + j, none⟩ := by unfold Addr.add; split <;> simp_all
      rw [hadd]
      exact h.cells rfl j u hu) h1
theorem own_empty (w : World) (t : TypeId) : Own (w.alloc (.cells #[] t)) w.heap.size t 1 (.slice (some ⟨w.heap.size, 0, none⟩) 0 0) 0 [] :=
  ⟨rfl, .inr ⟨w.heap.size, 0, 0, #[], rfl, Nat.le_refl _, heap_alloc_new w _, by simp, Nat.le_refl _, by unfold maxLen; omega, fun j hj => by omega⟩⟩
theorem cells_one (l : List UInt8) : ∀ u ∈ cells l, u.oneCell' = true := by
  intro u hu
  obtain ⟨_, _, rfl⟩ := List.mem_map.1 hu
  rfl

theorem step_append_Own {P : Program} {w : World} {o : Oper} {a : Act} {K : Act → World → Prop} {Q : Exit → Act → World → Prop} (sl x : Operand) (t tx : TypeId)
    (ho : o.op = .call { callee := .builtin .append, args := #[sl, x], argTypes := #[t, tx] })
    (B : Nat) (e : TypeId) (i : TypeInfo) (z : Value) (size bytes : Nat) (ht : P.underlying t = some (.slice e)) (hi : P.info? e = some i) (hz : i.zero = some z) (hsize : i.size = size) (hby : i.bytes = bytes) (hzs : z.cells.size = size)
    (v : Value) (n : Nat) (xs : List Value) (hsl : a.eval sl = v) (hown : Own w B e size v n xs) (xv : Value) (m : Nat) (news : List Value) (hx : a.eval x = xv) (hs : Src P size tx xv m news w)
    (h63 : n + m ≤ maxLen) (hbytes : (n + m) * bytes ≤ 140737488355328) (hbase : B ≤ w.heap.size)
    (h : ∀ v' w', Own w' B e size v' (n + m) (xs ++ news) → w.grownBy w' v.ownBlock → K (a.put o.dst v') w') : o.wp P a w K Q := by
  obtain ⟨v', w', hr, h2, h3⟩ := run_append_Own (P := P) w B t tx o.type e i z size bytes ht hi hz hsize hby hzs v n xs hown xv m news hs h63 hbytes hbase
  unfold Oper.wp execOp
  simp only [ho, resolve, invoke, builtin, Sem.run_bind, Sem.run_pure, Result.andThen_ok, List.map_toArray, List.map_cons, List.map_nil, hsl, hx, hr]
  exact h v' w' h2 h3

theorem copied {w w' : World} {S : Nat → Int} {r : List UInt8} {n : Nat} {rv : Value} (hown : Own w' w.heap.size 5 1 rv r.length (cells r)) (hb : Below w.heap.size w w') :
    HashAt (w'.alloc (.cells #[.int .u32 (S 0), .int .u32 (S 1), .int .u32 (S 2), .int .u32 (S 3), .int .u32 (S 4), .int .u32 (S 5), .int .u32 (S 6), .int .u32 (S 7), rv, .int .i64 n] 52)) w.heap.size w'.heap.size S r n ∧
      Below w.heap.size w (w'.alloc (.cells #[.int .u32 (S 0), .int .u32 (S 1), .int .u32 (S 2), .int .u32 (S 3), .int .u32 (S 4), .int .u32 (S 5), .int .u32 (S 6), .int .u32 (S 7), rv, .int .i64 n] 52)) := by
  refine ⟨⟨hb.size, rv, fun j => if j < 8 then .int .u32 (S j) else if j = 8 then rv else .int .i64 n, hown.below ((Below.refl _ _).alloc (Nat.le_refl _) _), World.rowIs_alloc w' _ 52 _ (fun j hj => ?_), fun j hj => by simp [hj], rfl, rfl⟩, hb.alloc hb.size _⟩
  match j, hj with
  | 0, _ => rfl
  | 1, _ => rfl
  | 2, _ => rfl
  | 3, _ => rfl
  | 4, _ => rfl
  | 5, _ => rfl
  | 6, _ => rfl
  | 7, _ => rfl
  | 8, _ => rfl
  | 9, _ => rfl

set_option maxRecDepth 100000 in
set_option maxHeartbeats 400000 in
theorem copy_any (w : World) (B p : Nat) (S : Nat → Int) (r : List UInt8) (n : Nat) (hH : HashAt w B p S r n) (h1 : r.length ≤ 140737488355328) :
    Calls Try.prog 16 #[.pointer (some ⟨p, 0, none⟩)] w fun e w' => ∃ q, e = .returned (.pointer (some ⟨q, 0, none⟩)) ∧ HashAt w' w.heap.size q S r n ∧ Below w.heap.size w w' := by
  obtain ⟨hBp, rv, f, hown, hrow, hf, hf8, hf9⟩ := hH
  have hpl := hrow.lt
  have cs : ∀ j, j < 8 → w.cell? ⟨p, j, none⟩ = some (.int .u32 (S j)) := fun j hj => by rw [hrow.cell (by omega), hf j hj]
  have d0 := cs 0 (by omega)
  have d1 := cs 1 (by omega)
  have d2 := cs 2 (by omega)
  have d3 := cs 3 (by omega)
  have d4 := cs 4 (by omega)
  have d5 := cs 5 (by omega)
  have d6 := cs 6 (by omega)
  have d7 := cs 7 (by omega)
  have d8 := hrow.cell (i := 8) (by omega)
  have d9 := hrow.cell (i := 9) (by omega)
  rw [hf8] at d8
  rw [hf9] at d9
  clear cs hf hf8 hf9 hrow
  obtain ⟨A, c, rfl⟩ := hown.form
  obtain ⟨i0, hi, hz0, hz1, hz2⟩ := info_parts info5
  have HI := Lib.hid (And.intro hi (And.intro hz0 (And.intro hz1 hz2)))
  clear hi hz0 hz1 hz2
  go_enter Try.func16, Try.ntmps16
  go_wp2
  go_region_held3 (fun w' => w'.cell? ⟨p, 0, none⟩ = some (.int .u32 (S 0)) ∧ w'.cell? ⟨p, 1, none⟩ = some (.int .u32 (S 1)) ∧ w'.cell? ⟨p, 2, none⟩ = some (.int .u32 (S 2)) ∧ w'.cell? ⟨p, 3, none⟩ = some (.int .u32 (S 3)) ∧ w'.cell? ⟨p, 4, none⟩ = some (.int .u32 (S 4)) ∧ w'.cell? ⟨p, 5, none⟩ = some (.int .u32 (S 5)) ∧ w'.cell? ⟨p, 6, none⟩ = some (.int .u32 (S 6)) ∧ w'.cell? ⟨p, 7, none⟩ = some (.int .u32 (S 7)) ∧ w'.cell? ⟨p, 8, none⟩ = some (.slice A r.length c) ∧ w'.cell? ⟨p, 9, none⟩ = some (.int .i64 n)) (go_keep) ((first | (refine step_append_Own (.tmp 9) (.tmp 13) 42 42 rfl w.heap.size 5 i0 (.int .u8 0) 1 1 Try.underlying42 HI.out.1 HI.out.2.1 HI.out.2.2.1 HI.out.2.2.2 rfl _ 0 [] rfl (by exact own_empty _ 5) _ r.length (cells r) rfl (by exact Own.src (hown.below (by exact ((Below.refl _ _).drew.alloc (Nat.le_refl _) _))) Try.underlying42 (cells_one r)) (by unfold maxLen; omega) (by omega) (by simp) ?_; intro v' w' hv' hg'; have hbw : Below w.heap.size w w' := ((Below.refl _ _).drew.alloc (Nat.le_refl _) _).grown hg' (by simp) (fun k hk => Nat.le_of_eq (Option.some.inj hk)); have q0 := (hbw.cell (p := ⟨p, 0, none⟩) hpl).trans d0; have q1 := (hbw.cell (p := ⟨p, 1, none⟩) hpl).trans d1; have q2 := (hbw.cell (p := ⟨p, 2, none⟩) hpl).trans d2; have q3 := (hbw.cell (p := ⟨p, 3, none⟩) hpl).trans d3; have q4 := (hbw.cell (p := ⟨p, 4, none⟩) hpl).trans d4; have q5 := (hbw.cell (p := ⟨p, 5, none⟩) hpl).trans d5; have q6 := (hbw.cell (p := ⟨p, 6, none⟩) hpl).trans d6; have q7 := (hbw.cell (p := ⟨p, 7, none⟩) hpl).trans d7; have q8 := (hbw.cell (p := ⟨p, 8, none⟩) hpl).trans d8; have q9 := (hbw.cell (p := ⟨p, 9, none⟩) hpl).trans d9; obtain ⟨A', c', hv2⟩ := hv'.form; subst hv2)))
  have hH := copied (S := S) (n := n) (by rw [List.nil_append, Nat.zero_add] at hv'; exact hv') hbw
  clear hbw q0 q1 q2 q3 q4 q5 q6 q7 q8 q9
  go_wp2
  go_ret
  exact ⟨_, rfl, hH.1, hH.2⟩
end Go.Proofs.Ytnddocchfkhlbaa
