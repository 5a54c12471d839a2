import Derived.Test.YtcgmlcblcioaeaaT
import Derived.Deep.QuietTactic
import Derived.Laws.StructEq
import Derived.ChangeKeysEq
namespace Go.Proofs.Ytcgmlcblcioaeaa
open Go.RowKit

def Pc.cell (p : Pc) : Nat → Value
  | 0 => .int .i64 p.inn
  | 1 => .int .i64 p.num
  | 2 => .int .i64 p.off
  | _ => .int .i64 p.n
/-- A row of pieces that can be read. -/
def PcsAt (w : World) (v : Value) (l : List Pc) : Prop :=
  ∃ (oa : Option Addr) (cap b off : Nat), v = .slice oa l.length cap ∧ l.length ≤ cap ∧ cap ≤ maxLen ∧ (0 < l.length → oa = some ⟨b, off, none⟩ ∧ b < w.heap.size) ∧
    ∀ i (h : i < l.length) j, j < 4 → w.cell? ⟨b, off + i * 4 + j, none⟩ = some (l[i].cell j)
theorem PcsAt.below {w w' : World} {v : Value} {l : List Pc} (h : PcsAt w v l) (hb : Below w.heap.size w w') : PcsAt w' v l := by
  obtain ⟨oa, cap, b, off, rfl, h1, h2, h3, h4⟩ := h
  refine ⟨oa, cap, b, off, rfl, h1, h2, fun h0 => ⟨(h3 h0).1, Nat.lt_of_lt_of_le (h3 h0).2 hb.size⟩, fun i hi j hj => ?_⟩
  rw [hb.cell (p := ⟨b, off + i * 4 + j, none⟩) (h3 (by omega)).2]
  exact h4 i hi j hj
theorem pcells_at (l : List Pc) : ∀ i (h : i < l.length) j, j < 4 → (pcells l)[i * 4 + j]? = some (l[i].cell j) := by
  induction l with
  | nil => intro i h; simp at h
  | cons a l ih =>
    intro i h j hj
    have e : pcells (a :: l) = a.cells ++ pcells l := rfl
    rw [e]
    cases i with
    | zero =>
      rw [List.getElem?_append_left (by simp [Pc.cells]; omega)]
      match j, hj with
      | 0, _ => rfl
      | 1, _ => rfl
      | 2, _ => rfl
      | 3, _ => rfl
    | succ i =>
      rw [List.getElem?_append_right (by simp [Pc.cells]; omega), show (i + 1) * 4 + j - a.cells.length = i * 4 + j by simp [Pc.cells]; omega]
      exact ih i (by simpa using h) j hj
theorem PcsAt.of_own {w : World} {B : Nat} {v : Value} {l : List Pc} (h : Own w B 41 4 v l.length (pcells l)) : PcsAt w v l := by
  obtain ⟨hl, hn⟩ := h
  rcases hn with ⟨rfl, h0⟩ | ⟨g, off, cap, cur, rfl, hb, hg, hfit, hnc, hcm, hc⟩
  · have e : l = [] := List.eq_nil_of_length_eq_zero h0
    subst e
    exact ⟨none, 0, 0, 0, rfl, Nat.le_refl _, Nat.zero_le _, fun h => absurd h (by simp), fun i hi => absurd hi (by simp)⟩
  · refine ⟨_, cap, g, off, rfl, hnc, hcm, fun _ => ⟨rfl, (Array.getElem?_eq_some_iff.1 hg).1⟩, fun i hi j hj => ?_⟩
    have := hc (i * 4 + j) (by omega)
    rw [pcells_at l i hi j hj] at this
    rw [Nat.add_assoc]
    simp [World.cell?, hg, this]
theorem PcsAt.cells {w wr : World} {l : List Pc} {b off : Nat} (H4 : Hid (∀ i (h : i < l.length) j, j < 4 → w.cell? ⟨b, off + i * 4 + j, none⟩ = some (l[i].cell j))) (hbel : Below w.heap.size w wr) (hb : b < w.heap.size) (k : Nat) (hk : k < l.length) :
    wr.cell? ⟨b, off + k * 4, none⟩ = some (.int .i64 (l[k]'hk).inn) ∧ wr.cell? ⟨b, off + k * 4 + 1, none⟩ = some (.int .i64 (l[k]'hk).num) ∧ wr.cell? ⟨b, off + k * 4 + 2, none⟩ = some (.int .i64 (l[k]'hk).off) ∧
    wr.cell? ⟨b, off + k * 4 + 3, none⟩ = some (.int .i64 (l[k]'hk).n) := by
  have hc : ∀ j, j < 4 → wr.cell? ⟨b, off + k * 4 + j, none⟩ = some ((l[k]'hk).cell j) := fun j hj => by
    rw [hbel.cell (p := ⟨b, off + k * 4 + j, none⟩) hb]; exact H4.out k hk j hj
  exact ⟨hc 0 (by omega), hc 1 (by omega), hc 2 (by omega), hc 3 (by omega)⟩

theorem str41 : Try.prog.underlying 41 = some (.struct (Try.prog.fieldsOf 41)) := by kernel_rfl
theorem held41 : Try.prog.stoodInHeld 41 = false := by kernel_rfl
theorem guard41 : Try.prog.eqGuardType Try.prog.depth 41 = false := by kernel_rfl
theorem fields41 : ((Try.prog.fieldsOf 41).toList.map fun f => (f.name, f.type, f.offset)) = [("In", 3, 0), ("Id", 3, 1), ("Off", 3, 2), ("N", 3, 3)] := by kernel_rfl
theorem eqFields_step (d : Nat) (f : Field) (fs : List Field) (xs ys : Array Value) (a b : Int) (w : World) (hn : f.name ≠ "_") (ht : f.type = 3) (hx : xs[f.offset]? = some (.int .i64 a)) (hy : ys[f.offset]? = some (.int .i64 b)) :
    (Op.eqFields (d + 1) xs ys (f :: fs)).run Try.prog w = if a = b then (Op.eqFields (d + 1) xs ys fs).run Try.prog w else .ok false w := by
  have hk : Try.prog.plainKey 3 = true := by kernel_rfl
  simp only [Op.eqFields, if_pos hn, Sem.run_bind, ht, run_part_plain w hk hx, run_part_plain w hk hy, Result.andThen_ok, run_equalIn_int w d 3 .i64 .i64 a b Try.underlying3]
  by_cases e : a = b
  · subst e; simp
  · simp [e]
theorem list4 {α : Type} (l : List α) (h : l.length = 4) : ∃ a b c d, l = [a, b, c, d] := by
  match l, h with
  | [a, b, c, d], _ => exact ⟨a, b, c, d, rfl⟩
theorem neq_pc (p q : Pc) (w : World) : (binOp .neq 41 (.agg #[.int .i64 p.inn, .int .i64 p.num, .int .i64 p.off, .int .i64 p.n]) (.agg #[.int .i64 q.inn, .int .i64 q.num, .int .i64 q.off, .int .i64 q.n])).run Try.prog w = .ok (.bool (!decide (p = q))) w := by
  rw [run_neq_struct, run_equalIn_agg w 9999 41 _ _ str41 held41]
  have h := fields41
  generalize (Try.prog.fieldsOf 41).toList = fs at h
  obtain ⟨f0, f1, f2, f3, rfl⟩ := list4 fs (by have := congrArg List.length h; simpa using this)
  · simp only [List.map_cons, List.map_nil, List.cons.injEq, Prod.mk.injEq, and_true] at h
    obtain ⟨⟨n0, t0, o0⟩, ⟨n1, t1, o1⟩, ⟨n2, t2, o2⟩, ⟨n3, t3, o3⟩⟩ := h
    rw [eqFields_step 9998 f0 _ _ _ p.inn q.inn w (by rw [n0]; decide) t0 (by rw [o0]; rfl) (by rw [o0]; rfl), eqFields_step 9998 f1 _ _ _ p.num q.num w (by rw [n1]; decide) t1 (by rw [o1]; rfl) (by rw [o1]; rfl),
      eqFields_step 9998 f2 _ _ _ p.off q.off w (by rw [n2]; decide) t2 (by rw [o2]; rfl) (by rw [o2]; rfl), eqFields_step 9998 f3 _ _ _ p.n q.n w (by rw [n3]; decide) t3 (by rw [o3]; rfl) (by rw [o3]; rfl)]
    obtain ⟨a1, a2, a3, a4⟩ := p
    obtain ⟨b1, b2, b3, b4⟩ := q
    simp only [Pc.mk.injEq, Op.eqFields, Sem.run_pure]
    by_cases e1 : a1 = b1 <;> by_cases e2 : a2 = b2 <;> by_cases e3 : a3 = b3 <;> by_cases e4 : a4 = b4 <;> simp [e1, e2, e3, e4]

set_option maxRecDepth 100000 in
set_option maxHeartbeats 1000000 in
theorem samePieces_any (v u : Value) (l r : List Pc) (w : World) (hl : PcsAt w v l) (hr : PcsAt w u r) :
    Calls Try.prog 11 #[v, u] w fun e w' => e = .returned (.bool (decide (l = r))) ∧ Below w.heap.size w w' := by
  obtain ⟨oa, cap, b, off, rfl, h1, h2, h3, h4⟩ := hl
  obtain ⟨oc, capc, c, offc, rfl, k1, k2, k3, k4⟩ := hr
  have H3 := Lib.hid h3
  have H4 := Lib.hid h4
  have K3 := Lib.hid k3
  have K4 := Lib.hid k4
  clear h3 h4 k3 k4
  unfold maxLen at h2 k2
  by_cases hn : l.length = r.length
  · rw [← hn]
    have HN := Lib.hid hn
    have hkc : l.length ≤ capc := by omega
    clear hn k1
    go_enter Try.func11, Try.ntmps11
    go_wp2
    go_loopw [13] (fun i wr => ∃ (k : Nat), i = .int .i64 k ∧ k ≤ l.length ∧ Hid (∀ j (h : j < l.length) (h' : j < r.length), j < k → l[j] = r[j]) ∧ Below w.heap.size w wr) (fun i _ => (l.length - (intOf i).toNat))
    case atStart => exact ⟨0, rfl, by omega, fun j h h' h'' => by omega, Below.refl _ _⟩
    case round =>
      obtain ⟨k, rfl, hk, heq, hbel⟩ := hrel
      by_cases hlt : k < l.length
      · have hlt2 : k < r.length := by have := HN.out; omega
        obtain ⟨rfl, hb⟩ := H3.out (by omega)
        obtain ⟨rfl, hc⟩ := K3.out (by omega)
        obtain ⟨c0, c1, c2, c3⟩ := PcsAt.cells H4 hbel hb k hlt
        obtain ⟨d0, d1, d2, d3⟩ := PcsAt.cells K4 hbel hc k hlt2
        have HM := Lib.hid (And.intro (Eq.refl (l[k]'hlt)) (Eq.refl (r[k]'hlt2)))
        generalize hm : (l[k]'hlt) = m at c0 c1 c2 c3
        generalize hm2 : (r[k]'hlt2) = m2 at d0 d1 d2 d3
        have HE := Lib.hid (And.intro hm hm2)
        clear hm hm2 HM
        have hG := guard41
        have hq : ∀ w : World, (binOp .neq 41 (.agg #[.int .i64 m.inn, .int .i64 m.num, .int .i64 m.off, .int .i64 m.n]) (.agg #[.int .i64 m2.inn, .int .i64 m2.num, .int .i64 m2.off, .int .i64 m2.n])).run Try.prog w = .ok (.bool (!decide (m = m2))) w := neq_pc m m2
        generalize hbm : decide (m = m2) = bm at hq
        have HB := Lib.hid hbm
        clear hbm
        go_wp2
        go_quiet (fail)
        all_goals
          have HH := HE.out
          clear c0 c1 c2 c3 d0 d1 d2 d3 hq hG
          cases bm
          rotate_left
          · have hmm : m = m2 := of_decide_eq_true HB.out
            have hb2 : Below w.heap.size w (wr.drewN nq) := ⟨hbel.os, hbel.tape, hbel.output, hbel.size, hbel.block⟩
            have heq2 : Hid (∀ j (h : j < l.length) (h' : j < r.length), j < k + 1 → l[j] = r[j]) := fun j h h' hj => by
              rcases Nat.lt_or_ge j k with q | q
              · exact heq.out j h h' q
              · obtain rfl : j = k := by omega
                rw [HH.1, HH.2, hmm]
            clear HH hmm
            go_wp2
            go_roundw
            case rel => exact ⟨k + 1, by go_num, by omega, heq2, hb2⟩
            case measure => simp [intOf]; omega
          · have hmm : ¬ m = m2 := of_decide_eq_false HB.out
            have hb2 : Below w.heap.size w (wr.drewN nq) := ⟨hbel.os, hbel.tape, hbel.output, hbel.size, hbel.block⟩
            have e : ¬ l = r := fun h => hmm (by subst h; rw [← HH.1, ← HH.2])
            have HNE := Lib.hid e
            clear HH e hmm
            go_wp2
            go_ret
            exact ⟨by rw [decide_eq_false HNE.out]; rfl, hb2⟩
      · obtain rfl : k = l.length := by omega
        go_wp2
        go_ret
        refine ⟨?_, hbel⟩
        have e : l = r := List.ext_getElem HN.out (fun j h h' => heq.out j h h' h)
        rw [decide_eq_true e]
        rfl
  · go_enter Try.func11, Try.ntmps11
    go_wp2
    go_ret
    have e : ¬ l = r := fun h => hn (by rw [h])
    exact ⟨by rw [decide_eq_false e]; rfl, Below.refl _ _⟩
end Go.Proofs.Ytcgmlcblcioaeaa
