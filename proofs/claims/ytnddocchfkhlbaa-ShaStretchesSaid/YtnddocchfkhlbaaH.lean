import Derived.Test.YtnddocchfkhlbaaS2
import Derived.Test.YtnddocchfkhlbaaO
/-! A Hash in memory. -/
namespace Go.Proofs.Ytnddocchfkhlbaa
open Go.RowKit

def bytesOf (l : List UInt8) (j : Nat) : Int := ((l.getD j 0).toNat : Int)
def cells (l : List UInt8) : List Value := l.map fun b => Value.int .u8 b.toNat
/-- All whole blocks taken in. -/
def fullS (S : Nat → Int) (l : List UInt8) : Nat → Int := if 64 ≤ l.length then fullS (blk (bytesOf l) S) (l.drop 64) else S
termination_by l.length
decreasing_by simp; omega
/-- What is left behind them. -/
def restS (l : List UInt8) : List UInt8 := if 64 ≤ l.length then restS (l.drop 64) else l
termination_by l.length
decreasing_by simp; omega

/-- In block p lies a Hash: the words S, the bytes r under way, n bytes in all; what it has lies in blocks from B on. -/
def HashAt (w : World) (B p : Nat) (S : Nat → Int) (r : List UInt8) (n : Nat) : Prop :=
  B ≤ p ∧ ∃ (rv : Value) (f : Nat → Value), Own w B 5 1 rv r.length (cells r) ∧ w.rowIs p 52 10 f ∧ (∀ j, j < 8 → f j = .int .u32 (S j)) ∧ f 8 = rv ∧ f 9 = .int .i64 n

theorem HashAt.lt {w : World} {B p : Nat} {S : Nat → Int} {r : List UInt8} {n : Nat} (h : HashAt w B p S r n) : p < w.heap.size := by
  obtain ⟨_, rv, f, _, hr, _⟩ := h
  exact hr.lt
theorem cells_length (l : List UInt8) : (cells l).length = l.length := by simp [cells]
theorem cells_at (l : List UInt8) (j : Nat) (h : j < l.length) : (cells l)[j]? = some (.int .u8 (bytesOf l j)) := by
  simp [cells, bytesOf, h]
theorem bytesOf_range (l : List UInt8) (j : Nat) : 0 ≤ bytesOf l j ∧ bytesOf l j ≤ 255 := by
  unfold bytesOf
  have := (l.getD j 0).toNat_lt
  omega
/-- The row of a Hash and the row of its bytes are two. -/
theorem rest_ne {w : World} {B p : Nat} {rv : Value} {n : Nat} {xs : List Value} {f : Nat → Value} (h : Own w B 5 1 rv n xs) (hr : w.rowIs p 52 10 f) : ∀ k, rv.ownBlock = some k → k ≠ p := by
  intro k hk e
  obtain ⟨_, _, cur, hc⟩ := h.block k hk
  obtain ⟨c, hb, _⟩ := hr
  subst e
  rw [hc] at hb
  injection hb with hb
  injection hb with _ hb _
  cases hb

theorem Own.form {w : World} {B : Nat} {e : TypeId} {size : Nat} {v : Value} {n : Nat} {xs : List Value} (h : Own w B e size v n xs) : ∃ A c, v = .slice A n c := by
  rcases h.2 with ⟨rfl, rfl⟩ | ⟨g, off, cap, cur, rfl, _⟩
  · exact ⟨none, 0, rfl⟩
  · exact ⟨_, cap, rfl⟩
theorem Own.at_some {w : World} {B : Nat} {e : TypeId} {size : Nat} {v : Value} {n : Nat} {xs : List Value} (h : Own w B e size v n xs) (hn : 0 < n) : ∃ g off cap, v = .slice (some ⟨g, off, none⟩) n cap ∧ n ≤ cap ∧ cap ≤ maxLen ∧ B ≤ g := by
  rcases h.2 with ⟨rfl, h0⟩ | ⟨g, off, cap, cur, rfl, hb, _, _, h1, h2, _⟩
  · omega
  · exact ⟨g, off, cap, rfl, h1, h2, hb⟩

theorem info5 : (Try.prog.info? 5).map (fun i => (i.zero, i.size, i.bytes)) = some (some (.int .u8 0), 1, 1) := by kernel_rfl

theorem HashAt.mk' {w : World} {B p : Nat} {S : Nat → Int} {r : List UInt8} {n : Nat} {rv : Value} {f : Nat → Value} (hB : B ≤ p) (hown : Own w B 5 1 rv r.length (cells r)) (hrow : w.rowIs p 52 10 f)
    (hf : ∀ j, j < 8 → f j = .int .u32 (S j)) (h8 : f 8 = rv) (h9 : f 9 = .int .i64 n) : HashAt w B p S r n := ⟨hB, rv, f, hown, hrow, hf, h8, h9⟩

/-- What is added, ahead of the blocks. -/
theorem added {w' : World} {B p : Nat} {S : Nat → Int} {r : List UInt8} {n m : Nat} {s : List UInt8} {f : Nat → Value} {v' : Value} (hB : B ≤ p) (hm : m = s.length)
    (hrow : w'.rowIs p 52 10 (fun j => if j = 9 then Value.int .i64 ((n : Int) + (m : Int)) else f j)) (hf : ∀ j, j < 8 → f j = .int .u32 (S j)) (hown : Own w' B 5 1 v' (r.length + m) (cells r ++ cells s)) :
    HashAt (w'.setCell ⟨p, 8, none⟩ v') B p S (r ++ s) (n + m) := by
  have hne := rest_ne hown hrow
  refine ⟨hB, v', _, ?_, hrow.set 8 v', ?_, ?_, ?_⟩
  · have := hown.kept (grown_setCell w' p 8 v') (fun k hk e => hne k hk (Option.some.inj e))
    subst hm
    simpa [cells] using this
  · intro j hj
    rw [if_neg (by omega), if_neg (by omega)]
    exact hf j hj
  · simp
  · simp

set_option maxRecDepth 100000 in
set_option maxHeartbeats 1000000 in
theorem add_any (w : World) (B p : Nat) (S : Nat → Int) (r : List UInt8) (n : Nat) (s : ByteArray) (hH : HashAt w B p S r n) (h1 : r.length + s.size ≤ 140737488355328) (h2 : n + s.size ≤ 140737488355328) :
    Calls Try.prog 13 #[.pointer (some ⟨p, 0, none⟩), .string s] w fun e w' => e = .returned (.tuple #[]) ∧ HashAt w' B p (fullS S (r ++ s.data.toList)) (restS (r ++ s.data.toList)) (n + s.size) ∧ Below B w w' := by
  obtain ⟨hBp, rv, f, hown, hrow, hf, hf8, hf9⟩ := hH
  have hpl := hrow.lt
  have hne := Lib.hid (rest_ne hown hrow)
  have c9 := hrow.cell (i := 9) (by omega)
  have f9 := hrow.frozen 9
  have c8 := hrow.cell (i := 8) (by omega)
  have f8 := hrow.frozen 8
  rw [hf9] at c9
  rw [hf8] at c8
  have HF := Lib.hid hf
  have H8 := Lib.hid hf8
  clear hf hf8 hf9
  obtain ⟨A, c, hrv⟩ := hown.form
  obtain ⟨i0, hi, hz0, hz1, hz2⟩ := info_parts info5
  have HI := Lib.hid (And.intro hi (And.intro hz0 (And.intro hz1 hz2)))
  clear hi hz0 hz1 hz2
  subst hrv
  go_enter Try.func13, Try.ntmps13
  go_wp2_with (at_builtin; refine wpList_append_Own rfl (.tmp 19) (.tmp 20) 42 9 rfl B 5 i0 (.int .u8 0) 1 1 Try.underlying42 HI.out.1 HI.out.2.1 HI.out.2.2.1 HI.out.2.2.2 rfl _ _ _ rfl (hown.kept (grown_setCell w p 9 _) (fun k hk e => hne.out k hk (Option.some.inj e))) (.string s) s.size (byteCells s) rfl (Src.ofString _ Try.underlying9 s) (by unfold maxLen; omega) (by omega) (by simp; omega) ?_)
  intro v' w1 hown1 hg1
  have hrow1 := row_grown (hrow.set 9 _) hg1 (fun e => hne.out p e.symm rfl)
  have hB1 : Below B w w1 := ((Below.refl B w).setCell hBp _).grown hg1 (by simp; omega) (fun k hk => ((hown.kept (grown_setCell w p 9 (.int .i64 0)) (fun k hk e => hne.out k hk (Option.some.inj e))).block k hk).1)
  have d8 := hrow1.cell (i := 8) (by omega)
  have g8 := hrow1.frozen 8
  rw [if_neg (by omega), H8.out] at d8
  have hH1 := added hBp (by simp) hrow1 HF.out hown1
  have hB2 := hB1.setCell (p := ⟨p, 8, none⟩) hBp v'
  obtain ⟨A', c', hv'⟩ := hown1.form
  subst hv'
  clear hrow1 hown1 c9 f9 c8 f8 hown hrow hg1 hB1
  go_wp2
  generalize hW : w1.setCell ⟨p, 8, none⟩ (.slice A' (r.length + s.size) c') = w2 at *
  clear hW d8 g8
  generalize hL : r ++ s.data.toList = L at *
  have HL := Lib.hid hL
  clear hL
  go_loopg [] L.length (fun k wr => ∃ (S' : Nat → Int) (r' : List UInt8), r'.length ≤ k ∧ r'.length ≤ L.length ∧ HashAt wr B p S' r' (n + s.size) ∧ fullS S' r' = fullS S L ∧ restS r' = restS L ∧ Below B w wr)
  case atStart => exact ⟨S, L, Nat.le_refl _, Nat.le_refl _, hH1, rfl, rfl, hB2⟩
  case round =>
    have hLl : L.length ≤ 140737488355328 := by have := HL.out; subst this; simp; omega
    clear hH1 hB2
    obtain ⟨S', r', hk, hrl, ⟨_, rv, f', hown, hrow, hf, hf8, hf9⟩, hfull, hrest, hbel⟩ := hrel
    have HE := Lib.hid (And.intro hfull hrest)
    clear hfull hrest
    have hpl := hrow.lt
    have HF' := Lib.hid hf
    have H8' := Lib.hid hf8
    have H9' := Lib.hid hf9
    have c8 := hrow.cell (i := 8) (by omega)
    have f8 := hrow.frozen 8
    rw [hf8] at c8
    clear hf hf8 hf9
    by_cases hlt : 64 ≤ r'.length
    · obtain ⟨g, off, cap, rfl, hnc, hcm, hgB⟩ := hown.at_some (by omega)
      have hne' := Lib.hid (rest_ne hown hrow g rfl)
      unfold maxLen at hcm
      have hcm64 : 64 ≤ cap := by omega
      go_wp2
      refine wp_region_quiet_tail (C := fun w' => ∃ n, w' = wr.drewN n) 8 _ rfl (by kernel_rfl) (by kernel_rfl) (by kernel_rfl) ⟨1, rfl⟩ ?_
      simp only [List.take_succ_cons, List.take_zero]
      repeat (go_big_quiet_step (fail))
      refine wpQuiet_nil ?_
      rintro _ ⟨nq, rfl⟩
      go_wp2_with fail
      refine (block_any (wr.drewN nq) p S' f' g off cap (bytesOf r') hcm64 (hrow.drewN' _) HF'.out (fun j hj => (hown.cells rfl j _ (cells_at r' j (by omega)))) (bytesOf_range r')).mono ?_
      rintro e w4 ⟨rfl, hg4, hrow4⟩
      have hown4 := hown.kept (grown_trans (grown_drewN wr nq _) hg4) (fun k hk e => hne'.out (by simp [Value.ownBlock] at hk; rw [hk]; exact Option.some.inj e))
      have hb4 : Below B w w4 := (hbel.trans (Below.drewN' _ _ _)).grown hg4 (by have := hrow.lt; have : (wr.drewN nq).heap.size = wr.heap.size := rfl; omega) (fun k hk => by obtain rfl := Option.some.inj hk; exact hBp)
      have d8 := hrow4.cell (i := 8) (by omega)
      have g8 := hrow4.frozen 8
      rw [if_neg (by omega), H8'.out] at d8
      clear hg4 c8 f8 hbel
      have hfin : ∀ off', off' = off + 64 * 1 ∨ (cap = 64 ∧ off' = off) → HashAt (w4.setCell ⟨p, 8, none⟩ (.slice (some ⟨g, off', none⟩) (r'.length - 64) (cap - 64))) B p (blk (bytesOf r') S') (r'.drop 64) (n + s.size) := fun off' ho => by
        have h5 := Own.drop hown4 64 hlt off' ho
        have h6 := h5.kept (grown_setCell w4 p 8 (.slice (some ⟨g, off', none⟩) (r'.length - 64) (cap - 64))) (fun k hk e => hne'.out (by simp [Value.ownBlock] at hk; rw [hk]; exact Option.some.inj e))
        refine ⟨hBp, .slice (some ⟨g, off', none⟩) (r'.length - 64) (cap - 64), _, ?_, hrow4.set 8 _, ?_, by simp, ?_⟩
        · simpa [cells] using h6
        · intro j hj
          rw [if_neg (by omega), if_pos hj]
        · rw [if_neg (by omega), if_neg (by omega), H9'.out]
      have HFIN := Lib.hid hfin
      have hf1 : fullS (blk (bytesOf r') S') (r'.drop 64) = fullS S L := by rw [← HE.out.1, fullS.eq_1 S' r', if_pos hlt]
      have hf2 : restS (r'.drop 64) = restS L := by rw [← HE.out.2, restS.eq_1 r', if_pos hlt]
      have HE2 := Lib.hid (And.intro hf1 hf2)
      clear hfin hf1 hf2
      by_cases hc : cap = 64
      · have hc' : ¬ 64 < cap := by omega
        subst hc
        go_wp2
        go_roundg (r'.drop 64).length
        case measure => simp; omega
        case rel => exact ⟨_, _, Nat.le_refl _, by simp; omega, (by have h := HFIN.out off (.inr (by simp)); rw [show r'.length - 64 = 0 by omega, Nat.sub_self] at h; exact h), HE2.out.1, HE2.out.2, hb4.setCell hBp _⟩
      · have hc' : 64 < cap := by omega
        go_wp2
        go_roundg (r'.drop 64).length
        case measure => simp; omega
        case rel => exact ⟨_, _, Nat.le_refl _, by simp; omega, HFIN.out (off + 64) (.inl rfl), HE2.out.1, HE2.out.2, hb4.setCell hBp _⟩
    · obtain ⟨A2, c2, rfl⟩ := hown.form
      have hf1 : fullS S' r' = S' := by rw [fullS.eq_1, if_neg hlt]
      have hf2 : restS r' = r' := by rw [restS.eq_1, if_neg hlt]
      have hfin : HashAt wr B p (fullS S (r ++ s.data.toList)) (restS (r ++ s.data.toList)) (n + s.size) := by
        rw [HL.out, ← HE.out.1, ← HE.out.2, hf1, hf2]
        exact ⟨hBp, _, f', hown, hrow, HF'.out, H8'.out, H9'.out⟩
      have HFIN := Lib.hid hfin
      clear hf1 hf2 hfin
      go_wp2
      go_end0
      exact ⟨rfl, HFIN.out, hbel⟩
end Go.Proofs.Ytnddocchfkhlbaa
