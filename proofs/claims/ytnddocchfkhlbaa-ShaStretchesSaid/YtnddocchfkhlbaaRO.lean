import Derived.Deep.AppendSrc
import Derived.Below
import Derived.OwnWalk
import Derived.Lib.ConvBytes
import Derived.Test.YtnddocchfkhlbaaH2
/-! As O, where what is frozen lies behind the array (a []byte made of a string). -/
namespace Go.Proofs.Ytnddocchfkhlbaa
open Go Go.RowKit

/-- 'v', of n elements of 'size' cells each (type e), lies in an array of the call's own (block B or later), which nobody else holds; its cells are xs. -/
def OwnF (w : World) (B : Nat) (e : TypeId) (size : Nat) (v : Value) (n : Nat) (xs : List Value) : Prop :=
  xs.length = n * size ∧
  ((v = .slice none 0 0 ∧ n = 0) ∨
   ∃ g off cap cur fr, v = .slice (some ⟨g, off, none⟩) n cap ∧ B ≤ g ∧ w.heap[g]? = some (.cells cur e fr) ∧ (fr = ((0 : Nat), (0 : Nat)) ∨ cur.size ≤ fr.1) ∧ off + cap * size ≤ cur.size ∧ n ≤ cap ∧ cap ≤ maxLen ∧ ∀ j, j < n * size → cur[off + j]? = xs[j]?)

theorem OwnF.nil (w : World) (B : Nat) (e : TypeId) (size : Nat) : OwnF w B e size (.slice none 0 0) 0 [] := ⟨by simp, .inl ⟨rfl, rfl⟩⟩
theorem OwnF.block {w : World} {B : Nat} {e : TypeId} {size : Nat} {v : Value} {n : Nat} {xs : List Value} (h : OwnF w B e size v n xs) : ∀ k, v.ownBlock = some k → B ≤ k ∧ k < w.heap.size ∧ ∃ cur fr, w.heap[k]? = some (.cells cur e fr) := by
  intro k hk
  rcases h.2 with ⟨rfl, _⟩ | ⟨g, off, cap, cur, fr, rfl, hb, hg, _⟩
  · simp [Value.ownBlock] at hk
  · simp [Value.ownBlock] at hk
    subst hk
    exact ⟨hb, (Array.getElem?_eq_some_iff.1 hg).1, cur, fr, hg⟩
theorem OwnF.kept {w w' : World} {r : Option Nat} {B : Nat} {e : TypeId} {size : Nat} {v : Value} {n : Nat} {xs : List Value} (h : OwnF w B e size v n xs) (hg : w.grownBy w' r) (hne : ∀ k, v.ownBlock = some k → some k ≠ r) : OwnF w' B e size v n xs := by
  refine ⟨h.1, ?_⟩
  rcases h.2 with hn | ⟨g, off, cap, cur, fr, rfl, hb, hgg, rest⟩
  · exact .inl hn
  · refine .inr ⟨g, off, cap, cur, fr, rfl, hb, ?_, rest⟩
    rw [hg.block g (Array.getElem?_eq_some_iff.1 hgg).1 (hne g rfl)]
    exact hgg
theorem OwnF.below {w w' : World} {B : Nat} {e : TypeId} {size : Nat} {v : Value} {n : Nat} {xs : List Value} (h : OwnF w B e size v n xs) (hg : Below w.heap.size w w') : OwnF w' B e size v n xs :=
  h.kept (r := none) ⟨hg.os, hg.tape, hg.output, hg.size, fun i hi _ => hg.block i hi⟩ (fun _ _ => by simp)
theorem OwnF.cells {w : World} {B : Nat} {e : TypeId} {size : Nat} {v : Value} {n : Nat} {xs : List Value} (h : OwnF w B e size v n xs) {g off len cap : Nat} (hv : v = .slice (some ⟨g, off, none⟩) len cap) :
    ∀ j u, xs[j]? = some u → w.cell? ⟨g, off + j, none⟩ = some u := by
  intro j u hu
  rcases h.2 with ⟨rfl, _⟩ | ⟨g', off', cap', cur, fr, rfl, _, hg, _, _, _, _, hc⟩
  · cases hv
  · injection hv with h1 h2 h3
    injection h1 with h1
    injection h1 with h1 h4
    subst h1 h4
    have hj : j < n * size := by
      rw [← h.1]
      exact (List.getElem?_eq_some_iff.1 hu).1
    simp [World.cell?, hg, hc j hj, hu]
section
variable {P : Program}

theorem cellsF_setCells_row (w : World) (b : Nat) (t : TypeId) (fr : Nat × Nat) : ∀ (vs : List Value) (o : Nat) (cur : Array Value), w.heap[b]? = some (.cells cur t fr) → o + vs.length ≤ cur.size →
    ∃ cur', (w.setCells b o vs).heap[b]? = some (.cells cur' t fr) ∧ cur'.size = cur.size ∧ (∀ j, j < vs.length → cur'[o + j]? = vs[j]?) ∧ (∀ j, j < o → cur'[j]? = cur[j]?) ∧ (∀ k, k ≠ b → (w.setCells b o vs).heap[k]? = w.heap[k]?) ∧
      (w.setCells b o vs).heap.size = w.heap.size ∧ (w.setCells b o vs).os = w.os ∧ (w.setCells b o vs).tape = w.tape ∧ (w.setCells b o vs).output = w.output := by
  intro vs
  induction vs generalizing w with
  | nil => intro o cur h _; exact ⟨cur, h, rfl, fun j hj => by simp at hj, fun _ _ => rfl, fun _ _ => rfl, rfl, rfl, rfl, rfl⟩
  | cons v vs ih =>
    intro o cur h hfit
    simp only [List.length_cons] at hfit
    obtain ⟨cur', h1, h2, h3, h4, h5, h6, h7, h8, h9⟩ := ih (w.setCell ⟨b, o, none⟩ v) (o + 1) (cur.setIfInBounds o v) (by
      simp [World.setCell, Array.getElem?_modify, h]) (by simp; omega)
    refine ⟨cur', h1, by rw [h2]; simp, fun j hj => ?_, fun j hj => ?_, fun k hk => ?_, ?_, h7, h8, h9⟩
    · cases j with
      | zero =>
        have := h4 o (by omega)
        rw [Array.getElem?_setIfInBounds, if_pos rfl, if_pos (by omega)] at this
        simpa using this
      | succ j =>
        have := h3 j (by simp at hj; omega)
        rw [show o + (j + 1) = o + 1 + j by omega]
        simpa using this
    · rw [h4 j (by omega), Array.getElem?_setIfInBounds, if_neg (by omega)]
    · have := h5 k hk
      rw [show (w.setCells b o (v :: vs)) = (w.setCell ⟨b, o, none⟩ v).setCells b (o + 1) vs from rfl, this, heap_setCell_other w ⟨b, o, none⟩ k v hk]
    · have : (w.setCell ⟨b, o, none⟩ v).heap.size = w.heap.size := by simp [World.setCell]
      rw [show (w.setCells b o (v :: vs)) = (w.setCell ⟨b, o, none⟩ v).setCells b (o + 1) vs from rfl, h6, this]

/-- Appending to it, whatever is appended. -/
theorem run_append_OwnF (w : World) (B : Nat) (t tx ty e : TypeId) (i : TypeInfo) (z : Value) (size bytes : Nat) (ht : P.underlying t = some (.slice e)) (hi : P.info? e = some i) (hz : i.zero = some z)
    (hsize : i.size = size) (hby : i.bytes = bytes) (hzs : z.cells.size = size) (v : Value) (n : Nat) (xs : List Value) (hown : OwnF w B e size v n xs) (x : Value) (m : Nat) (news : List Value) (hs : Src P size tx x m news w)
    (h63 : n + m ≤ maxLen) (hbytes : (n + m) * bytes ≤ 140737488355328) (hbase : B ≤ w.heap.size) :
    ∃ v' w', (Builtin.append_ #[t, tx] ty #[v, x]).run P w = .ok v' w' ∧ OwnF w' B e size v' (n + m) (xs ++ news) ∧ w.grownBy w' v.ownBlock := by
  subst hsize
  subst hby
  have hlen : (xs ++ news).length = (n + m) * i.size := by rw [List.length_append, hown.1, hs.newsLen, Nat.add_mul]
  have hzc : ∀ q, (Builtin.zeroCells z.cells q).size = q * i.size := fun q => by rw [size_zeroCells, hzs]
  -- a new array
  have grown : ∀ (old : Nat), old < n + m → ∀ (row : Option Nat),
      OwnF (w.drew.alloc (.cells ((xs ++ news).toArray ++ Builtin.zeroCells z.cells (grownCap w (n + m) old e - (n + m))) e)) B e i.size
        (.slice (some ⟨w.heap.size, 0, none⟩) (n + m) (grownCap w (n + m) old e)) (n + m) (xs ++ news) ∧
      w.grownBy (w.drew.alloc (.cells ((xs ++ news).toArray ++ Builtin.zeroCells z.cells (grownCap w (n + m) old e - (n + m))) e)) row := by
    intro old ho row
    have hge := grownCap_ge w (n + m) old e
    have hcm := grownCap_le_maxLen w (n + m) old e h63
    refine ⟨⟨hlen, .inr ⟨w.heap.size, 0, _, _, (0, 0), rfl, hbase, heap_alloc_new w.drew _, .inl rfl, ?_, hge, hcm, fun j hj => ?_⟩⟩, ⟨rfl, rfl, rfl, by simp, fun k hk _ => by first | exact heap_alloc_old w.drew _ k hk | exact heap_alloc_old w.drew _ hk⟩⟩
    · rw [Array.size_append, hzc, List.size_toArray, hlen, Nat.sub_mul]
      have : (n + m) * i.size ≤ grownCap w (n + m) old e * i.size := Nat.mul_le_mul_right _ hge
      omega
    · rw [Nat.zero_add, Array.getElem?_append_left (by simp only [List.size_toArray]; omega), List.getElem?_toArray]
  rcases hown.2 with ⟨rfl, rfl⟩ | ⟨g, off, cap, cur, fr, rfl, hbg, hg, hfr0, hfit, hnc, hcm, hc⟩
  · have hx : xs = [] := List.eq_nil_of_length_eq_zero (by simpa using hown.1)
    subst hx
    by_cases hm : m = 0
    · subst hm
      have hn : news = [] := List.eq_nil_of_length_eq_zero (by simpa using hs.newsLen)
      subst hn
      refine ⟨.slice none 0 0, w, ?_, OwnF.nil w B e i.size, ⟨rfl, rfl, rfl, Nat.le_refl _, fun _ _ _ => rfl⟩⟩
      have h1 := hs.cells
      have h2 := hs.len w
      rcases hs.kind with ⟨e', hk⟩ | hk <;> simp [Builtin.append_, run_underlying ht, run_underlying hk, sizeOf, typeInfo, hi, h1, h2]
    · have hr := run_append_grow_src (P := P) w t tx ty e i z ht hi hz none 0 0 [] (run_firstCells_none _ _ _ _ _) x m news hs (by omega) (by unfold maxLen at h63; omega) (growslice_fits (by omega) hbytes)
      have hgr := grown 0 (by omega) (Value.ownBlock (.slice none 0 0))
      exact ⟨_, _, hr, hgr.1, hgr.2⟩
  · by_cases hroom : n + m ≤ cap
    · have hmul : (n + m) * i.size ≤ cap * i.size := Nat.mul_le_mul_right _ hroom
      rw [Nat.add_mul] at hmul
      have hnl := hs.newsLen
      have hcell : ∀ j, j < news.length → (w.cell? ⟨g, off + n * i.size + j, none⟩).isSome = true := fun j hj => by
        have : off + n * i.size + j < cur.size := by omega
        simp [World.cell?, hg, this]
      have hfr : ∀ j, j < news.length → w.frozen? ⟨g, off + n * i.size + j, none⟩ = false := fun j hj => by
        have hj2 : off + n * i.size + j < cur.size := by omega
        rcases hfr0 with rfl | h0
        · simp [World.frozen?, hg]
        · simp [World.frozen?, hg]; omega
      have hr := run_append_room_src (P := P) w t tx ty e i ht hi g off n cap x m news hs hroom hcell hfr
      obtain ⟨cur', h1, h2, h3, h4, h5, h6, h7, h8, h9⟩ := cellsF_setCells_row w g e fr news (off + n * i.size) cur hg (by omega)
      refine ⟨_, _, hr, ⟨hlen, .inr ⟨g, off, cap, cur', fr, rfl, hbg, h1, by rw [h2]; exact hfr0, by omega, hroom, hcm, fun j hj => ?_⟩⟩, ⟨h7, h8, h9, by omega, fun k _ hk => h5 k (fun e => hk (by simp [Value.ownBlock, e]))⟩⟩
      rw [Nat.add_mul] at hj
      by_cases hjn : j < n * i.size
      · rw [h4 _ (by omega), hc j hjn, List.getElem?_append_left (by rw [hown.1]; exact hjn)]
      · rw [List.getElem?_append_right (by rw [hown.1]; omega), hown.1, ← h3 (j - n * i.size) (by omega)]
        congr 1
        omega
    · have holds : (Builtin.firstCells i.size n (.slice (some ⟨g, off, none⟩) n cap)).run P w.drew = .ok xs.toArray w.drew :=
        run_firstCells_some w.drew i.size n ⟨g, off, none⟩ n cap xs hown.1 (fun j u hu => by
          have hadd : (⟨g, off, none⟩ : Addr).add j = ⟨g, off + j, none⟩ := by unfold Addr.add; split <;> simp_all
          rw [hadd]
          exact hown.cells rfl j u hu)
      have hr := run_append_grow_src (P := P) w t tx ty e i z ht hi hz (some ⟨g, off, none⟩) n cap xs holds x m news hs (by omega) (by unfold maxLen at h63; omega) (growslice_fits (by omega) hbytes)
      have hgr := grown cap (by omega) (Value.ownBlock (.slice (some ⟨g, off, none⟩) n cap))
      exact ⟨_, _, hr, hgr.1, hgr.2⟩

/-- The same, for the walk. -/
theorem wpList_append_OwnF {w : World} {ops : Array Oper} {rest : List Oper} {o : Oper} {a : Act} {Q : Exit → Act → World → Prop} (hgd : o.guard = none) (sl x : Operand) (t tx : TypeId)
    (ho : o.op = .call { callee := .builtin .append, args := #[sl, x], argTypes := #[t, tx] })
    (B : Nat) (e : TypeId) (i : TypeInfo) (z : Value) (size bytes : Nat) (ht : P.underlying t = some (.slice e)) (hi : P.info? e = some i) (hz : i.zero = some z) (hsize : i.size = size) (hby : i.bytes = bytes) (hzs : z.cells.size = size)
    (v : Value) (n : Nat) (xs : List Value) (hsl : a.eval sl = v) (hown : OwnF w B e size v n xs) (xv : Value) (m : Nat) (news : List Value) (hx : a.eval x = xv) (hs : Src P size tx xv m news w)
    (h63 : n + m ≤ maxLen) (hbytes : (n + m) * bytes ≤ 140737488355328) (hbase : B ≤ w.heap.size)
    (h : ∀ v' w', OwnF w' B e size v' (n + m) (xs ++ news) → w.grownBy w' v.ownBlock → wpList P ops Q rest (a.put o.dst v') w') : wpList P ops Q (o :: rest) a w := by
  refine wpList_plain hgd fun K hK => ?_
  obtain ⟨v', w', hr, h2, h3⟩ := run_append_OwnF (P := P) w B t tx o.type e i z size bytes ht hi hz hsize hby hzs v n xs hown xv m news hs h63 hbytes hbase
  unfold Oper.wp execOp
  simp only [ho, resolve, invoke, builtin, Sem.run_bind, Sem.run_pure, Result.andThen_ok, List.map_toArray, List.map_cons, List.map_nil, hsl, hx, hr]
  exact hK _ _ (h v' w' h2 h3)
end

theorem OwnF.of_own {w : World} {B : Nat} {e : TypeId} {size : Nat} {v : Value} {n : Nat} {xs : List Value} (h : Own w B e size v n xs) : OwnF w B e size v n xs := by
  refine ⟨h.1, ?_⟩
  rcases h.2 with h | ⟨g, off, cap, cur, rfl, h1, h2, h3⟩
  · exact .inl h
  · exact .inr ⟨g, off, cap, cur, (0, 0), rfl, h1, h2, .inl rfl, h3⟩
/-- A string's bytes, made anew. -/
theorem ownF_bytes (w : World) (s : ByteArray) (hs : s.size ≤ maxLen) : OwnF (Lib.bytesWorld w 5 s) w.heap.size 5 1 (.slice (some ⟨w.heap.size, 0, none⟩) s.size (grownCap w s.size 0 5)) s.size (cells s.data.toList) := by
  have hge := grownCap_ge w s.size 0 5
  have hsz : (Lib.bytesCells w 5 s).size = grownCap w s.size 0 5 := by
    unfold Lib.bytesCells
    rw [Array.size_append, Array.size_map, Array.size_replicate]
    have : s.data.size = s.size := rfl
    omega
  have hl : s.data.toList.length = s.size := by simp
  refine ⟨by rw [cells_length, hl, Nat.mul_one], .inr ⟨w.heap.size, 0, _, _, _, rfl, Nat.le_refl _, Lib.bytesWorld_at_new w 5 s, .inr (Nat.le_refl _), by omega, hge, grownCap_le_maxLen w s.size 0 5 hs, fun j hj => ?_⟩⟩
  rw [Nat.mul_one] at hj
  rw [Nat.zero_add, cells_at _ _ (by omega)]
  unfold Lib.bytesCells bytesOf
  rw [Array.getElem?_append_left (by rw [Array.size_map]; exact hj), Array.getElem?_map]
  have : s.data[j]? = some (s.data.toList.getD j 0) := by
    rw [← Array.getElem?_toList, List.getD_eq_getElem?_getD, List.getElem?_eq_getElem (by omega)]
    rfl
  rw [this]
  rfl
theorem below_bytes (w : World) (s : ByteArray) : Below w.heap.size w (Lib.bytesWorld w 5 s) :=
  ⟨rfl, rfl, rfl, by rw [Lib.bytesWorld_size]; omega, fun k hk => Lib.bytesWorld_at_old w 5 s k hk⟩
end Go.Proofs.Ytnddocchfkhlbaa
