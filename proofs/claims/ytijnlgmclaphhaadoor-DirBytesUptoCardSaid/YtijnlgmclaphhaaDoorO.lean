import Derived.Deep.AppendSrc
import Derived.Below
import Derived.OwnWalk
/-! A slice of the call's own that may begin anywhere in its array. -/
namespace Go.Proofs.YtijnlgmclaphhaaDoor
open Go Go.RowKit

/-- 'v', of n elements of 'size' cells each (type e), lies in an array of the call's own (block B or later), which nobody else holds; its cells are xs. -/
def Own (w : World) (B : Nat) (e : TypeId) (size : Nat) (v : Value) (n : Nat) (xs : List Value) : Prop :=
  xs.length = n * size ∧
  ((v = .slice none 0 0 ∧ n = 0) ∨
   ∃ g off cap cur, v = .slice (some ⟨g, off, none⟩) n cap ∧ B ≤ g ∧ w.heap[g]? = some (.cells cur e (0, 0)) ∧ off + cap * size ≤ cur.size ∧ n ≤ cap ∧ cap ≤ maxLen ∧ ∀ j, j < n * size → cur[off + j]? = xs[j]?)

theorem Own.nil (w : World) (B : Nat) (e : TypeId) (size : Nat) : Own w B e size (.slice none 0 0) 0 [] := ⟨by simp, .inl ⟨rfl, rfl⟩⟩
theorem Own.of_row {w : World} {B : Nat} {e : TypeId} {size : Nat} {v : Value} {n : Nat} {xs : List Value} (h : w.ownsRow B e size v n xs) : Own w B e size v n xs := by
  obtain ⟨hl, h⟩ := h
  refine ⟨hl, ?_⟩
  rcases h with h | ⟨g, cap, cur, rfl, hb, hg, hn, hm, hs, ht⟩
  · exact .inl h
  · refine .inr ⟨g, 0, cap, cur, rfl, hb, hg, by omega, hn, hm, fun j hj => ?_⟩
    rw [← ht, List.getElem?_take, if_pos hj, Nat.zero_add, Array.getElem?_toList]
theorem Own.block {w : World} {B : Nat} {e : TypeId} {size : Nat} {v : Value} {n : Nat} {xs : List Value} (h : Own w B e size v n xs) : ∀ k, v.ownBlock = some k → B ≤ k ∧ k < w.heap.size ∧ ∃ cur, w.heap[k]? = some (.cells cur e (0, 0)) := by
  intro k hk
  rcases h.2 with ⟨rfl, _⟩ | ⟨g, off, cap, cur, rfl, hb, hg, _⟩
  · simp [Value.ownBlock] at hk
  · simp [Value.ownBlock] at hk
    subst hk
    exact ⟨hb, (Array.getElem?_eq_some_iff.1 hg).1, cur, hg⟩
theorem Own.kept {w w' : World} {r : Option Nat} {B : Nat} {e : TypeId} {size : Nat} {v : Value} {n : Nat} {xs : List Value} (h : Own w B e size v n xs) (hg : w.grownBy w' r) (hne : ∀ k, v.ownBlock = some k → some k ≠ r) : Own w' B e size v n xs := by
  refine ⟨h.1, ?_⟩
  rcases h.2 with hn | ⟨g, off, cap, cur, rfl, hb, hgg, rest⟩
  · exact .inl hn
  · refine .inr ⟨g, off, cap, cur, rfl, hb, ?_, rest⟩
    rw [hg.block g (Array.getElem?_eq_some_iff.1 hgg).1 (hne g rfl)]
    exact hgg
theorem Own.below {w w' : World} {B : Nat} {e : TypeId} {size : Nat} {v : Value} {n : Nat} {xs : List Value} (h : Own w B e size v n xs) (hg : Below w.heap.size w w') : Own w' B e size v n xs :=
  h.kept (r := none) ⟨hg.os, hg.tape, hg.output, hg.size, fun i hi _ => hg.block i hi⟩ (fun _ _ => by simp)
theorem Own.cells {w : World} {B : Nat} {e : TypeId} {size : Nat} {v : Value} {n : Nat} {xs : List Value} (h : Own w B e size v n xs) {g off len cap : Nat} (hv : v = .slice (some ⟨g, off, none⟩) len cap) :
    ∀ j u, xs[j]? = some u → w.cell? ⟨g, off + j, none⟩ = some u := by
  intro j u hu
  rcases h.2 with ⟨rfl, _⟩ | ⟨g', off', cap', cur, rfl, _, hg, _, _, _, hc⟩
  · cases hv
  · injection hv with h1 h2 h3
    injection h1 with h1
    injection h1 with h1 h4
    subst h1 h4
    have hj : j < n * size := by
      rw [← h.1]
      exact (List.getElem?_eq_some_iff.1 hu).1
    simp [World.cell?, hg, hc j hj, hu]
/-- Cut off at the head. -/
theorem Own.drop {w : World} {B : Nat} {e : TypeId} {size : Nat} {g off n cap : Nat} {xs : List Value} (h : Own w B e size (.slice (some ⟨g, off, none⟩) n cap) n xs) (k : Nat) (hk : k ≤ n) (off' : Nat) (ho : off' = off + k * size ∨ (cap = k ∧ off' = off)) :
    Own w B e size (.slice (some ⟨g, off', none⟩) (n - k) (cap - k)) (n - k) (xs.drop (k * size)) := by
  have hlen := h.1
  refine ⟨by rw [List.length_drop, hlen, Nat.sub_mul], ?_⟩
  rcases h.2 with ⟨hv, _⟩ | ⟨g', o, c, cur, hv, hb, hg, hfit, hnc, hcm, hc⟩
  · cases hv
  · injection hv with h1 h2 h3
    injection h1 with h1
    injection h1 with h1 h4
    subst h1 h4 h3
    refine .inr ⟨g, off', cap - k, cur, rfl, hb, hg, ?_, by omega, by omega, fun j hj => ?_⟩
    · have hm : k * size ≤ cap * size := Nat.mul_le_mul_right _ (by omega)
      rw [Nat.sub_mul]
      rcases ho with rfl | ⟨rfl, rfl⟩
      · omega
      · omega
    · have hkn : k * size ≤ n * size := Nat.mul_le_mul_right _ hk
      rw [Nat.sub_mul] at hj
      have := hc (k * size + j) (by omega)
      rw [List.getElem?_drop]
      rcases ho with rfl | ⟨rfl, rfl⟩
      · rw [Nat.add_assoc]; exact this
      · have : n * size ≤ cap * size := Nat.mul_le_mul_right _ hnc
        omega

section
variable {P : Program}

theorem cells_setCells_row (w : World) (b : Nat) (t : TypeId) : ∀ (vs : List Value) (o : Nat) (cur : Array Value), w.heap[b]? = some (.cells cur t (0, 0)) → o + vs.length ≤ cur.size →
    ∃ cur', (w.setCells b o vs).heap[b]? = some (.cells cur' t (0, 0)) ∧ cur'.size = cur.size ∧ (∀ j, j < vs.length → cur'[o + j]? = vs[j]?) ∧ (∀ j, j < o → cur'[j]? = cur[j]?) ∧ (∀ k, k ≠ b → (w.setCells b o vs).heap[k]? = w.heap[k]?) ∧
      (w.setCells b o vs).heap.size = w.heap.size ∧ (w.setCells b o vs).os = w.os ∧ (w.setCells b o vs).tape = w.tape ∧ (w.setCells b o vs).output = w.output := by
  intro vs
  induction vs generalizing w with
  | nil => intro o cur h _; exact ⟨cur, h, rfl, fun j hj => by simp at hj, fun _ _ => rfl, fun _ _ => rfl, rfl, rfl, rfl, rfl⟩
  | cons v vs ih =>
    intro o cur h hfit
    simp only [List.length_cons] at hfit
    obtain ⟨cur', h1, h2, h3, h4, h5, h6, h7, h8, h9⟩ := ih (w.setCell ⟨b, o, none⟩ v) (o + 1) (cur.setIfInBounds o v) (by
      have := heap_setCell_same w b o cur t v h
      simpa using this) (by simp; omega)
    refine ⟨cur', h1, by rw [h2]; simp, fun j hj => ?_, fun j hj => ?_, fun k hk => ?_, ?_, h7, h8, h9⟩
    · cases j with
      | zero =>
        have := h4 o (by omega)
        rw [Array.getElem?_setIfInBounds, if_pos rfl, if_pos (by omega)] at this
        simpa using this
      | succ j =>
        have := h3 j (by simp at hj; omega)
        rw [show o + (j + 1) = o + 1 + j by omega]
        simpa using this
    · rw [h4 j (by omega), Array.getElem?_setIfInBounds, if_neg (by omega)]
    · have := h5 k hk
      rw [show (w.setCells b o (v :: vs)) = (w.setCell ⟨b, o, none⟩ v).setCells b (o + 1) vs from rfl, this, heap_setCell_other w ⟨b, o, none⟩ k v hk]
    · have : (w.setCell ⟨b, o, none⟩ v).heap.size = w.heap.size := by simp [World.setCell]
      rw [show (w.setCells b o (v :: vs)) = (w.setCell ⟨b, o, none⟩ v).setCells b (o + 1) vs from rfl, h6, this]

/-- Appending to it, whatever is appended. -/
theorem run_append_Own (w : World) (B : Nat) (t tx ty e : TypeId) (i : TypeInfo) (z : Value) (size bytes : Nat) (ht : P.underlying t = some (.slice e)) (hi : P.info? e = some i) (hz : i.zero = some z)
    (hsize : i.size = size) (hby : i.bytes = bytes) (hzs : z.cells.size = size) (v : Value) (n : Nat) (xs : List Value) (hown : Own w B e size v n xs) (x : Value) (m : Nat) (news : List Value) (hs : Src P size tx x m news w)
    (h63 : n + m ≤ maxLen) (hbytes : (n + m) * bytes ≤ 140737488355328) (hbase : B ≤ w.heap.size) :
    ∃ v' w', (Builtin.append_ #[t, tx] ty #[v, x]).run P w = .ok v' w' ∧ Own w' B e size v' (n + m) (xs ++ news) ∧ w.grownBy w' v.ownBlock := by
  subst hsize
  subst hby
  have hlen : (xs ++ news).length = (n + m) * i.size := by rw [List.length_append, hown.1, hs.newsLen, Nat.add_mul]
  have hzc : ∀ q, (Builtin.zeroCells z.cells q).size = q * i.size := fun q => by rw [size_zeroCells, hzs]
  -- a new array
  have grown : ∀ (old : Nat), old < n + m → ∀ (row : Option Nat),
      Own (w.drew.alloc (.cells ((xs ++ news).toArray ++ Builtin.zeroCells z.cells (grownCap w (n + m) old e - (n + m))) e)) B e i.size
        (.slice (some ⟨w.heap.size, 0, none⟩) (n + m) (grownCap w (n + m) old e)) (n + m) (xs ++ news) ∧
      w.grownBy (w.drew.alloc (.cells ((xs ++ news).toArray ++ Builtin.zeroCells z.cells (grownCap w (n + m) old e - (n + m))) e)) row := by
    intro old ho row
    have hge := grownCap_ge w (n + m) old e
    have hcm := grownCap_le_maxLen w (n + m) old e h63
    refine ⟨⟨hlen, .inr ⟨w.heap.size, 0, _, _, rfl, hbase, heap_alloc_new w.drew _, ?_, hge, hcm, fun j hj => ?_⟩⟩, ⟨rfl, rfl, rfl, by simp, fun k hk _ => heap_alloc_old w.drew _ k hk⟩⟩
    · rw [Array.size_append, hzc, List.size_toArray, hlen, Nat.sub_mul]
      have : (n + m) * i.size ≤ grownCap w (n + m) old e * i.size := Nat.mul_le_mul_right _ hge
      omega
    · rw [Nat.zero_add, Array.getElem?_append_left (by simp only [List.size_toArray]; omega), List.getElem?_toArray]
  rcases hown.2 with ⟨rfl, rfl⟩ | ⟨g, off, cap, cur, rfl, hbg, hg, hfit, hnc, hcm, hc⟩
  · have hx : xs = [] := List.eq_nil_of_length_eq_zero (by simpa using hown.1)
    subst hx
    by_cases hm : m = 0
    · subst hm
      have hn : news = [] := List.eq_nil_of_length_eq_zero (by simpa using hs.newsLen)
      subst hn
      refine ⟨.slice none 0 0, w, ?_, Own.nil w B e i.size, ⟨rfl, rfl, rfl, Nat.le_refl _, fun _ _ _ => rfl⟩⟩
      have h1 := hs.cells
      have h2 := hs.len w
      rcases hs.kind with ⟨e', hk⟩ | hk <;> simp [Builtin.append_, run_underlying ht, run_underlying hk, sizeOf, typeInfo, hi, h1, h2]
    · have hr := run_append_grow_src (P := P) w t tx ty e i z ht hi hz none 0 0 [] (run_firstCells_none _ _ _ _ _) x m news hs (by omega) (by unfold maxLen at h63; omega) (growslice_fits (by omega) hbytes)
      have hgr := grown 0 (by omega) (Value.ownBlock (.slice none 0 0))
      exact ⟨_, _, hr, hgr.1, hgr.2⟩
  · by_cases hroom : n + m ≤ cap
    · have hmul : (n + m) * i.size ≤ cap * i.size := Nat.mul_le_mul_right _ hroom
      rw [Nat.add_mul] at hmul
      have hnl := hs.newsLen
      have hcell : ∀ j, j < news.length → (w.cell? ⟨g, off + n * i.size + j, none⟩).isSome = true := fun j hj => by
        have : off + n * i.size + j < cur.size := by omega
        simp [World.cell?, hg, this]
      have hfr : ∀ j, j < news.length → w.frozen? ⟨g, off + n * i.size + j, none⟩ = false := fun j _ => by simp [World.frozen?, hg]
      have hr := run_append_room_src (P := P) w t tx ty e i ht hi g off n cap x m news hs hroom hcell hfr
      obtain ⟨cur', h1, h2, h3, h4, h5, h6, h7, h8, h9⟩ := cells_setCells_row w g e news (off + n * i.size) cur hg (by omega)
      refine ⟨_, _, hr, ⟨hlen, .inr ⟨g, off, cap, cur', rfl, hbg, h1, by omega, hroom, hcm, fun j hj => ?_⟩⟩, ⟨h7, h8, h9, by omega, fun k _ hk => h5 k (fun e => hk (by simp [Value.ownBlock, e]))⟩⟩
      rw [Nat.add_mul] at hj
      by_cases hjn : j < n * i.size
      · rw [h4 _ (by omega), hc j hjn, List.getElem?_append_left (by rw [hown.1]; exact hjn)]
      · rw [List.getElem?_append_right (by rw [hown.1]; omega), hown.1, ← h3 (j - n * i.size) (by omega)]
        congr 1
        omega
    · have holds : (Builtin.firstCells i.size n (.slice (some ⟨g, off, none⟩) n cap)).run P w.drew = .ok xs.toArray w.drew :=
        run_firstCells_some w.drew i.size n ⟨g, off, none⟩ n cap xs hown.1 (fun j u hu => by
          have hadd : (⟨g, off, none⟩ : Addr).add j = ⟨g, off + j, none⟩ := by unfold Addr.add; split <;> simp_all
          rw [hadd]
          exact hown.cells rfl j u hu)
      have hr := run_append_grow_src (P := P) w t tx ty e i z ht hi hz (some ⟨g, off, none⟩) n cap xs holds x m news hs (by omega) (by unfold maxLen at h63; omega) (growslice_fits (by omega) hbytes)
      have hgr := grown cap (by omega) (Value.ownBlock (.slice (some ⟨g, off, none⟩) n cap))
      exact ⟨_, _, hr, hgr.1, hgr.2⟩

/-- The same, for the walk. -/
theorem wpList_append_Own {w : World} {ops : Array Oper} {rest : List Oper} {o : Oper} {a : Act} {Q : Exit → Act → World → Prop} (hgd : o.guard = none) (sl x : Operand) (t tx : TypeId)
    (ho : o.op = .call { callee := .builtin .append, args := #[sl, x], argTypes := #[t, tx] })
    (B : Nat) (e : TypeId) (i : TypeInfo) (z : Value) (size bytes : Nat) (ht : P.underlying t = some (.slice e)) (hi : P.info? e = some i) (hz : i.zero = some z) (hsize : i.size = size) (hby : i.bytes = bytes) (hzs : z.cells.size = size)
    (v : Value) (n : Nat) (xs : List Value) (hsl : a.eval sl = v) (hown : Own w B e size v n xs) (xv : Value) (m : Nat) (news : List Value) (hx : a.eval x = xv) (hs : Src P size tx xv m news w)
    (h63 : n + m ≤ maxLen) (hbytes : (n + m) * bytes ≤ 140737488355328) (hbase : B ≤ w.heap.size)
    (h : ∀ v' w', Own w' B e size v' (n + m) (xs ++ news) → w.grownBy w' v.ownBlock → wpList P ops Q rest (a.put o.dst v') w') : wpList P ops Q (o :: rest) a w := by
  refine wpList_plain hgd fun K hK => ?_
  obtain ⟨v', w', hr, h2, h3⟩ := run_append_Own (P := P) w B t tx o.type e i z size bytes ht hi hz hsize hby hzs v n xs hown xv m news hs h63 hbytes hbase
  unfold Oper.wp execOp
  simp only [ho, resolve, invoke, builtin, Sem.run_bind, Sem.run_pure, Result.andThen_ok, List.map_toArray, List.map_cons, List.map_nil, hsl, hx, hr]
  exact hK _ _ (h v' w' h2 h3)
end
end Go.Proofs.YtijnlgmclaphhaaDoor
