import Derived.Test.YtijnlgmclaphhaaDoorO
import Derived.Laws.CopyOwn
import Derived.Lib.AppendZerosOnto
import Derived.Lib.Overlaps
import Derived.Lib.SliceRun
import Derived.Laws.NewBlocks
import Derived.WalkKit
set_option linter.unusedVariables false
set_option linter.unusedSimpArgs false
/-! Slices of the call's own, elements of any number of cells: append, copy, clear. -/
namespace Go.Proofs.YtijnlgmclaphhaaDoor
open Go Go.RowKit
section
variable {P : Program}

theorem take_of_cells (cur : Array Value) (xs : List Value) (n : Nat) (hx : xs.length = n) (hn : n ≤ cur.size) (h : ∀ j, j < n → cur[j]? = xs[j]?) : cur.toList.take n = xs := by
  apply List.ext_getElem?
  intro j
  rw [List.getElem?_take]
  split
  · rw [Array.getElem?_toList]; exact h j (by assumption)
  · rw [List.getElem?_eq_none (by omega)]
theorem cells_of_take {cur : Array Value} {xs : List Value} {n : Nat} (h : cur.toList.take n = xs) : ∀ j, j < n → cur[j]? = xs[j]? := by
  intro j hj
  rw [← h, List.getElem?_take, if_pos hj, Array.getElem?_toList]

/-- Appending to a row of the call's own, whatever is appended. -/
theorem run_append_row (w : World) (B : Nat) (t tx ty e : TypeId) (i : TypeInfo) (z : Value) (size bytes : Nat) (ht : P.underlying t = some (.slice e)) (hi : P.info? e = some i) (hz : i.zero = some z)
    (hsize : i.size = size) (hby : i.bytes = bytes) (hzs : z.cells.size = size) (v : Value) (n : Nat) (xs : List Value) (hown : w.ownsRow B e size v n xs) (x : Value) (m : Nat) (news : List Value) (hs : Src P size tx x m news w)
    (h63 : n + m ≤ maxLen) (hbytes : (n + m) * bytes ≤ 140737488355328) (hbase : B ≤ w.heap.size) :
    ∃ v' w', (Builtin.append_ #[t, tx] ty #[v, x]).run P w = .ok v' w' ∧ w'.ownsRow B e size v' (n + m) (xs ++ news) ∧ w.grownBy w' v.ownBlock := by
  subst hsize
  subst hby
  have hlen : (xs ++ news).length = (n + m) * i.size := by rw [List.length_append, hown.1, hs.newsLen, Nat.add_mul]
  have hzc : ∀ q, (Builtin.zeroCells z.cells q).size = q * i.size := fun q => by rw [size_zeroCells, hzs]
  have grown : ∀ (old : Nat), old < n + m → ∀ (row : Option Nat),
      (w.drew.alloc (.cells ((xs ++ news).toArray ++ Builtin.zeroCells z.cells (grownCap w (n + m) old e - (n + m))) e)).ownsRow B e i.size
        (.slice (some ⟨w.heap.size, 0, none⟩) (n + m) (grownCap w (n + m) old e)) (n + m) (xs ++ news) ∧
      w.grownBy (w.drew.alloc (.cells ((xs ++ news).toArray ++ Builtin.zeroCells z.cells (grownCap w (n + m) old e - (n + m))) e)) row := by
    intro old ho row
    have hge := grownCap_ge w (n + m) old e
    have hcm := grownCap_le_maxLen w (n + m) old e h63
    refine ⟨⟨hlen, .inr ⟨w.heap.size, _, _, rfl, hbase, heap_alloc_new w.drew _, hge, hcm, ?_, ?_⟩⟩, ⟨rfl, rfl, rfl, by simp, fun k hk _ => by first | exact heap_alloc_old w.drew _ k hk | exact heap_alloc_old w.drew _ hk⟩⟩
    · rw [Array.size_append, hzc, List.size_toArray, hlen, Nat.sub_mul]
      have : (n + m) * i.size ≤ grownCap w (n + m) old e * i.size := Nat.mul_le_mul_right _ hge
      omega
    · rw [Array.toList_append, List.take_append_of_le_length (by simp [hlen]), ← hlen]
      exact List.take_length
  rcases hown.2 with ⟨rfl, rfl⟩ | ⟨g, cap, cur, rfl, hbg, hg, hnc, hcm, hcs, hc⟩
  · have hx : xs = [] := List.eq_nil_of_length_eq_zero (by simpa using hown.1)
    subst hx
    by_cases hm : m = 0
    · subst hm
      have hn : news = [] := List.eq_nil_of_length_eq_zero (by simpa using hs.newsLen)
      subst hn
      refine ⟨.slice none 0 0, w, ?_, ⟨by simp, .inl ⟨rfl, rfl⟩⟩, ⟨rfl, rfl, rfl, Nat.le_refl _, fun _ _ _ => rfl⟩⟩
      have h1 := hs.cells
      have h2 := hs.len w
      rcases hs.kind with ⟨e', hk⟩ | hk <;> simp [Builtin.append_, run_underlying ht, run_underlying hk, sizeOf, typeInfo, hi, h1, h2]
    · have hr := run_append_grow_src (P := P) w t tx ty e i z ht hi hz none 0 0 [] (run_firstCells_none _ _ _ _ _) x m news hs (by omega) (by unfold maxLen at h63; omega) (growslice_fits (by omega) hbytes)
      have hgr := grown 0 (by omega) (Value.ownBlock (.slice none 0 0))
      exact ⟨_, _, hr, hgr.1, hgr.2⟩
  · have hcx := cells_of_take hc
    by_cases hroom : n + m ≤ cap
    · have hmul : (n + m) * i.size ≤ cap * i.size := Nat.mul_le_mul_right _ hroom
      rw [Nat.add_mul] at hmul
      have hnl := hs.newsLen
      have hcell : ∀ j, j < news.length → (w.cell? ⟨g, 0 + n * i.size + j, none⟩).isSome = true := fun j hj => by
        have : 0 + n * i.size + j < cur.size := by omega
        simp only [World.cell?, hg]
        rw [Array.getElem?_eq_getElem this]; rfl
      have hfr : ∀ j, j < news.length → w.frozen? ⟨g, 0 + n * i.size + j, none⟩ = false := fun j _ => by simp [World.frozen?, hg]
      have hr := run_append_room_src (P := P) w t tx ty e i ht hi g 0 n cap x m news hs hroom hcell hfr
      obtain ⟨cur', h1, h2, h3, h4, h5, h6, h7, h8, h9⟩ := cells_setCells_row w g e news (0 + n * i.size) cur hg (by omega)
      refine ⟨_, _, hr, ⟨hlen, .inr ⟨g, cap, cur', rfl, hbg, h1, hroom, hcm, by omega, ?_⟩⟩, ⟨h7, h8, h9, by omega, fun k _ hk => h5 k (fun e => hk (by simp [Value.ownBlock, e]))⟩⟩
      refine take_of_cells cur' _ _ hlen (by rw [Nat.add_mul]; omega) fun j hj => ?_
      rw [Nat.add_mul] at hj
      by_cases hjn : j < n * i.size
      · rw [h4 _ (by omega), hcx j hjn, List.getElem?_append_left (by rw [hown.1]; exact hjn)]
      · rw [List.getElem?_append_right (by rw [hown.1]; omega), hown.1, ← h3 (j - n * i.size) (by omega)]
        congr 1
        omega
    · have holds : (Builtin.firstCells i.size n (.slice (some ⟨g, 0, none⟩) n cap)).run P w.drew = .ok xs.toArray w.drew :=
        run_firstCells_some w.drew i.size n ⟨g, 0, none⟩ n cap xs hown.1 (fun j u hu => by
          have hadd : (⟨g, 0, none⟩ : Addr).add j = ⟨g, 0 + j, none⟩ := by unfold Addr.add; split <;> simp_all
          rw [hadd, Nat.zero_add]
          have hj : j < n * i.size := by rw [← hown.1]; exact (List.getElem?_eq_some_iff.1 hu).1
          have := hcx j hj
          simp only [World.cell?, World.drew, hg]
          rw [this]; exact hu)
      have hr := run_append_grow_src (P := P) w t tx ty e i z ht hi hz (some ⟨g, 0, none⟩) n cap xs holds x m news hs (by omega) (by unfold maxLen at h63; omega) (growslice_fits (by omega) hbytes)
      have hgr := grown cap (by omega) (Value.ownBlock (.slice (some ⟨g, 0, none⟩) n cap))
      exact ⟨_, _, hr, hgr.1, hgr.2⟩
theorem wpList_append_row {w : World} {ops : Array Oper} {rest : List Oper} {o : Oper} {a : Act} {Q : Exit → Act → World → Prop} (hgd : o.guard = none) (sl x : Operand) (t tx : TypeId)
    (ho : o.op = .call { callee := .builtin .append, args := #[sl, x], argTypes := #[t, tx] })
    (B : Nat) (e : TypeId) (i : TypeInfo) (z : Value) (size bytes : Nat) (ht : P.underlying t = some (.slice e)) (hi : P.info? e = some i) (hz : i.zero = some z) (hsize : i.size = size) (hby : i.bytes = bytes) (hzs : z.cells.size = size)
    (v : Value) (n : Nat) (xs : List Value) (hsl : a.eval sl = v) (hown : w.ownsRow B e size v n xs) (xv : Value) (m : Nat) (news : List Value) (hx : a.eval x = xv) (hs : Src P size tx xv m news w)
    (h63 : n + m ≤ maxLen) (hbytes : (n + m) * bytes ≤ 140737488355328) (hbase : B ≤ w.heap.size)
    (h : ∀ v' w', w'.ownsRow B e size v' (n + m) (xs ++ news) → w.grownBy w' v.ownBlock → wpList P ops Q rest (a.put o.dst v') w') : wpList P ops Q (o :: rest) a w := by
  refine wpList_plain hgd fun K hK => ?_
  obtain ⟨v', w', hr, h2, h3⟩ := run_append_row (P := P) w B t tx o.type e i z size bytes ht hi hz hsize hby hzs v n xs hown xv m news hs h63 hbytes hbase
  unfold Oper.wp execOp
  simp only [ho, resolve, invoke, builtin, Sem.run_bind, Sem.run_pure, Result.andThen_ok, List.map_toArray, List.map_cons, List.map_nil, hsl, hx, hr]
  exact hK _ _ (h v' w' h2 h3)

/-- copy, elements of any number of cells. -/
theorem run_copy_many (w : World) (dT sT ty elem : TypeId) (size g o dLen dCap : Nat) (a : Addr) (sLen sCap : Nat) (cur : List Value) (t : TypeId) (cs : List Value)
    (hu : P.underlying dT = some (.slice elem)) (hs : (P.info? elem).map (·.size) = some size)
    (hg : w.heap[g]? = some (.cells cur.toArray t (0, 0))) (hn : cs.length = Nat.min sLen dLen * size)
    (hsrc : ∀ j v, cs[j]? = some v → w.cell? (a.add j) = some v) (hfit : o + cs.length ≤ cur.length) (h1 : ∀ v ∈ cs, v.oneCell' = true) :
    ∃ w', (Builtin.copy_ #[dT, sT] ty #[.slice (some ⟨g, o, none⟩) dLen dCap, .slice (some a) sLen sCap]).run P w = .ok (goInt (Nat.min sLen dLen)) w' ∧
      w'.heap[g]? = some (.cells (splice cur o cs).toArray t (0, 0)) ∧ w.grownBy w' (some g) ∧ w'.heap.size = w.heap.size := by
  have hl := run_loadCells_list (P := P) w a cs hsrc
  have hst := run_storeCells_at P g o t cs 0 cur.toArray w hg (by simpa using hfit) h1
  cases hq : P.info? elem with
  | none => simp [hq] at hs
  | some i =>
    have hi : i.size = size := by simpa [hq] using hs
    refine ⟨w.setRow g (splice cur o cs).toArray, ?_, setRow_heap w g _ _ t _ hg, ⟨rfl, rfl, rfl, by simp [World.setRow], fun k hk hr => setRow_other w g k _ (fun e => hr (by rw [e]))⟩, by simp [World.setRow]⟩
    rw [hn] at hl
    simp [Builtin.copy_, run_underlying hu, Builtin.lenOf, Builtin.firstCells, sizeOf, typeInfo, hq, hi, hl, hst, splice]
theorem wpList_copy_many {w : World} {ops : Array Oper} {rest : List Oper} {o : Oper} {a : Act} {Q : Exit → Act → World → Prop} (hgd : o.guard = none) (d s : Operand) (dT sT : TypeId)
    (ho : o.op = .call { callee := .builtin .copy, args := #[d, s], argTypes := #[dT, sT] }) (elem : TypeId) (size : Nat) (hu : P.underlying dT = some (.slice elem)) (hsz : (P.info? elem).map (·.size) = some size)
    (g off dLen dCap : Nat) (ad : Addr) (sLen sCap : Nat) (hd : a.eval d = .slice (some ⟨g, off, none⟩) dLen dCap) (hs : a.eval s = .slice (some ad) sLen sCap)
    (cur : List Value) (t : TypeId) (hg : w.heap[g]? = some (.cells cur.toArray t (0, 0))) (cs : List Value) (hn : cs.length = Nat.min sLen dLen * size)
    (hsrc : ∀ j v, cs[j]? = some v → w.cell? (ad.add j) = some v) (hfit : off + cs.length ≤ cur.length) (h1 : ∀ v ∈ cs, v.oneCell' = true)
    (h : ∀ w', Hid (w'.heap[g]? = some (.cells (splice cur off cs).toArray t (0, 0))) → w.grownBy w' (some g) → w'.heap.size = w.heap.size → wpList P ops Q rest (a.put o.dst (goInt (Nat.min sLen dLen))) w') : wpList P ops Q (o :: rest) a w := by
  refine wpList_plain hgd fun K hK => ?_
  obtain ⟨w', hr, h2, h3, h4⟩ := run_copy_many (P := P) w dT sT o.type elem size g off dLen dCap ad sLen sCap cur t cs hu hsz hg hn hsrc hfit h1
  unfold Oper.wp execOp
  simp only [ho, resolve, invoke, builtin, Sem.run_bind, Sem.run_pure, Result.andThen_ok, List.map_toArray, List.map_cons, List.map_nil, hd, hs, hr]
  exact hK _ _ (h w' h2 h3 h4)
theorem step_copy_many {w : World} {ops : Array Oper} {o : Oper} {a : Act} {K : Act → World → Prop} {Q : Exit → Act → World → Prop} {E : Prop} (hgd : o.guard = none) (d s : Operand) (dT sT : TypeId)
    (ho : o.op = .call { callee := .builtin .copy, args := #[d, s], argTypes := #[dT, sT] }) (elem : TypeId) (size : Nat) (hu : P.underlying dT = some (.slice elem)) (hsz : (P.info? elem).map (·.size) = some size)
    (g off dLen dCap : Nat) (ad : Addr) (sLen sCap : Nat) (hd : a.eval d = .slice (some ⟨g, off, none⟩) dLen dCap) (hs : a.eval s = .slice (some ad) sLen sCap)
    (cur : List Value) (t : TypeId) (hg : w.heap[g]? = some (.cells cur.toArray t (0, 0))) (cs : List Value) (hn : cs.length = Nat.min sLen dLen * size)
    (hsrc : ∀ j v, cs[j]? = some v → w.cell? (ad.add j) = some v) (hfit : off + cs.length ≤ cur.length) (h1 : ∀ v ∈ cs, v.oneCell' = true)
    (h : ∀ w', Hid (w'.heap[g]? = some (.cells (splice cur off cs).toArray t (0, 0))) → w.grownBy w' (some g) → w'.heap.size = w.heap.size → K (a.put o.dst (goInt (Nat.min sLen dLen))) w') :
    if Region.wanted o (yielded ops a.tmps) = true then Oper.wp P o a w K Q else E := by
  have hw : Region.wanted o (yielded ops a.tmps) = true := by simp [Region.wanted, hgd]
  rw [if_pos hw]
  obtain ⟨w', hr, h2, h3, h4⟩ := run_copy_many (P := P) w dT sT o.type elem size g off dLen dCap ad sLen sCap cur t cs hu hsz hg hn hsrc hfit h1
  unfold Oper.wp execOp
  simp only [ho, resolve, invoke, builtin, Sem.run_bind, Sem.run_pure, Result.andThen_ok, List.map_toArray, List.map_cons, List.map_nil, hd, hs, hr]
  exact h w' h2 h3 h4

/-- append of a make, where there is no room. -/
theorem run_append_made (w : World) (t tn : TypeId) (e : TypeId) (i : TypeInfo) (z : Value) (kq kn : IntKind) (size bytes : Nat)
    (ht : P.underlying t = some (.slice e)) (htn : P.underlying tn = some (.int kn)) (hi : P.info? e = some i) (hz : i.zero = some z) (hsize : i.size = size) (hby : i.bytes = bytes) (hzs : z.cells.size = size)
    (g sLen sCap : Nat) (cur : Array Value) (fr : TypeId) (hg : w.heap[g]? = some (.cells cur fr (0, 0))) (hfit : sLen * size ≤ cur.size) (k : Nat) (x' : Int) (hxk : x' = (k : Int))
    (h0 : 0 < k) (hs : 0 < size) (hroom : sCap < sLen + k) (hsc : sLen ≤ sCap) (hbig : sLen + k ≤ 1000000) (hb : bytes ≤ 4096) :
    ∃ G w', (∀ ty, (Builtin.append_ #[t, tn] ty #[.slice (some ⟨g, 0, none⟩) sLen sCap, .int kq x']).run P w = .ok (.slice (some ⟨w.heap.size, 0, none⟩) (sLen + k) G) w') ∧ sLen + k ≤ G ∧ G ≤ maxLen ∧
      (∃ zs : List Value, zs.length = (G - sLen) * size ∧ w'.heap[w.heap.size]? = some (.cells (cur.toList.take (sLen * size) ++ zs).toArray e (0, 0))) ∧ w.grownBy w' none ∧ w'.heap.size = w.heap.size + 1 := by
  subst hsize hby hxk
  have hb1 : (sLen + k) * i.bytes ≤ 1000000 * 4096 := Nat.mul_le_mul hbig hb
  have hb2 : k * i.bytes ≤ (sLen + k) * i.bytes := Nat.mul_le_mul_right _ (by omega)
  have hlen : (cur.toList.take (sLen * i.size)).length = sLen * i.size := by simp; omega
  have hold : (Builtin.firstCells i.size sLen (.slice (some ⟨g, 0, none⟩) sLen sCap)).run P w.drew = .ok (cur.toList.take (sLen * i.size)).toArray w.drew :=
    run_firstCells_some w.drew i.size sLen ⟨g, 0, none⟩ sLen sCap _ hlen (fun j u hu => by
      have hadd : (⟨g, 0, none⟩ : Addr).add j = ⟨g, 0 + j, none⟩ := by unfold Addr.add; split <;> simp_all
      rw [hadd, Nat.zero_add]
      have hj : j < sLen * i.size := by rw [← hlen]; exact (List.getElem?_eq_some_iff.1 hu).1
      rw [List.getElem?_take, if_pos hj, Array.getElem?_toList] at hu
      simp only [World.cell?, World.drew, hg]
      exact hu)
  have hr := fun ty => Lib.run_append_grow_zeros (P := P) w t tn ty e i z kq kn ht htn hi hz (some ⟨g, 0, none⟩) sLen sCap _ hold k h0 hs hroom (by omega) (by omega) (growslice_fits hroom (by omega))
  have hge := grownCap_ge w (sLen + k) sCap e
  have hcm := grownCap_le_maxLen w (sLen + k) sCap e (by unfold maxLen; omega)
  refine ⟨_, _, hr, hge, hcm, ⟨(Builtin.zeroCells z.cells k ++ Builtin.zeroCells z.cells (grownCap w (sLen + k) sCap e - (sLen + k))).toList, ?_, ?_⟩, ⟨rfl, rfl, rfl, by simp, fun q hq _ => by first | exact heap_alloc_old w.drew _ q hq | exact heap_alloc_old w.drew _ hq⟩, by simp⟩
  · simp only [Array.toList_append, List.length_append, Array.length_toList, size_zeroCells, hzs]
    rw [← Nat.add_mul]
    congr 1
    omega
  · rw [show w.heap.size = w.drew.heap.size from rfl, heap_alloc_new w.drew _]
    congr 2
    apply Array.ext'
    simp [List.append_assoc]
/-- clear. -/
theorem run_clear_many (w : World) (t e ty : TypeId) (i : TypeInfo) (z : Value) (size : Nat) (ht : P.underlying t = some (.slice e)) (hi : P.info? e = some i) (hz : i.zero = some z) (hzs : z.cells.size = size) (h1 : ∀ u ∈ z.cells.toList, u.oneCell' = true)
    (g o n c : Nat) (cur : Array Value) (fr : TypeId) (hg : w.heap[g]? = some (.cells cur fr (0, 0))) (hn : 0 < n) (hfit : o + n * size ≤ cur.size) :
    ∃ w' cur', (Builtin.clear_ #[t] ty #[.slice (some ⟨g, o, none⟩) n c]).run P w = .ok (.tuple #[]) w' ∧ w'.heap[g]? = some (.cells cur' fr (0, 0)) ∧ cur'.size = cur.size ∧ cur'.toList.take o = cur.toList.take o ∧ w.grownBy w' (some g) ∧ w'.heap.size = w.heap.size := by
  have hzc : (Builtin.zeroCells z.cells n).toList.length = n * size := by rw [Array.length_toList, size_zeroCells, hzs]
  have hone : ∀ u ∈ (Builtin.zeroCells z.cells n).toList, u.oneCell' = true := by
    intro u hu
    simp only [Builtin.zeroCells, Array.toList_map, List.mem_map] at hu
    obtain ⟨q, hq, rfl⟩ := hu
    apply h1
    have hq2 : q < n * z.cells.size := by simpa using hq
    have hp : 0 < z.cells.size := by
      rcases Nat.eq_zero_or_pos z.cells.size with h | h
      · rw [h] at hq2; simp at hq2
      · exact h
    rw [getElem!_pos z.cells (q % z.cells.size) (Nat.mod_lt _ hp)]
    simp
  have hst := run_storeCells_at P g o fr (Builtin.zeroCells z.cells n).toList 0 cur w hg (by rw [hzc]; omega) hone
  obtain ⟨m, rfl⟩ : ∃ m, n = m + 1 := ⟨n - 1, by omega⟩
  refine ⟨_, _, ?_, setRow_heap w g _ (cur.toList.take o ++ (Builtin.zeroCells z.cells (m + 1)).toList ++ cur.toList.drop (o + (Builtin.zeroCells z.cells (m + 1)).toList.length)).toArray fr _ hg, ?_, ?_, ⟨rfl, rfl, rfl, by simp [World.setRow], fun k hk hr => setRow_other w g k _ (fun e => hr (by rw [e]))⟩, by simp [World.setRow]⟩
  · simp [Builtin.clear_, run_underlying ht, zeroValue, typeInfo, hi, hz, hst]
  · simp only [List.size_toArray, List.length_append, List.length_take, List.length_drop, Array.length_toList] at hzc ⊢
    omega
  · rw [List.append_assoc, List.take_append_of_le_length (by simp; omega), List.take_take]
    congr 1
    omega
theorem wpList_clear_many {w : World} {ops : Array Oper} {rest : List Oper} {o : Oper} {a : Act} {Q : Exit → Act → World → Prop} (hgd : o.guard = none) (s : Operand) (t : TypeId)
    (ho : o.op = .call { callee := .builtin .clear, args := #[s], argTypes := #[t] }) (e : TypeId) (i : TypeInfo) (z : Value) (size : Nat) (ht : P.underlying t = some (.slice e)) (hi : P.info? e = some i) (hz : i.zero = some z) (hzs : z.cells.size = size) (h1 : ∀ u ∈ z.cells.toList, u.oneCell' = true)
    (g off n c : Nat) (hs : a.eval s = .slice (some ⟨g, off, none⟩) n c) (cur : Array Value) (fr : TypeId) (hg : w.heap[g]? = some (.cells cur fr (0, 0))) (hn : 0 < n) (hfit : off + n * size ≤ cur.size)
    (h : ∀ w', Hid (∃ cur' : Array Value, w'.heap[g]? = some (.cells cur' fr (0, 0)) ∧ cur'.size = cur.size ∧ cur'.toList.take off = cur.toList.take off) → w.grownBy w' (some g) → w'.heap.size = w.heap.size → wpList P ops Q rest (a.put o.dst (.tuple #[])) w') : wpList P ops Q (o :: rest) a w := by
  refine wpList_plain hgd fun K hK => ?_
  obtain ⟨w', cur', hr, h2, h3, h4, h5, h6⟩ := run_clear_many (P := P) w t e o.type i z size ht hi hz hzs h1 g off n c cur fr hg hn hfit
  unfold Oper.wp execOp
  simp only [ho, resolve, invoke, builtin, Sem.run_bind, Sem.run_pure, Result.andThen_ok, List.map_toArray, List.map_cons, List.map_nil, hs, hr]
  exact hK _ _ (h w' ⟨cur', h2, h3, h4⟩ h5 h6)
end
end Go.Proofs.YtijnlgmclaphhaaDoor
