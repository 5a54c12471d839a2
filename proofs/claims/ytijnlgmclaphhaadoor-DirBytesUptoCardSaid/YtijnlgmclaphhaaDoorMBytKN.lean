import Derived.Test.YtijnlgmclaphhaaDoorMBytKC
/-! Put and Cut. -/
namespace Go.Proofs.YtijnlgmclaphhaaDoor
open Go.RowKit Go.Proofs.YtijnlgmclaphhaaDoorZ Go.Proofs.YtijnlgmclaphhaaDoorW.PrintWords Go.Proofs.YtijnlgmclaphhaaDoorW.PrintLast Go.Proofs.YtijnlgmclaphhaaDoorW.PrintMore

theorem ncells_at (l : List Nm) : ∀ i (h : i < l.length) j, j < 3 → (ncells l)[i * 3 + j]? = some (ncell l[i] j) := by
  induction l with
  | nil => intro i h; simp at h
  | cons a l ih =>
    intro i h j hj
    have e : ncells (a :: l) = nlist a ++ ncells l := rfl
    rw [e]
    cases i with
    | zero =>
      rw [List.getElem?_append_left (by simp [nlist]; omega)]
      match j, hj with
      | 0, _ => rfl
      | 1, _ => rfl
      | 2, _ => rfl
    | succ i =>
      rw [List.getElem?_append_right (by simp [nlist]; omega), show (i + 1) * 3 + j - (nlist a).length = i * 3 + j by simp [nlist]; omega]
      exact ih i (by simpa using h) j hj
theorem ncells_length (l : List Nm) : (ncells l).length = l.length * 3 := by
  induction l with
  | nil => rfl
  | cons a l ih =>
    have e : ncells (a :: l) = nlist a ++ ncells l := rfl
    rw [e, List.length_append, ih, List.length_cons]
    simp [nlist]; omega
theorem ncells_append (a b : List Nm) : ncells (a ++ b) = ncells a ++ ncells b := by simp [ncells]
theorem ncells_one (l : List Nm) : ∀ u ∈ ncells l, u.oneCell' = true := by
  intro u hu
  simp only [ncells, List.mem_flatMap] at hu
  obtain ⟨m, _, hu⟩ := hu
  simp only [nlist, List.mem_cons, List.not_mem_nil, or_false] at hu
  rcases hu with rfl | rfl | rfl <;> rfl
theorem RowsAt.of_own {w : World} {B : Nat} {v : Value} {l : List Nm} (h : Own w B 25 3 v l.length (ncells l)) : RowsAt w v l := by
  obtain ⟨hl, hn⟩ := h
  rcases hn with ⟨rfl, h0⟩ | ⟨g, off, cap, cur, rfl, hb, hg, hfit, hnc, hcm, hc⟩
  · have e : l = [] := List.eq_nil_of_length_eq_zero h0
    subst e
    exact ⟨none, 0, 0, 0, rfl, Nat.le_refl _, Nat.zero_le _, fun h => absurd h (by simp), fun i hi => absurd hi (by simp)⟩
  · refine ⟨_, cap, g, off, rfl, hnc, Nat.le_trans hnc hcm, fun _ => ⟨rfl, (Array.getElem?_eq_some_iff.1 hg).1⟩, fun i hi j hj => ?_⟩
    have := hc (i * 3 + j) (by omega)
    rw [ncells_at l i hi j hj] at this
    rw [Nat.add_assoc]
    simp [World.cell?, hg, this]
theorem RowsAt.src {w : World} {v : Value} {l : List Nm} (h : RowsAt w v l) : Src Tryd.prog 3 22 v l.length (ncells l) w := by
  obtain ⟨oa, cap, b, off, rfl, h1, h2, h3, h4⟩ := h
  cases oa with
  | none =>
    have : l.length = 0 := by
      rcases Nat.eq_zero_or_pos l.length with h | h
      · exact h
      · have := (h3 h).1; cases this
    have e : l = [] := List.eq_nil_of_length_eq_zero this
    subst e
    exact Src.ofNil _ Tryd.underlying22 cap
  | some a =>
    refine Src.ofSlice _ Tryd.underlying22 a _ _ _ (ncells_length l) (fun j u hj => ?_) (ncells_one l)
    have hj7 : j < l.length * 3 := by rw [← ncells_length]; exact (List.getElem?_eq_some_iff.1 hj).1
    have hi : j / 3 < l.length := by omega
    have ha : a = ⟨b, off, none⟩ := Option.some.inj (h3 (by omega)).1
    subst ha
    have := h4 (j / 3) hi (j % 3) (by omega)
    have e2 := ncells_at l (j / 3) hi (j % 3) (by omega)
    have e3 : j / 3 * 3 + j % 3 = j := by omega
    rw [e3] at e2
    rw [e2] at hj
    cases hj
    rw [← this, Nat.add_assoc, e3, add_none]
theorem ncells_take (l : List Nm) (i : Nat) : ncells (l.take i) = (ncells l).take (i * 3) := by
  induction l generalizing i with
  | nil => simp [ncells]
  | cons a l ih =>
    cases i with
    | zero => simp [ncells]
    | succ i =>
      have e : ∀ l : List Nm, ncells (a :: l) = nlist a ++ ncells l := fun _ => rfl
      rw [List.take_succ_cons, e, e, ih, show (i + 1) * 3 = (nlist a).length + i * 3 by simp [nlist]; omega, List.take_length_add_append]
theorem ncells_drop (l : List Nm) (i : Nat) : ncells (l.drop i) = (ncells l).drop (i * 3) := by
  induction l generalizing i with
  | nil => simp [ncells]
  | cons a l ih =>
    cases i with
    | zero => simp
    | succ i =>
      have e : ∀ l : List Nm, ncells (a :: l) = nlist a ++ ncells l := fun _ => rfl
      rw [List.drop_succ_cons, e, ih, show (i + 1) * 3 = (nlist a).length + i * 3 by simp [nlist]; omega, List.drop_length_add_append]
theorem nlist_one (m : Nm) : ∀ u ∈ nlist m, u.oneCell' = true := by
  have := ncells_one [m]
  simpa [ncells] using this
theorem ncells_ins (l : List Nm) (m : Nm) (i : Nat) : ncells (l.take i ++ m :: l.drop i) = (ncells l).take (i * 3) ++ nlist m ++ (ncells l).drop (i * 3) := by
  have e : ncells (m :: l.drop i) = nlist m ++ ncells (l.drop i) := rfl
  rw [ncells_append, e, ncells_take, ncells_drop, List.append_assoc]
theorem row_weaken {w : World} {B B' : Nat} {e : TypeId} {size : Nat} {v : Value} {n : Nat} {xs : List Value} (h : w.ownsRow B e size v n xs) (hb : B' ≤ B) : w.ownsRow B' e size v n xs := by
  refine ⟨h.1, ?_⟩
  rcases h.2 with hn | ⟨g, cap, cur, rfl, h1, rest⟩
  · exact .inl hn
  · exact .inr ⟨g, cap, cur, rfl, by omega, rest⟩
theorem row_nil (w : World) (B : Nat) : w.ownsRow B 25 3 (.slice none 0 0) ([] : List Nm).length (ncells []) := ⟨rfl, .inl ⟨rfl, rfl⟩⟩
theorem box_nm (w : World) (m : Nm) (t : TypeId) : (w.alloc (.cells #[.string m.f0, .int .i64 m.f1, .int .i64 m.f2] t)).heap[w.heap.size]? = some (.cells (nlist m).toArray t (0, 0)) := heap_alloc_new w _
/-- A name's entry in a variable. -/
def BoxAt (w : World) (g : Nat) (m : Nm) : Prop := g < w.heap.size ∧ ∀ j, j < 3 → w.cell? ⟨g, j, none⟩ = some (ncell m j)
theorem BoxAt.below {w w' : World} {g : Nat} {m : Nm} (h : BoxAt w g m) (hb : Below w.heap.size w w') : BoxAt w' g m :=
  ⟨Nat.lt_of_lt_of_le h.1 hb.size, fun j hj => by rw [hb.cell (p := ⟨g, j, none⟩) h.1]; exact h.2 j hj⟩
theorem BoxAt.of_block {w : World} {g : Nat} {m : Nm} {t : TypeId} (h : w.heap[g]? = some (.cells (nlist m).toArray t (0, 0))) : BoxAt w g m := by
  refine ⟨(Array.getElem?_eq_some_iff.1 h).1, fun j hj => ?_⟩
  rw [cell_of_row _ g j _ t (0, 0) h]
  match j, hj with
  | 0, _ => rfl
  | 1, _ => rfl
  | 2, _ => rfl
theorem BoxAt.new (w : World) (m : Nm) (t : TypeId) : BoxAt (w.alloc (.cells #[.string m.f0, .int .i64 m.f1, .int .i64 m.f2] t)) w.heap.size m := BoxAt.of_block (box_nm w m t)
theorem BoxAt.cells {m : Nm} {wr : World} {g : Nat} (h : BoxAt wr g m) :
    wr.cell? ⟨g, 0, none⟩ = some (.string m.f0) ∧ wr.cell? ⟨g, 1, none⟩ = some (.int .i64 m.f1) ∧ wr.cell? ⟨g, 2, none⟩ = some (.int .i64 m.f2) :=
  ⟨h.2 0 (by omega), h.2 1 (by omega), h.2 2 (by omega)⟩
/-- One entry in a block, as a row of one. -/
theorem BoxAt.rows {m : Nm} {w : World} {g : Nat} (h : BoxAt w g m) : RowsAt w (.slice (some ⟨g, 0, none⟩) 1 1) [m] :=
  ⟨some ⟨g, 0, none⟩, 1, g, 0, rfl, by simp, by simp [maxLen], fun _ => ⟨rfl, h.1⟩, fun i hi j hj => by
    have : i = 0 := by simpa using hi
    subst this
    rw [show 0 + 0 * 3 + j = j by omega]; exact h.2 j hj⟩
theorem slice_of_row {w : World} {B : Nat} {e : TypeId} {size : Nat} {v : Value} {n : Nat} {xs : List Value} (h : w.ownsRow B e size v n xs) : ∃ oa cap, v = .slice oa n cap ∧ w.ownsRow B e size (.slice oa n cap) n xs := by
  rcases h.2 with ⟨rfl, rfl⟩ | ⟨g, cap, cur, rfl, rest⟩
  · exact ⟨none, 0, rfl, h⟩
  · exact ⟨_, cap, rfl, h⟩
theorem row_all {w : World} {B B' : Nat} {e : TypeId} {size : Nat} {v : Value} {n : Nat} {xs : List Value} (h : w.ownsRow B e size v n xs) (hb : B' ≤ B) : ∀ W, Below w.heap.size w W → W.ownsRow B' e size v n xs :=
  fun _ hW => row_weaken (row_below h hW) hb
theorem size_alloc' (w : World) (o : Obj) : (w.alloc o).heap.size = w.heap.size + 1 := by simp
theorem size_drew' (w : World) : w.drew.heap.size = w.heap.size := rfl
/-- What is drawn or made beside. -/
theorem bel_steps (W : World) : Below W.heap.size W W ∧ Below W.heap.size W W.drew ∧ (∀ o, Below W.heap.size W (W.alloc o)) ∧ (∀ o, Below W.heap.size W (W.drew.alloc o)) ∧ (∀ o, Below W.heap.size W (W.alloc o).drew) :=
  ⟨Below.refl _ _, (Below.refl _ _).drew, fun _ => (Below.refl _ _).alloc (Nat.le_refl _) _, fun _ => (Below.refl _ _).drew.alloc (Nat.le_refl _) _, fun _ => ((Below.refl _ _).alloc (Nat.le_refl _) _).drew⟩

theorem Right_any (oa : Option Addr) (cap : Nat) (l : List Nm) (w : World) (hl : RowsAt w (.slice oa l.length cap) l) (hn : l.length ≤ 4398046511104) :
    Calls Tryd.prog 13 #[.slice oa l.length cap] w fun e w' => e = .returned (.bool (rightL l)) ∧ Below w.heap.size w w' :=
  dir_Right.calls (2 * l.length + 2) oa cap l _ w (C_of_rows hl).1 (C_of_rows hl).2 (Right_f l hn _ (by omega))
theorem right_any (m : Nm) (w : World) : Calls Tryd.prog 29 #[.agg #[.string m.f0, .int .i64 m.f1, .int .i64 m.f2]] w fun e w' => e = .returned (.bool (okN m)) ∧ Below w.heap.size w w' :=
  dir_right.calls _ _ _ _ w (right_f _ _ _)
theorem size_any (oa : Option Addr) (n cap : Nat) (l : List Nm) (w : World) (hl : RowsAt w (.slice oa n cap) l) (hs : ∀ x ∈ l, x.f0.size ≤ 32) (hn : l.length ≤ 1000) :
    Calls Tryd.prog 31 #[.slice oa n cap] w fun e w' => e = .returned (.int .i64 (sizeN l)) ∧ Below w.heap.size w w' := by
  have e : n = l.length := by
    obtain ⟨_, _, _, _, hv, _⟩ := hl
    injection hv
  subst e
  exact dir_size.calls (l.length + 1) oa cap l _ w (C_of_rows hl).1 (C_of_rows hl).2 (size_f l hs (by omega) _ (by omega))

def insL (l : List Nm) (m : Nm) : List Nm := l.take (atI l m.f0) ++ m :: l.drop (atI l m.f0)
def putL (l : List Nm) (m : Nm) : List Nm × Int :=
  if rightL l = true then
    (if okN m = true then (if hasN l m.f0 = true then ([], 21) else if 4096 < sizeN l + (10 + m.f0.size) then ([], 27) else (insL l m, 0)) else ([], 31))
  else ([], 2)
end Go.Proofs.YtijnlgmclaphhaaDoor
/-! A row of the call's own, in the printer's words. -/
namespace Go.Proofs.YtijnlgmclaphhaaDoor
open Go.RowKit Go.Proofs.YtijnlgmclaphhaaDoorZ Go.Proofs.YtijnlgmclaphhaaDoorW.PrintWords Go.Proofs.YtijnlgmclaphhaaDoorW.PrintLast Go.Proofs.YtijnlgmclaphhaaDoorW.PrintMore

theorem R_of_row {w : World} {base : Nat} {v : Value} (L : List Nm) (h : w.ownsRow base 25 3 v L.length (ncells L)) : Kd.R k25 25 w base (fun _ => True) v L := by
  refine ⟨fun _ _ => trivial, ncells L, h, ncells_length L, ?_⟩
  intro j m hj
  have hjl : j < L.length := (List.getElem?_eq_some_iff.1 hj).1
  have e : ((ncells L).drop (j * 3)).take 3 = nlist m := by
    rw [← ncells_drop, List.drop_eq_getElem_cons hjl]
    have : L[j] = m := by rw [List.getElem?_eq_getElem hjl] at hj; exact Option.some.inj hj
    rw [this]
    have e2 : ncells (m :: L.drop (j + 1)) = nlist m ++ ncells (L.drop (j + 1)) := rfl
    rw [e2, List.take_append_of_le_length (by simp [nlist]), List.take_of_length_le (by simp [nlist])]
  show k25.M w base _ m (((ncells L).drop (j * 3)).take 3)
  rw [e]
  exact k25_mkM w base _ m
end Go.Proofs.YtijnlgmclaphhaaDoor
