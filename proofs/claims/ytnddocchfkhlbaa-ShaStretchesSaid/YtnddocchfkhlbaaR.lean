import Derived.Deep.Quiet
import Derived.Tactics
import Derived.StillTail
/-! A region that draws its order and ends in an operation that waits for all the others. -/
namespace Go.Proofs.Ytnddocchfkhlbaa
open Go

/-- The post of the head: what the last operation asks. -/
def headPost (P : Program) (ops : Array Oper) (n : Nat) (Q : Exit → Act → World → Prop) : Exit → Act → World → Prop
  | .normal, a, w => wpOp P ops Q n (fun a w => Q .normal a w) a w
  | e, a, w => Q e a w

theorem wpQ_mono {P : Program} {o : Oper} {a : Act} {w : World} {K : Act → World → Prop} {Q Q' : Exit → Act → World → Prop} (hp : ∀ c a w, Q (.panic c) a w → Q' (.panic c) a w) (hl : LetsOut Q → LetsOut Q')
    (h : o.wp P a w K Q) : o.wp P a w K Q' := by
  unfold Oper.wp at *
  generalize (execOp a.eval o).run P w = r at *
  cases r with
  | ok n w' =>
    cases n <;> simp only [Oper.upon] at h ⊢ <;>
      first
        | exact h
        | exact Calls.mono h (fun e w'' he => by cases e <;> first | exact he | exact hp _ _ _ he | exact hl he)
  | halt x w' =>
    cases x <;> simp only [Oper.upon] at h ⊢ <;> first | exact hp _ _ _ h | exact h

theorem any_done {P : Program} {md : Region.Mode} {ops : Array Oper} {Q : Exit → Act → World → Prop} {listed : Array Bool} {a : Act} {w : World} (hr : Region.ready md ops listed = []) (h : Q .normal a w) :
    ∀ fuel, wpAny P md ops Q fuel listed a w
  | 0 => ⟨hr, h⟩
  | _ + 1 => ⟨fun _ => h, fun i hi => by rw [hr] at hi; cases hi⟩

/-- All waiting goes backwards; guards too; the last one is waited for by nobody and waits, in the end, for all. -/
def tailB (md : Region.Mode) (ops : Array Oper) (n : Nat) : Bool :=
  Region.sinkB md ops n && ((List.range (n + 1)).all fun i => match ops[i]? with
    | some o => (o.after.all fun e => !Region.binds md e || decide (e.on < i)) && (match o.guard with | none => true | some g => decide (g.1 < i))
    | none => false)

theorem tailB_at {md : Region.Mode} {ops : Array Oper} {n : Nat} (h : tailB md ops n = true) {i : Nat} (hi : i ≤ n) {o : Oper} (ho : ops[i]? = some o) :
    (∀ e ∈ o.after, Region.binds md e = true → e.on < i) ∧ (∀ g, o.guard = some g → g.1 < i) := by
  simp only [tailB, Bool.and_eq_true] at h
  have h2 := List.all_eq_true.1 h.2 i (List.mem_range.2 (by omega))
  simp only [ho, Bool.and_eq_true] at h2
  refine ⟨fun e he hb => ?_, fun g hg => ?_⟩
  · have := Array.all_eq_true_iff_forall_mem.1 h2.1 e he
    simpa [hb] using this
  · have := h2.2
    rw [hg] at this
    simpa using this

theorem yielded_head {l : List Oper} {t : Oper} {j : Nat} (hj : j < l.length) (tmps : Array Value) : yielded (l ++ [t]).toArray tmps j = yielded l.toArray tmps j := by
  unfold yielded
  have : (l ++ [t]).toArray[j]? = l.toArray[j]? := by simp [List.getElem?_append_left hj]
  rw [this]

theorem wanted_head {l : List Oper} {t o : Oper} (hg : ∀ g, o.guard = some g → g.1 < l.length) (tmps : Array Value) :
    Region.wanted o (yielded (l ++ [t]).toArray tmps) = Region.wanted o (yielded l.toArray tmps) := by
  unfold Region.wanted
  split
  · rfl
  · rename_i j want hq
    rw [yielded_head (hg _ hq)]

theorem wpOp_head {P : Program} {l : List Oper} {t : Oper} {Q Q1 : Exit → Act → World → Prop} {i : Nat} (hi : i < l.length) (hg : ∀ o, l[i]? = some o → ∀ g, o.guard = some g → g.1 < i) (hp : ∀ c a w, Q1 (.panic c) a w → Q (.panic c) a w) (hl : LetsOut Q1 → LetsOut Q)
    {K : Act → World → Prop} {a : Act} {w : World} (h : wpOp P l.toArray Q1 i K a w) : wpOp P (l ++ [t]).toArray Q i K a w := by
  unfold wpOp at *
  have e : (l ++ [t]).toArray[i]? = l.toArray[i]? := by simp [List.getElem?_append_left hi]
  rw [e]
  split at h
  · exact h
  · rename_i o ho
    have hgo := hg o (by simpa using ho)
    rw [wanted_head (fun g hq => by have := hgo g hq; omega)]
    split at h
    · rename_i hw; rw [if_pos hw]; exact h.imp (wpQ_mono hp hl) (fun ⟨x, y⟩ => ⟨x, hl y⟩)
    · rename_i hw; rw [if_neg hw]; exact h

/-- What is listed, all that it waits for is listed. -/
def ClosedUp (md : Region.Mode) (ops : Array Oper) (listed : Array Bool) : Prop :=
  ∀ j oj, ops[j]? = some oj → listed.getD j false = true → ∀ e ∈ oj.after, Region.binds md e = true → listed.getD e.on false = true

theorem closedUp_set {md : Region.Mode} {ops : Array Oper} {listed : Array Bool} (hc : ClosedUp md ops listed) {i : Nat} (hi : i ∈ Region.ready md ops listed) : ClosedUp md ops (listed.setIfInBounds i true) := by
  intro j oj hj hl e he hb
  obtain ⟨_, oi, hoi, hall⟩ := mem_ready.1 hi
  by_cases hij : i = j
  · subst hij
    obtain rfl : oj = oi := Option.some.inj (hj.symm.trans hoi)
    exact getD_set_true (hall e he hb)
  · rw [getD_set_ne false hij] at hl
    exact getD_set_true (hc j oj hj hl e he hb)

/-- If the last one may come up, all others have. -/
theorem all_listed {md : Region.Mode} {ops : Array Oper} {n : Nat} (hT : tailB md ops n = true) {listed : Array Bool} (hc : ClosedUp md ops listed) (hr : n ∈ Region.ready md ops listed) :
    ∀ d i, n - i = d → i < n → listed.getD i false = true := by
  have hs : Region.sinkB md ops n = true := by simp only [tailB, Bool.and_eq_true] at hT; exact hT.1
  intro d
  induction d using Nat.strongRecOn with
  | _ d ih =>
    intro i hd hi
    have h1 := List.all_eq_true.1 hs i (List.mem_range.2 hi)
    obtain ⟨j, hj, hj2⟩ := List.any_eq_true.1 h1
    simp only [Bool.and_eq_true, decide_eq_true_eq] at hj2
    obtain ⟨oj, hoj, e, he, hb, hon⟩ := Region.waitsFor_spec hj2.2
    have hjn := List.mem_range.1 hj
    subst hon
    by_cases hjn' : j = n
    · subst hjn'
      obtain ⟨_, o, ho, hall⟩ := mem_ready.1 hr
      obtain rfl : oj = o := Option.some.inj (hoj.symm.trans ho)
      exact hall e he hb
    · exact hc j oj hoj (ih (n - j) (by omega) j rfl (by omega)) e he hb


theorem pop_getD {listed : Array Bool} {n i : Nat} (hs : listed.size = n + 1) (hi : i < n) (d : Bool) : listed.pop.getD i d = listed.getD i d := by
  have h1 : i < listed.pop.size := by simp [hs]; omega
  have h2 : i < listed.size := by omega
  have h3 : i < listed.size - 1 := by omega
  simp [Array.getD, h2, h3]

theorem pop_set {listed : Array Bool} {n i : Nat} (hs : listed.size = n + 1) (hi : i < n) : (listed.setIfInBounds i true).pop = listed.pop.setIfInBounds i true := by
  apply Array.ext_getElem?
  intro j
  simp only [Array.getElem?_pop, Array.size_setIfInBounds, Array.getElem?_setIfInBounds, Array.size_pop]
  by_cases hj : j < listed.size - 1 <;> by_cases hij : i = j <;> simp_all <;> omega

section
variable {P : Program} {md : Region.Mode} {l : List Oper} {t : Oper} {Q : Exit → Act → World → Prop}

theorem ready_head {listed : Array Bool} (hT : tailB md (l ++ [t]).toArray l.length = true) (hs : listed.size = l.length + 1) {i : Nat} (hi : i < l.length) :
    i ∈ Region.ready md (l ++ [t]).toArray listed ↔ i ∈ Region.ready md l.toArray listed.pop := by
  have e : (l ++ [t]).toArray[i]? = l.toArray[i]? := by simp [List.getElem?_append_left hi]
  rw [mem_ready, mem_ready, e, pop_getD hs hi]
  refine and_congr_right fun _ => ⟨?_, ?_⟩
  · rintro ⟨o, ho, h⟩
    refine ⟨o, ho, fun x hx hb => ?_⟩
    have hlt := (tailB_at hT (i := i) (by omega) (e.trans ho)).1 x hx hb
    rw [pop_getD hs (by omega)]
    exact h x hx hb
  · rintro ⟨o, ho, h⟩
    refine ⟨o, ho, fun x hx hb => ?_⟩
    have hlt := (tailB_at hT (i := i) (by omega) (e.trans ho)).1 x hx hb
    have := h x hx hb
    rw [pop_getD hs (by omega)] at this
    exact this

/-- None of the head is to come: all of it is listed. -/
theorem head_all {listed : Array Bool} (hT : tailB md (l ++ [t]).toArray l.length = true) (hs : listed.size = l.length + 1) (hr : Region.ready md l.toArray listed.pop = []) :
    ∀ i, i < l.length → listed.getD i false = true := by
  intro i
  induction i using Nat.strongRecOn with
  | _ i ih =>
    intro hi
    by_cases h : listed.getD i true = false
    · exfalso
      have e : (l ++ [t]).toArray[i]? = some l[i] := by simp [List.getElem?_append_left hi, List.getElem?_eq_getElem hi]
      have hm : i ∈ Region.ready md l.toArray listed.pop := (ready_head hT hs hi).1 (mem_ready.2 ⟨h, l[i], e, fun x hx hb => by
        have hlt := (tailB_at hT (i := i) (by omega) e).1 x hx hb
        exact ih _ hlt (by omega)⟩)
      rw [hr] at hm
      cases hm
    · have h2 : i < listed.size := by omega
      simp [h2] at h ⊢
      exact h

theorem tail_ready {listed : Array Bool} (hT : tailB md (l ++ [t]).toArray l.length = true) (hs : listed.size = l.length + 1) (hn : listed.getD l.length true = false) (hr : Region.ready md l.toArray listed.pop = []) :
    l.length ∈ Region.ready md (l ++ [t]).toArray listed := by
  have e : (l ++ [t]).toArray[l.length]? = some t := by simp
  refine mem_ready.2 ⟨hn, t, e, fun x hx hb => ?_⟩
  have hlt := (tailB_at hT (Nat.le_refl _) e).1 x hx hb
  exact head_all hT hs hr _ hlt

theorem ready_cases {listed : Array Bool} (hT : tailB md (l ++ [t]).toArray l.length = true) (hs : listed.size = l.length + 1) {i : Nat} (hi : i ∈ Region.ready md (l ++ [t]).toArray listed) :
    i = l.length ∨ (i < l.length ∧ i ∈ Region.ready md l.toArray listed.pop) := by
  obtain ⟨_, o, ho, _⟩ := mem_ready.1 hi
  have hlt : i < (l ++ [t]).toArray.size := (Array.getElem?_eq_some_iff.1 ho).1
  simp at hlt
  by_cases h : i = l.length
  · exact .inl h
  · exact .inr ⟨by omega, (ready_head hT hs (by omega)).1 hi⟩

theorem any_tail (hT : tailB md (l ++ [t]).toArray l.length = true) : ∀ (fuel : Nat) (listed : Array Bool) (a : Act) (w : World), listed.size = l.length + 1 → listed.getD l.length true = false →
    ClosedUp md (l ++ [t]).toArray listed → wpAny P md l.toArray (headPost P (l ++ [t]).toArray l.length Q) fuel listed.pop a w → wpAny P md (l ++ [t]).toArray Q (fuel + 1) listed a w := by
  -- the last step
  have last : ∀ (fuel : Nat) (listed : Array Bool) (a : Act) (w : World), listed.size = l.length + 1 → listed.getD l.length true = false → Region.ready md l.toArray listed.pop = [] →
      headPost P (l ++ [t]).toArray l.length Q .normal a w → wpAny P md (l ++ [t]).toArray Q (fuel + 1) listed a w := by
    intro fuel listed a w hs hn hr hq
    have htr := tail_ready hT hs hn hr
    refine ⟨fun h0 => (by rw [h0] at htr; cases htr), fun i hi => ?_⟩
    rcases ready_cases hT hs hi with rfl | ⟨_, h2⟩
    · have hr2 : Region.ready md (l ++ [t]).toArray (listed.setIfInBounds l.length true) = [] := by
        rw [List.eq_nil_iff_forall_not_mem]
        intro j hj
        obtain ⟨hu, o, ho, hall⟩ := mem_ready.1 hj
        have hlt : j < (l ++ [t]).toArray.size := (Array.getElem?_eq_some_iff.1 ho).1
        simp at hlt
        by_cases h : l.length = j
        · subst h
          simp [hs] at hu
        · rw [getD_set_ne true h] at hu
          have := head_all hT hs hr j (by omega)
          have h2 : j < listed.size := by omega
          simp [h2] at hu this
          rw [hu] at this
          cases this
      exact wpOp_mono (fun a' w' h' => any_done hr2 h' fuel) hq
    · rw [hr] at h2; cases h2
  intro fuel
  induction fuel with
  | zero => intro listed a w hs hn _ h; exact last 0 listed a w hs hn h.1 h.2
  | succ fuel ih =>
    intro listed a w hs hn hc h
    by_cases hr : Region.ready md l.toArray listed.pop = []
    · exact last _ listed a w hs hn hr (h.1 hr)
    · have hnr : l.length ∉ Region.ready md (l ++ [t]).toArray listed := by
        intro hm
        apply hr
        have hall := all_listed hT hc hm
        rw [List.eq_nil_iff_forall_not_mem]
        intro j hj
        obtain ⟨hu, o, ho, _⟩ := mem_ready.1 hj
        have hlt : j < l.toArray.size := (Array.getElem?_eq_some_iff.1 ho).1
        simp at hlt
        rw [pop_getD hs hlt] at hu
        have := hall _ j rfl hlt
        have h2 : j < listed.size := by omega
        simp [h2] at hu this
        rw [hu] at this
        cases this
      refine ⟨fun h0 => ?_, fun i hi => ?_⟩
      · exfalso
        apply hr
        rw [List.eq_nil_iff_forall_not_mem]
        intro j hj
        obtain ⟨_, o, ho, _⟩ := mem_ready.1 hj
        have hlt : j < l.toArray.size := (Array.getElem?_eq_some_iff.1 ho).1
        simp at hlt
        have := (ready_head hT hs hlt).2 hj
        rw [h0] at this
        cases this
      · rcases ready_cases hT hs hi with rfl | ⟨hlt, h2⟩
        · exact absurd hi hnr
        · have hg : ∀ o, l[i]? = some o → ∀ g, o.guard = some g → g.1 < i := fun o ho => (tailB_at hT (i := i) (by omega) (by simp [List.getElem?_append_left hlt, ho])).2
          refine wpOp_head hlt hg (Q1 := headPost P (l ++ [t]).toArray l.length Q) (fun _ _ _ h => h) (fun ⟨a, w, h⟩ => ⟨a, w, h⟩) ?_
          refine wpOp_mono (fun a' w' h' => ?_) (h.2 i h2)
          refine ih _ a' w' (by simp [hs]) (by rw [getD_set_ne true (by omega)]; exact hn) (closedUp_set hc hi) ?_
          rw [pop_set hs hlt]
          exact h'
end

/-- **A region that draws its order, all of whose operations but the last are quiet in a class of worlds; the last waits for all.** -/
theorem wp_region_quiet_tail {P : Program} {C : World → Prop} {id : Nat} {Q : Exit → Act → World → Prop} {a : Act} {w : World} {l : List Oper} (n : Nat) (t : Oper) (hd : l.drop n = [t]) (hm : P.follows .mixedOrders = true)
    (hB : Region.lexB .any (l.take n).toArray = true) (hT : tailB .any l.toArray n = true) (hC : C { w with drawn := w.drawn + 1 })
    (h : wpQuiet P (l.take n).toArray C (fun a' => ∀ w', C w' → wpList P l.toArray Q [t] a' w') (l.take n) a) : (Code.region id l.toArray true).wp P Q a w := by
  have hlen : l.length = n + 1 := by
    have := congrArg List.length hd
    rw [List.length_drop] at this
    simp at this
    omega
  have hl : l.take n ++ [t] = l := by rw [← hd]; exact List.take_append_drop n l
  generalize hh : l.take n = hd' at *
  have hn : hd'.length = n := by rw [← hh, List.length_take]; omega
  subst hn
  subst hl
  refine wp_region_any hm ?_
  have hsz : (hd' ++ [t]).toArray.size = hd'.length + 1 := by simp
  rw [hsz]
  refine any_tail hT _ _ _ _ (by simp) (by simp) (fun j oj _ hl => absurd hl (by rw [getD_replicate_false]; simp)) ?_
  have hpop : (Array.replicate (hd'.length + 1) false).pop = Array.replicate hd'.length false := by simp
  rw [hpop]
  simp only [Region.lexB, Bool.and_eq_true] at hB
  have hany := wpAnyQ_lex (C := C) (md := .any) hB.1 hd' 0 (Array.replicate hd'.length false) a (by simp) (by simpa using hB.2) h
  refine wpAny_of_quiet (Q := fun a' => ∀ w', C w' → wpList P (hd' ++ [t]).toArray Q [t] a' w') (fun a' w' hw' h => ?_) _ _ _ _ hC (by simpa using hany)
  have := h w' hw'
  simpa [headPost, wpOp, wpList] using this
end Go.Proofs.Ytnddocchfkhlbaa
