import Derived.Test.YtnddocchfkhlbaaR
/-! The same with a tail of several operations, each of which waits for all ahead of it. -/
namespace Go.Proofs.Ytnddocchfkhlbaa
open Go

theorem wpList_snoc {P : Program} {Q : Exit → Act → World → Prop} {t : Oper} {ops1 ops2 ops3 : Array Oper} {n : Nat} (hn : ops2[n]? = some t) (htg : t.guard = none) :
    ∀ (ts : List Oper) (a : Act) (w : World), (∀ o ∈ ts, o.guard = none) → wpList P ops1 Q (ts ++ [t]) a w → wpList P ops3 (headPost P ops2 n Q) ts a w
  | [], a, w, _, h => by
    show wpOp P ops2 Q n (fun a w => Q .normal a w) a w
    have h2 : (if Region.wanted t (yielded ops1 a.tmps) then t.wp P a w (wpList P ops1 Q []) Q ∨ (t.asks P a w ∧ LetsOut Q) else wpList P ops1 Q [] (a.put t.dst undef) w) := h
    rw [if_pos (by simp [Region.wanted, htg])] at h2
    unfold wpOp
    rw [hn]
    simp only
    rw [if_pos (by simp [Region.wanted, htg])]
    exact h2
  | o :: ts, a, w, hg, h => by
    have hog : o.guard = none := hg o (by simp)
    have h2 : (if Region.wanted o (yielded ops1 a.tmps) then o.wp P a w (wpList P ops1 Q (ts ++ [t])) Q ∨ (o.asks P a w ∧ LetsOut Q) else wpList P ops1 Q (ts ++ [t]) (a.put o.dst undef) w) := h
    rw [if_pos (by simp [Region.wanted, hog])] at h2
    show (if Region.wanted o (yielded ops3 a.tmps) then o.wp P a w (wpList P ops3 (headPost P ops2 n Q) ts) (headPost P ops2 n Q) ∨ (o.asks P a w ∧ LetsOut (headPost P ops2 n Q)) else wpList P ops3 (headPost P ops2 n Q) ts (a.put o.dst undef) w)
    rw [if_pos (by simp [Region.wanted, hog])]
    rcases h2 with h2 | ⟨h2, a', w', h3⟩
    · refine .inl (wpQ_mono (fun _ _ _ h => h) (fun ⟨a, w, h⟩ => ⟨a, w, h⟩) (Oper.wp_mono (fun a w h => wpList_snoc hn htg ts a w (fun o ho => hg o (by simp [ho])) h) h2))
    · exact .inr ⟨h2, a', w', h3⟩

/-- What the tail asks. -/
def listPost (P : Program) (ops : Array Oper) (ts : List Oper) (Q : Exit → Act → World → Prop) : Exit → Act → World → Prop
  | .normal, a, w => wpList P ops Q ts a w
  | e, a, w => Q e a w

theorem wpAny_mono {P : Program} {md : Region.Mode} {ops : Array Oper} {Q Q' : Exit → Act → World → Prop} (hn : ∀ a w, Q .normal a w → Q' .normal a w) (hp : ∀ c a w, Q (.panic c) a w → Q' (.panic c) a w) (hl : LetsOut Q → LetsOut Q') :
    ∀ (fuel : Nat) (listed : Array Bool) (a : Act) (w : World), wpAny P md ops Q fuel listed a w → wpAny P md ops Q' fuel listed a w
  | 0, _, _, _, h => ⟨h.1, hn _ _ h.2⟩
  | fuel + 1, listed, a, w, h => ⟨fun h0 => hn _ _ (h.1 h0), fun i hi => by
    have h2 := wpOp_mono (fun a w h => wpAny_mono hn hp hl fuel _ a w h) (h.2 i hi)
    unfold wpOp at *
    split
    · rename_i ho; simp only [ho] at h2; exact h2
    · rename_i o ho
      simp only [ho] at h2
      split
      · rename_i hw; rw [if_pos hw] at h2; exact h2.imp (wpQ_mono hp hl) (fun ⟨x, y⟩ => ⟨x, hl y⟩)
      · rename_i hw; rw [if_neg hw] at h2; exact h2⟩

/-- Each of the operations from n on waits for all ahead of it. -/
def tailsB (md : Region.Mode) (l : List Oper) (n : Nat) : Nat → Bool
  | 0 => true
  | k + 1 => tailsB md l n k && tailB md (l.take (n + k + 1)).toArray (n + k) && (match l[n + k]? with | some o => o.guard.isNone | none => false)

theorem any_tails {P : Program} {md : Region.Mode} {l : List Oper} {ops : Array Oper} {n : Nat} {a : Act} {w : World} : ∀ (k : Nat) (Q : Exit → Act → World → Prop), n + k ≤ l.length → tailsB md l n k = true →
    wpAny P md (l.take n).toArray (listPost P ops ((l.drop n).take k) Q) n (Array.replicate n false) a w →
    wpAny P md (l.take (n + k)).toArray Q (n + k) (Array.replicate (n + k) false) a w
  | 0, Q, _, _, h => by
    refine wpAny_mono (Q := listPost P ops ((l.drop n).take 0) Q) (Q' := Q) (fun _ _ h => ?_) (fun _ _ _ h => h) (fun ⟨a, w, h⟩ => ⟨a, w, h⟩) _ _ _ _ h
    simpa [listPost, wpList] using h
  | k + 1, Q, hk, hB, h => by
    simp only [tailsB, Bool.and_eq_true] at hB
    obtain ⟨⟨hB1, hB2⟩, hB3⟩ := hB
    have hlt : n + k < l.length := by omega
    have hsplit : l.take (n + k + 1) = l.take (n + k) ++ [l[n + k]] := List.take_succ_eq_append_getElem hlt
    have hlen : (l.take (n + k)).length = n + k := by rw [List.length_take]; omega
    have hgd : (l[n + k]).guard = none := by
      rw [List.getElem?_eq_getElem hlt] at hB3
      simpa using hB3
    rw [show n + (k + 1) = n + k + 1 from rfl, hsplit]
    rw [hsplit] at hB2
    have hB2' : tailB md (l.take (n + k) ++ [l[n + k]]).toArray (l.take (n + k)).length = true := by rw [hlen]; exact hB2
    refine any_tail hB2' _ _ _ _ (by simp [hlen]) (by simp [hlen]) (fun j oj _ hl => absurd hl (by rw [getD_replicate_false]; simp)) ?_
    have hpop : (Array.replicate (n + k + 1) false).pop = Array.replicate (n + k) false := by simp
    rw [hpop]
    refine any_tails (ops := ops) k _ (by omega) hB1 ?_
    refine wpAny_mono (Q := listPost P ops ((l.drop n).take (k + 1)) Q) (Q' := listPost P ops ((l.drop n).take k) (headPost P (l.take (n + k) ++ [l[n + k]]).toArray (l.take (n + k)).length Q)) (fun a w h => ?_) (fun _ _ _ h => h) (fun ⟨a, w, h⟩ => ⟨a, w, h⟩) _ _ _ _ h
    have htk : (l.drop n).take (k + 1) = (l.drop n).take k ++ [l[n + k]] := by
      rw [List.take_succ_eq_append_getElem (by rw [List.length_drop]; omega)]
      simp
    have h' : wpList P ops Q ((l.drop n).take (k + 1)) a w := h
    rw [htk] at h'
    refine wpList_snoc (n := (l.take (n + k)).length) ?_ hgd _ a w ?_ h'
    · rw [List.getElem?_toArray, List.getElem?_append_right (Nat.le_refl _), Nat.sub_self]; rfl
    · intro o ho
      obtain ⟨i, hi, rfl⟩ := List.getElem_of_mem ho
      rw [List.length_take, List.length_drop] at hi
      have : ∀ k', tailsB md l n k' = true → ∀ i, i < k' → n + k' ≤ l.length → ∀ o, l[n + i]? = some o → o.guard = none := by
        intro k'
        induction k' with
        | zero => intro _ i hi; omega
        | succ k' ih =>
          intro hB i hi hk o ho
          simp only [tailsB, Bool.and_eq_true] at hB
          by_cases e : i = k'
          · subst e
            have := hB.2
            rw [ho] at this
            simpa using this
          · exact ih hB.1.1 i (by omega) (by omega) o ho
      refine this k hB1 i (by omega) (by omega) _ ?_
      rw [List.getElem_take, List.getElem_drop, List.getElem?_eq_getElem]

/-- **Quiet ahead, then a tail in one order.** -/
theorem wp_region_quiet_tails {P : Program} {C : World → Prop} {id : Nat} {Q : Exit → Act → World → Prop} {a : Act} {w : World} {l : List Oper} (n : Nat) (hm : P.follows .mixedOrders = true)
    (hB : Region.lexB .any (l.take n).toArray = true) (hT : tailsB .any l n (l.length - n) = true) (hnl : n ≤ l.length) (hC : C { w with drawn := w.drawn + 1 })
    (h : wpQuiet P (l.take n).toArray C (fun a' => ∀ w', C w' → wpList P l.toArray Q (l.drop n) a' w') (l.take n) a) : (Code.region id l.toArray true).wp P Q a w := by
  refine wp_region_any hm ?_
  have hlen : (l.take n).length = n := by rw [List.length_take]; omega
  simp only [Region.lexB, Bool.and_eq_true] at hB
  have hany := wpAnyQ_lex (C := C) (md := .any) hB.1 (l.take n) 0 (Array.replicate n false) a (by simp) (by have := hB.2; simp only [List.size_toArray] at this; rw [hlen] at this ⊢; exact this) h
  have hw : wpAny P .any (l.take n).toArray (listPost P l.toArray ((l.drop n).take (l.length - n)) Q) n (Array.replicate n false) a { w with drawn := w.drawn + 1 } := by
    refine wpAny_of_quiet (Q := fun a' => ∀ w', C w' → wpList P l.toArray Q (l.drop n) a' w') (fun a' w' hw' h => ?_) _ _ _ _ hC (by rw [hlen] at hany; exact hany)
    have := h w' hw'
    show wpList P l.toArray Q ((l.drop n).take (l.length - n)) a' w'
    rw [List.take_of_length_le (by rw [List.length_drop]; omega)]
    exact this
  have := any_tails (l.length - n) Q (by omega) hT hw
  rw [show n + (l.length - n) = l.length by omega, List.take_length] at this
  simpa using this
end Go.Proofs.Ytnddocchfkhlbaa
