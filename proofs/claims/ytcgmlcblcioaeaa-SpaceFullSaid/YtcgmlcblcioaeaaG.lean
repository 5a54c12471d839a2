import Derived.Test.YtcgmlcblcioaeaaN2
import Derived.Test.YtcgmlcblcioaeaaZ0
namespace Go.Proofs.YtcgmlcblcioaeaaZ
open Go.RowKit Go.Proofs.YtcgmlcblcioaeaaW.PrintWords Go.Proofs.YtcgmlcblcioaeaaW.PrintLast Go.Proofs.YtcgmlcblcioaeaaW.PrintMore

def S31.m (x : S31) : Ytcgmlcblcioaeaa.Mp := ⟨x.f0, x.f1, x.f2, x.f3, x.f4, x.f5, x.f6⟩
def ofMp (m : Ytcgmlcblcioaeaa.Mp) : S31 := ⟨m.va, m.pages, m.inn, m.num, m.frm, m.wri, m.run⟩
theorem m_ofMp (m : Ytcgmlcblcioaeaa.Mp) : (ofMp m).m = m := rfl
theorem ofMp_m (x : S31) : ofMp x.m = x := rfl
theorem map_m_of (l : List Ytcgmlcblcioaeaa.Mp) : (l.map ofMp).map S31.m = l := by
  rw [List.map_map]
  conv => rhs; rw [← List.map_id l]
  rfl
theorem map_of_m (l : List S31) : (l.map S31.m).map ofMp = l := by
  rw [List.map_map]
  conv => rhs; rw [← List.map_id l]
  rfl
theorem rows_of_C {w : World} {A : Option Addr} {c : Nat} {l : List S31} (h : Kd.C k31 w A l.length l) (hc : l.length ≤ c) : Ytcgmlcblcioaeaa.RowsAt w (.slice A l.length c) (l.map S31.m) := by
  obtain ⟨_, hmax, hcell⟩ := h
  have hmax' : l.length ≤ maxLen := by unfold maxLen; omega
  rcases Nat.eq_zero_or_pos l.length with h0 | h0
  · refine ⟨A, c, 0, 0, by rw [List.length_map], by rw [List.length_map]; exact hc, by rw [List.length_map]; exact hmax', fun h => absurd h (by rw [List.length_map]; omega), fun i hi => absurd hi (by rw [List.length_map]; omega)⟩
  · obtain ⟨ad, rfl, hp⟩ := hcell h0
    obtain ⟨b, off, spot⟩ := ad
    have get : ∀ i (hi : i < l.length), ∀ j u, [Value.int .i64 (l[i]).f0, .int .i64 (l[i]).f1, .int .i64 (l[i]).f2, .int .i64 (l[i]).f3, .int .i64 (l[i]).f4, .bool (l[i]).f5, .bool (l[i]).f6][j]? = some u → w.cell? ((⟨b, off, spot⟩ : Addr).add (i * 7 + j)) = some u := by
      intro i hi
      obtain ⟨cs, _, hk, hc⟩ := hp i _ (List.getElem?_eq_getElem hi)
      obtain rfl := k31_open hk
      exact hc
    have hs : spot = none := by
      have := World.cell?_spot (get 0 h0 0 _ rfl)
      simpa [Addr.add] using this
    subst hs
    have hadd : ∀ k, (⟨b, off, none⟩ : Addr).add k = ⟨b, off + k, none⟩ := fun k => by unfold Addr.add; split <;> simp_all
    refine ⟨some ⟨b, off, none⟩, c, b, off, by rw [List.length_map], by rw [List.length_map]; exact hc, by rw [List.length_map]; exact hmax', fun _ => ⟨rfl, ?_⟩, fun i hi j hj => ?_⟩
    · have h1 := get 0 h0 0 _ rfl
      rw [hadd] at h1
      rcases Nat.lt_or_ge b w.heap.size with h2 | h2
      · exact h2
      · have : w.heap[b]? = none := by simp [h2]
        simp [World.cell?, this] at h1
    · have hi' : i < l.length := by simpa using hi
      have g := get i hi' j
      rw [hadd, ← Nat.add_assoc] at g
      rw [List.getElem_map]
      match j, hj with
      | 0, _ => exact g _ rfl
      | 1, _ => exact g _ rfl
      | 2, _ => exact g _ rfl
      | 3, _ => exact g _ rfl
      | 4, _ => exact g _ rfl
      | 5, _ => exact g _ rfl
      | 6, _ => exact g _ rfl
theorem R_of_row {w : World} {base : Nat} {v : Value} (L : List Ytcgmlcblcioaeaa.Mp) (h : w.ownsRow base 31 7 v L.length (Ytcgmlcblcioaeaa.mcells L)) : Kd.R k31 31 w base (fun _ => True) v (L.map ofMp) := by
  refine ⟨fun _ _ => trivial, Ytcgmlcblcioaeaa.mcells L, by rw [List.length_map]; exact h, ?_, ?_⟩
  · rw [List.length_map]; exact Ytcgmlcblcioaeaa.mcells_length L
  · intro j p hj
    rw [List.getElem?_map] at hj
    cases hq : L[j]? with
    | none => rw [hq] at hj; cases hj
    | some m =>
      rw [hq] at hj
      cases hj
      have hjl : j < L.length := (List.getElem?_eq_some_iff.1 hq).1
      have e : ((Ytcgmlcblcioaeaa.mcells L).drop (j * 7)).take 7 = m.list := by
        rw [← Ytcgmlcblcioaeaa.mcells_drop, List.drop_eq_getElem_cons hjl]
        have : L[j] = m := by rw [List.getElem?_eq_getElem hjl] at hq; exact Option.some.inj hq
        rw [this]
        have e2 : Ytcgmlcblcioaeaa.mcells (m :: L.drop (j + 1)) = m.list ++ Ytcgmlcblcioaeaa.mcells (L.drop (j + 1)) := rfl
        rw [e2, List.take_append_of_le_length (by simp [Ytcgmlcblcioaeaa.Mp.list]), List.take_of_length_le (by simp [Ytcgmlcblcioaeaa.Mp.list])]
      show k31.M w base _ (ofMp m) (((Ytcgmlcblcioaeaa.mcells L).drop (j * 7)).take 7)
      rw [e]
      exact k31_mkM w base _ (ofMp m)

def space_at.f (l0 : List (S31)) (a1 : Int) : Option (Int) := if Ytcgmlcblcioaeaa.rightL (l0.map S31.m) = true ∧ -1000000000 ≤ a1 ∧ a1 ≤ 1000000000 then some (Ytcgmlcblcioaeaa.atI (l0.map S31.m) a1 : Int) else none
theorem space_at.calls (A0 : Option Addr) (c0 : Nat) (l0 : List (S31)) (a1 : Int) (r : Int) (w : World) (hr0 : Kd.C k31 w A0 l0.length l0) (hc0 : l0.length ≤ c0) (h : space_at.f l0 a1 = some r) :
    Calls Try.prog 21 #[.slice A0 l0.length c0, .int .i64 a1] w fun e w' => e = .returned (.int .i64 r) ∧ Below w.heap.size w w' := by
  unfold space_at.f at h
  split at h
  · rename_i hq
    cases h
    exact Ytcgmlcblcioaeaa.at_any _ _ a1 w (rows_of_C hr0 hc0) hq.1 hq.2
  · cases h
def space_Put.f (l0 : List (S31)) (a1_0 : Int) (a1_1 : Int) (a1_2 : Int) (a1_3 : Int) (a1_4 : Int) (a1_5 : Bool) (a1_6 : Bool) : Option ((List (S31)) × Int) :=
  some ((Ytcgmlcblcioaeaa.putL (l0.map S31.m) ⟨a1_0, a1_1, a1_2, a1_3, a1_4, a1_5, a1_6⟩).1.map ofMp, (Ytcgmlcblcioaeaa.putL (l0.map S31.m) ⟨a1_0, a1_1, a1_2, a1_3, a1_4, a1_5, a1_6⟩).2)
theorem space_Put.calls (A0 : Option Addr) (c0 : Nat) (l0 : List (S31)) (a1_0 : Int) (a1_1 : Int) (a1_2 : Int) (a1_3 : Int) (a1_4 : Int) (a1_5 : Bool) (a1_6 : Bool) (r1 : List (S31)) (r2 : Int) (w : World) (hr0 : Kd.C k31 w A0 l0.length l0) (hc0 : l0.length ≤ c0)
    (h : space_Put.f l0 a1_0 a1_1 a1_2 a1_3 a1_4 a1_5 a1_6 = some (r1, r2)) :
    Calls Try.prog 12 #[.slice A0 l0.length c0, .agg #[.int .i64 a1_0, .int .i64 a1_1, .int .i64 a1_2, .int .i64 a1_3, .int .i64 a1_4, .bool a1_5, .bool a1_6]] w fun e w' => ∃ v0_ : Value, e = .returned (.tuple #[v0_, .int .i64 r2]) ∧ Kd.R k31 31 w' w.heap.size (fun _ => True) v0_ r1 ∧ Below w.heap.size w w' := by
  unfold space_Put.f at h
  cases h
  refine (Ytcgmlcblcioaeaa.put_any _ _ ⟨a1_0, a1_1, a1_2, a1_3, a1_4, a1_5, a1_6⟩ w (rows_of_C hr0 hc0)).mono ?_
  rintro e w' ⟨v', rfl, ho, hb⟩
  exact ⟨v', rfl, R_of_row _ ho, hb⟩
def space_Cut.f (l0 : List (S31)) (a1 : Int) : Option ((List (S31)) × Int) := some ((Ytcgmlcblcioaeaa.cutL (l0.map S31.m) a1).1.map ofMp, (Ytcgmlcblcioaeaa.cutL (l0.map S31.m) a1).2)
theorem space_Cut.calls (A0 : Option Addr) (c0 : Nat) (l0 : List (S31)) (a1 : Int) (r1 : List (S31)) (r2 : Int) (w : World) (hr0 : Kd.C k31 w A0 l0.length l0) (hc0 : l0.length ≤ c0) (h : space_Cut.f l0 a1 = some (r1, r2)) :
    Calls Try.prog 16 #[.slice A0 l0.length c0, .int .i64 a1] w fun e w' => ∃ v0_ : Value, e = .returned (.tuple #[v0_, .int .i64 r2]) ∧ Kd.R k31 31 w' w.heap.size (fun _ => True) v0_ r1 ∧ Below w.heap.size w w' := by
  unfold space_Cut.f at h
  cases h
  refine (Ytcgmlcblcioaeaa.cut_any _ _ a1 w (rows_of_C hr0 hc0)).mono ?_
  rintro e w' ⟨v', rfl, ho, hb⟩
  exact ⟨v', rfl, R_of_row _ ho, hb⟩
end Go.Proofs.YtcgmlcblcioaeaaZ
