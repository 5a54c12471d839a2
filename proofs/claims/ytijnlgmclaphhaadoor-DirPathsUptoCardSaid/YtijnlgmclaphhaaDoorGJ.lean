import Derived.Test.YtijnlgmclaphhaaDoorSh
import Derived.Test.YtijnlgmclaphhaaDoorC
/-! Join. -/
namespace Go.Proofs.YtijnlgmclaphhaaDoor
open Go.RowKit Go.Proofs.YtijnlgmclaphhaaDoorW.PrintWords
def joinB (l : List ByteArray) : List UInt8 := Lib.join (l.map (·.data.toList)) [47]
def joinL (l : List ByteArray) : ByteArray := ⟨#[47]⟩ ++ ⟨(joinB l).toArray⟩
theorem join48_any (A : Option Addr) (c : Nat) (l : List ByteArray) (w : World) (hr : Kd.C Kd.string w A l.length l) (hc : l.length ≤ c) (hn : l.length ≤ 140737488355328) (hs : (joinB l).length ≤ 140737488355328) :
    Calls Tryd.prog 48 #[.slice A l.length c, .string ⟨#[47]⟩] w fun e w' => e = .returned (.string ⟨(joinB l).toArray⟩) ∧ Below w.heap.size w w' := by
  obtain ⟨_, _, hcell⟩ := hr
  rcases Nat.eq_zero_or_pos l.length with h0 | h0
  · obtain rfl := List.length_eq_zero_iff.1 h0
    exact (Tryd.strings_Join_none A c ⟨#[47]⟩ w).mono fun e w' ⟨he, hw⟩ => ⟨he, hw ▸ Below.refl _ _⟩
  · obtain ⟨ad, rfl, hp⟩ := hcell h0
    obtain ⟨b, off, spot⟩ := ad
    have get : ∀ i (hi : i < l.length), w.cell? ((⟨b, off, spot⟩ : Addr).add (i * 1)) = some (.string l[i]) := by
      intro i hi
      obtain ⟨cs, _, hk, hc⟩ := hp i _ (List.getElem?_eq_getElem hi)
      have e : cs = [.string l[i]] := hk
      subst e
      exact hc 0 _ rfl
    have hsp : spot = none := by
      have := World.cell?_spot (get 0 h0)
      simpa [Addr.add] using this
    subst hsp
    have hb : b < w.heap.size := by
      have := get 0 h0
      rw [add_none] at this
      exact World.block_lt_of_cell? w _ this
    refine Tryd.strings_Join b off c l ⟨#[47]⟩ w ?_ hb hn hc hs
    intro j x hj
    have hjl : j < l.length := (List.getElem?_eq_some_iff.1 hj).1
    have e : l[j] = x := (List.getElem?_eq_some_iff.1 hj).2
    have := get j hjl
    rw [add_none, Nat.mul_one, e] at this
    exact this
theorem joinWalk (A : Option Addr) (c : Nat) (l : List ByteArray) (w : World) (hr : Kd.C Kd.string w A l.length l) (hc : l.length ≤ c) (hn : l.length ≤ 140737488355328) (hs : (joinB l).length ≤ 140737488355328) :
    Calls Tryd.prog 27 #[.slice A l.length c] w fun e w' => e = .returned (.string (joinL l)) ∧ Below w.heap.size w w' := by
  have hb : (⟨(joinB l).toArray⟩ : ByteArray).size ≤ 140737488355328 := by simpa [ByteArray.size] using hs
  have H1 := Lib.hid hr
  clear hr
  go_enter Tryd.func27, Tryd.ntmps27
  go_wp2_with fail
  refine (join48_any A c l w H1.out hc hn hs).mono ?_
  rintro e w' ⟨rfl, hbe⟩
  have HB := Lib.hid hbe
  clear hbe
  generalize hg : (⟨(joinB l).toArray⟩ : ByteArray) = jb at hb
  have hfit : 1 + jb.size ≤ 9223372036854775807 := by omega
  go_wp2
  go_ret
  exact ⟨by unfold joinL; rw [hg]; rfl, HB.out⟩
end Go.Proofs.YtijnlgmclaphhaaDoor
namespace Go.Proofs.YtijnlgmclaphhaaDoorZ
open Go.RowKit Go.Proofs.YtijnlgmclaphhaaDoor Go.Proofs.YtijnlgmclaphhaaDoorW.PrintWords
def dir_Join.f (l : List ByteArray) : Option ByteArray := if l.length ≤ 140737488355328 ∧ (joinB l).length ≤ 140737488355328 then some (joinL l) else none
theorem dir_Join.calls (A : Option Addr) (c : Nat) (l : List ByteArray) (r : ByteArray) (w : World) (hr : Kd.C Kd.string w A l.length l) (hc : l.length ≤ c) (h : dir_Join.f l = some r) :
    Calls Tryd.prog 27 #[.slice A l.length c] w fun e w' => e = .returned (.string r) ∧ Below w.heap.size w w' := by
  unfold dir_Join.f at h
  split at h
  · rename_i hh
    injection h with h
    subst h
    exact joinWalk A c l w hr hc hh.1 hh.2
  · cases h
end Go.Proofs.YtijnlgmclaphhaaDoorZ
