import Derived.Test.YtijnlgmclaphhaaDoorU2
import Derived.Test.YtijnlgmclaphhaaDoorZ0
namespace Go.Proofs.YtijnlgmclaphhaaDoorZ
open Go.RowKit Go.Proofs.YtijnlgmclaphhaaDoor Go.Proofs.YtijnlgmclaphhaaDoorW.PrintWords
theorem R_of_strs {w : World} {base : Nat} {v : Value} (L : List ByteArray) (h : w.ownsRow base 9 1 v L.length (strs L)) : Kd.R Kd.string 9 w base (fun _ => True) v L := by
  refine ⟨fun _ _ => trivial, strs L, h, by show (strs L).length = L.length * 1; simp [strs], ?_⟩
  intro j m hj
  have hjl : j < L.length := (List.getElem?_eq_some_iff.1 hj).1
  have e : ((strs L).drop (j * 1)).take 1 = [Value.string m] := by
    unfold strs
    rw [← List.map_drop, ← List.map_take, Nat.mul_one, List.drop_eq_getElem_cons hjl, (List.getElem?_eq_some_iff.1 hj).2]
    rfl
  show Kd.string.M w base _ m (((strs L).drop (j * 1)).take 1)
  rw [e]
  rfl
def dir_Split.f (a0 : ByteArray) : Option (List ByteArray × Int) := some (splitL a0)
theorem dir_Split.calls (a0 : ByteArray) (r1 : List ByteArray) (r2 : Int) (w : World) (h : dir_Split.f a0 = some (r1, r2)) :
    Calls Tryd.prog 24 #[.string a0] w fun e w' => ∃ v0_ : Value, e = .returned (.tuple #[v0_, .int .i64 r2]) ∧ Kd.R Kd.string 9 w' w.heap.size (fun _ => True) v0_ r1 ∧ Below w.heap.size w w' := by
  unfold dir_Split.f at h
  injection h with h
  refine (split_any a0 w).mono ?_
  rw [h]
  rintro e w' ⟨v', rfl, ho, hb⟩
  exact ⟨v', rfl, R_of_strs _ ho, hb⟩
end Go.Proofs.YtijnlgmclaphhaaDoorZ
