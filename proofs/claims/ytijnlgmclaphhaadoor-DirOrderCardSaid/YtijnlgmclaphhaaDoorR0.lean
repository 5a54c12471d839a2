import Derived.Test.YtijnlgmclaphhaaDoorN
/-! A row of the call's own, in the printer's words. -/
namespace Go.Proofs.YtijnlgmclaphhaaDoor
open Go.RowKit Go.Proofs.YtijnlgmclaphhaaDoorZ Go.Proofs.YtijnlgmclaphhaaDoorW.PrintWords Go.Proofs.YtijnlgmclaphhaaDoorW.PrintLast Go.Proofs.YtijnlgmclaphhaaDoorW.PrintMore

theorem R_of_row {w : World} {base : Nat} {v : Value} (L : List Nm) (h : w.ownsRow base 25 3 v L.length (ncells L)) : Kd.R k25 25 w base (fun _ => True) v L := by
  refine ⟨fun _ _ => trivial, ncells L, h, ncells_length L, ?_⟩
  intro j m hj
  have hjl : j < L.length := (List.getElem?_eq_some_iff.1 hj).1
  have e : ((ncells L).drop (j * 3)).take 3 = nlist m := by
    rw [← ncells_drop, List.drop_eq_getElem_cons hjl]
    have : L[j] = m := by rw [List.getElem?_eq_getElem hjl] at hj; exact Option.some.inj hj
    rw [this]
    have e2 : ncells (m :: L.drop (j + 1)) = nlist m ++ ncells (L.drop (j + 1)) := rfl
    rw [e2, List.take_append_of_le_length (by simp [nlist]), List.take_of_length_le (by simp [nlist])]
  show k25.M w base _ m (((ncells L).drop (j * 3)).take 3)
  rw [e]
  exact k25_mkM w base _ m
end Go.Proofs.YtijnlgmclaphhaaDoor
