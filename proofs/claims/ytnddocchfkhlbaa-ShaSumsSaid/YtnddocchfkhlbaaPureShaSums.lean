import Derived.Test.YtnddocchfkhlbaaZ18
namespace Go.Proofs.Ytnddocchfkhlbaa.Pure
open Go.RowKit Go.Proofs.YtnddocchfkhlbaaZ Go.Proofs.YtnddocchfkhlbaaW.PrintWords Go.Proofs.YtnddocchfkhlbaaW.PrintLast
theorem sums_f (a0 : ByteArray) : gatehouselaw15_ShaSums.f a0 = some true := by
  unfold gatehouselaw15_ShaSums.f gatehouselaw15_lives.f
  rw [Option.bind_some, if_pos rfl]
  by_cases h : (a0.size : Int) > 4000
  · rw [if_pos h]
  · rw [if_neg h]
    unfold sha_Sum.f gatehouseref15_Sum.f
    rw [if_pos (by omega), Option.bind_some, Option.bind_some]
    simp
theorem ShaSums : gatehouselaw15_ShaSums.Pure := fun a0 _ => sums_f a0
end Go.Proofs.Ytnddocchfkhlbaa.Pure
