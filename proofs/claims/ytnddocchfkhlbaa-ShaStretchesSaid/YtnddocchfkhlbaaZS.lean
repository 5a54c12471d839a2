import Derived.Test.YtnddocchfkhlbaaRS
import Derived.Test.YtnddocchfkhlbaaZ0
namespace Go.Proofs.YtnddocchfkhlbaaZ
open Go.RowKit Go.Proofs.Ytnddocchfkhlbaa
def gatehouseref15_Sum.f (a0 : ByteArray) : Option ByteArray := if a0.size ≤ 70368744177664 then some (bstr (shaD a0.data.toList)) else none
theorem gatehouseref15_Sum.calls (a0 : ByteArray) (r : ByteArray) (w : World) (h : gatehouseref15_Sum.f a0 = some r) :
    Calls Try.prog 11 #[.string a0] w fun e w' => e = .returned (.string r) ∧ Below w.heap.size w w' := by
  unfold gatehouseref15_Sum.f at h
  split at h
  · rename_i hs
    cases h
    exact rsum_any a0 w hs
  · cases h
end Go.Proofs.YtnddocchfkhlbaaZ
