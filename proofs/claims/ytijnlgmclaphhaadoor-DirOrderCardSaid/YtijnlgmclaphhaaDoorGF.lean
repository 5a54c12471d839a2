import Derived.Test.YtijnlgmclaphhaaDoorF3
import Derived.Test.YtijnlgmclaphhaaDoorZ0
namespace Go.Proofs.YtijnlgmclaphhaaDoorZ
open Go.RowKit Go.Proofs.YtijnlgmclaphhaaDoor
def dir_fits.f (a0 : ByteArray) : Option Bool := some (fitsB a0)
theorem dir_fits.calls (a0 : ByteArray) (r : Bool) (w : World) (h : dir_fits.f a0 = some r) :
    Calls Tryd.prog 49 #[.string a0] w fun e w' => e = .returned (.bool r) ∧ Below w.heap.size w w' := by
  cases h
  exact fits_any a0 w
end Go.Proofs.YtijnlgmclaphhaaDoorZ
