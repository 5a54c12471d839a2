/-
  DERIVED. GIVEN WITH THE SEED: THE CARDS: each row of YtijnlgmclaphhaaDoorRows.lean that lists a variable, with what it lists TIED to the program's text (the seventh form; the later family's looks); each row that meets fmt, with fmt's text TOLD by the authors' own Lean function (tested against real Go, not proved from fmt's source: count such statements apart). THE CARD IS WHAT COUNTS. Prove the row's statement (the work); the ties are given (YtijnlgmclaphhaaDoorTie.lean); close each card by the builder's one call (the guide's Derived/Test/ToyasCard.lean, 'card_holds'). Laid BY PROGRAM, IN A SANDBOX (cutbox-door.mjs). By AI agents, Wed Nov 11 2026. No macro, syntax, notation, axiom, sorry.
-/
import Derived.Test.YtijnlgmclaphhaaDoorRows
import GoSem.ClaimSeven
namespace Go.Proofs.YtijnlgmclaphhaaDoor
namespace Rows

/-- THE TIED CARD OF 'gatehouselaw13.DirOrder'. -/
def dirOrderCard : Claim7 := { stood := { row := dirOrderRow, standIns := [], harness := (true, "fd8ffbab59c14fc063daa6b53bdb57322bc430c9d5d99c734e59434aef195340"), looks := false }, kinds := [], alts := [], laidByText := true, laidKinds := [.data, .pinned], laidTests := true, laidLooks := .later }
def DirOrderCardSaid : Prop := Claim7.holds Tryd.pinned (.plain (OpenSpec.ofChange dirOrderSpec)) dirOrderCard

/-- THE TIED CARD OF 'gatehouselaw13.DirFull'. -/
def dirFullCard : Claim7 := { stood := { row := dirFullRow, standIns := [], harness := (true, "fd8ffbab59c14fc063daa6b53bdb57322bc430c9d5d99c734e59434aef195340"), looks := false }, kinds := [], alts := [], laidByText := true, laidKinds := [.data, .pinned], laidTests := true, laidLooks := .later }
def DirFullCardSaid : Prop := Claim7.holds Tryd.pinned (.plain (OpenSpec.ofChange dirFullSpec)) dirFullCard

/-- THE TIED CARD OF 'gatehouselaw13.DirBytes'. -/
def dirBytesCard : Claim7 := { stood := { row := dirBytesRow, standIns := [], harness := (true, "fd8ffbab59c14fc063daa6b53bdb57322bc430c9d5d99c734e59434aef195340"), looks := false }, kinds := [], alts := [], laidByText := true, laidKinds := [.data, .pinned], laidTests := true, laidLooks := .later }
def DirBytesCardSaid : Prop := Claim7.holds Tryd.pinned (.plain (OpenSpec.ofChange dirBytesSpec)) dirBytesCard

/-- THE TIED CARD OF 'gatehouselaw13.DirTurns'. -/
def dirTurnsCard : Claim7 := { stood := { row := dirTurnsRow, standIns := [], harness := (true, "fd8ffbab59c14fc063daa6b53bdb57322bc430c9d5d99c734e59434aef195340"), looks := false }, kinds := [], alts := [], laidByText := true, laidKinds := [.data, .pinned], laidTests := true, laidLooks := .later }
def DirTurnsCardSaid : Prop := Claim7.holds Tryd.pinned (.plain (OpenSpec.ofChange dirTurnsSpec)) dirTurnsCard

/-- THE TIED CARD OF 'gatehouselaw13.DirPaths'. -/
def dirPathsCard : Claim7 := { stood := { row := dirPathsRow, standIns := [], harness := (true, "fd8ffbab59c14fc063daa6b53bdb57322bc430c9d5d99c734e59434aef195340"), looks := false }, kinds := [], alts := [], laidByText := true, laidKinds := [.data, .pinned], laidTests := true, laidLooks := .later }
def DirPathsCardSaid : Prop := Claim7.holds Tryd.pinned (.plain (OpenSpec.ofChange dirPathsSpec)) dirPathsCard

/-- THE TIED CARD OF 'gatehouselaw13.DirWays'. -/
def dirWaysCard : Claim7 := { stood := { row := dirWaysRow, standIns := [], harness := (true, "fd8ffbab59c14fc063daa6b53bdb57322bc430c9d5d99c734e59434aef195340"), looks := false }, kinds := [], alts := [], laidByText := true, laidKinds := [.data, .pinned], laidTests := true, laidLooks := .later }
def DirWaysCardSaid : Prop := Claim7.holds Tryd.pinned (.plain (OpenSpec.ofChange dirWaysSpec)) dirWaysCard

/-- THE TIED CARD OF 'gatehouselaw13.DirBack'. -/
def dirBackCard : Claim7 := { stood := { row := dirBackRow, standIns := [], harness := (true, "fd8ffbab59c14fc063daa6b53bdb57322bc430c9d5d99c734e59434aef195340"), looks := false }, kinds := [], alts := [], laidByText := true, laidKinds := [.data, .pinned], laidTests := true, laidLooks := .later }
def DirBackCardSaid : Prop := Claim7.holds Tryd.pinned (.plain (OpenSpec.ofChange dirBackSpec)) dirBackCard

/-- THE SECOND FORM's CARD OF 'gatehouselaw13.DirOrder'. -/
def dirOrderUptoCard : Claim7 := { stood := { row := dirOrderUptoRow, standIns := [], harness := (true, "fd8ffbab59c14fc063daa6b53bdb57322bc430c9d5d99c734e59434aef195340"), looks := false }, kinds := [], alts := [], laidByText := true, laidKinds := [.data, .pinned], laidTests := true, laidLooks := .later }
def DirOrderUptoCardSaid : Prop := Claim7.holds Tryd.pinned (.plain (OpenSpec.upto dirOrderSpec)) dirOrderUptoCard

/-- THE SECOND FORM's CARD OF 'gatehouselaw13.DirFull'. -/
def dirFullUptoCard : Claim7 := { stood := { row := dirFullUptoRow, standIns := [], harness := (true, "fd8ffbab59c14fc063daa6b53bdb57322bc430c9d5d99c734e59434aef195340"), looks := false }, kinds := [], alts := [], laidByText := true, laidKinds := [.data, .pinned], laidTests := true, laidLooks := .later }
def DirFullUptoCardSaid : Prop := Claim7.holds Tryd.pinned (.plain (OpenSpec.upto dirFullSpec)) dirFullUptoCard

/-- THE SECOND FORM's CARD OF 'gatehouselaw13.DirBytes'. -/
def dirBytesUptoCard : Claim7 := { stood := { row := dirBytesUptoRow, standIns := [], harness := (true, "fd8ffbab59c14fc063daa6b53bdb57322bc430c9d5d99c734e59434aef195340"), looks := false }, kinds := [], alts := [], laidByText := true, laidKinds := [.data, .pinned], laidTests := true, laidLooks := .later }
def DirBytesUptoCardSaid : Prop := Claim7.holds Tryd.pinned (.plain (OpenSpec.upto dirBytesSpec)) dirBytesUptoCard

/-- THE SECOND FORM's CARD OF 'gatehouselaw13.DirTurns'. -/
def dirTurnsUptoCard : Claim7 := { stood := { row := dirTurnsUptoRow, standIns := [], harness := (true, "fd8ffbab59c14fc063daa6b53bdb57322bc430c9d5d99c734e59434aef195340"), looks := false }, kinds := [], alts := [], laidByText := true, laidKinds := [.data, .pinned], laidTests := true, laidLooks := .later }
def DirTurnsUptoCardSaid : Prop := Claim7.holds Tryd.pinned (.plain (OpenSpec.upto dirTurnsSpec)) dirTurnsUptoCard

/-- THE SECOND FORM's CARD OF 'gatehouselaw13.DirPaths'. -/
def dirPathsUptoCard : Claim7 := { stood := { row := dirPathsUptoRow, standIns := [], harness := (true, "fd8ffbab59c14fc063daa6b53bdb57322bc430c9d5d99c734e59434aef195340"), looks := false }, kinds := [], alts := [], laidByText := true, laidKinds := [.data, .pinned], laidTests := true, laidLooks := .later }
def DirPathsUptoCardSaid : Prop := Claim7.holds Tryd.pinned (.plain (OpenSpec.upto dirPathsSpec)) dirPathsUptoCard

/-- THE SECOND FORM's CARD OF 'gatehouselaw13.DirWays'. -/
def dirWaysUptoCard : Claim7 := { stood := { row := dirWaysUptoRow, standIns := [], harness := (true, "fd8ffbab59c14fc063daa6b53bdb57322bc430c9d5d99c734e59434aef195340"), looks := false }, kinds := [], alts := [], laidByText := true, laidKinds := [.data, .pinned], laidTests := true, laidLooks := .later }
def DirWaysUptoCardSaid : Prop := Claim7.holds Tryd.pinned (.plain (OpenSpec.upto dirWaysSpec)) dirWaysUptoCard

/-- THE SECOND FORM's CARD OF 'gatehouselaw13.DirBack'. -/
def dirBackUptoCard : Claim7 := { stood := { row := dirBackUptoRow, standIns := [], harness := (true, "fd8ffbab59c14fc063daa6b53bdb57322bc430c9d5d99c734e59434aef195340"), looks := false }, kinds := [], alts := [], laidByText := true, laidKinds := [.data, .pinned], laidTests := true, laidLooks := .later }
def DirBackUptoCardSaid : Prop := Claim7.holds Tryd.pinned (.plain (OpenSpec.upto dirBackSpec)) dirBackUptoCard
end Rows
end Go.Proofs.YtijnlgmclaphhaaDoor
