/-
  NARROWER THAN 'FOR EVERY INPUT', by the rows' own cells (each row's printed sentence says how): DirOrder: laid · DirFull: laid · DirBytes: laid · DirTurns: laid · DirPaths: laid · DirWays: laid · DirBack: laid.
  DERIVED. THE GIVEN ROWS OF THIS SEAT. 7 by the template 'for every input the law returns true; each argument reads behind the call as it read before'; 0 by the template 'total and deterministic' (their statements: YtijnlgmclaphhaaDoorTotals.lean).
  GIVEN WITH THE SEED: the statements are not yours to turn. If you find one false, say at which input.
  Laid BY PROGRAM, IN A SANDBOX (cutbox-rows.mjs): the forced cells as the released guide's own fill.sh prints them over the translation 5ba6e2731c2aeeba… (all of the seat's roots in one cut). By AI agents, Wed Nov 11 2026. No macro, syntax, notation, axiom, sorry.
-/
import Derived.Test.YtijnlgmclaphhaaDoorChecked
import GoSem.PinnedTables
import GoSem.Claim
import GoSem.ClaimJoined
import GoSem.ClaimMapViews
import Derived.JoinedTies
import Derived.KernelRfl
namespace Go.Proofs.YtijnlgmclaphhaaDoor
/- THE CELL 'sum', in the pinned program and in every row, IS THE sha256 OF THE DUMP (.gsa) THAT YtijnlgmclaphhaaDoorProg.lean LOADS. Nothing in Lean hashes anything: it is a label: what it is worth is what the hold of that sum in a sandbox is worth. -/
noncomputable def Tryd.pinned : Pinned := { name := "ytijnlgmclaphhaadoor", sum := "5ba6e2731c2aeebacbb60e7b34b8c90e2bbc372bb74149dcaa2a3fca98651757", checked := Tryd.checked }
namespace Rows
def none {H : Type} : Left H := { results := [], args := [] }

/- WHAT THE LISTED PACKAGE-LEVEL VARIABLES READ AS WHEN THE CALL BEGINS. Each datum BY PROGRAM (the guide's laid-datum.mjs) off the statement by which the dump's own 'gosem.cut.vars' lays the variable. In a bare row this is a premise. The card (YtijnlgmclaphhaaDoorCards.lean) ties it to the program's text. -/
def laid_unicode_utf8_acceptRanges {H : Type} : DataW H := .agg [.agg [.lit (.int .u8 128), .lit (.int .u8 191)], .agg [.lit (.int .u8 160), .lit (.int .u8 191)], .agg [.lit (.int .u8 128), .lit (.int .u8 159)], .agg [.lit (.int .u8 144), .lit (.int .u8 191)], .agg [.lit (.int .u8 128), .lit (.int .u8 143)], .agg [.lit (.int .u8 0), .lit (.int .u8 0)], .agg [.lit (.int .u8 0), .lit (.int .u8 0)], .agg [.lit (.int .u8 0), .lit (.int .u8 0)], .agg [.lit (.int .u8 0), .lit (.int .u8 0)], .agg [.lit (.int .u8 0), .lit (.int .u8 0)], .agg [.lit (.int .u8 0), .lit (.int .u8 0)], .agg [.lit (.int .u8 0), .lit (.int .u8 0)], .agg [.lit (.int .u8 0), .lit (.int .u8 0)], .agg [.lit (.int .u8 0), .lit (.int .u8 0)], .agg [.lit (.int .u8 0), .lit (.int .u8 0)], .agg [.lit (.int .u8 0), .lit (.int .u8 0)]]
/-- One of Go's own tables, pinned by name: the form's constant. -/
def laid_unicode_utf8_first : DataW Unit := Go.Pinned.utf8First

/-- 'gatehouselaw13.DirOrder': WHATEVER THE INPUT: true; the input reads as it did. -/
def dirOrderSpec : ChangeSpec := { name := "dirOrder", fn := fun _ => fun
  | [d1, d2] => { results := [.lit (.bool true)], args := [d1, d2] }
  | _ => none }
def dirOrderRow : OpenClaim := { program := "ytijnlgmclaphhaadoor", sum := "5ba6e2731c2aeebacbb60e7b34b8c90e2bbc372bb74149dcaa2a3fca98651757", func := "gatehouse/gatehouselaw13.DirOrder", spec := "dirOrder", inPlace := ["internal/bytealg.IndexByteString", "internal/bytealg.IndexString", "internal/bytealg.abigen_runtime_cmpstring", "slices.overlaps[gatehouse/api.Name]", "internal/abi.NoEscape"], unfollowed := true, recurses := true, named := ["unicode/utf8.first", "unicode/utf8.acceptRanges", "internal/bytealg.MaxLen"], apart := false, laid := [("unicode/utf8.acceptRanges", laid_unicode_utf8_acceptRanges), ("unicode/utf8.first", laid_unicode_utf8_first)] }
def DirOrderSaid : Prop := dirOrderRow.holds Tryd.pinned (OpenSpec.ofChange dirOrderSpec)

/-- ITS FALSE NEIGHBOUR: 'it returns false'. Refute it at one input. -/
def dirOrderWrong : ChangeSpec := { name := "dirOrder", fn := fun _ => fun
  | [d1, d2] => { results := [.lit (.bool false)], args := [d1, d2] }
  | _ => none }
def DirOrderWrongFalsely : Prop := dirOrderRow.holds Tryd.pinned (OpenSpec.ofChange dirOrderWrong)

/-- 'gatehouselaw13.DirFull': WHATEVER THE INPUT: true; the input reads as it did. -/
def dirFullSpec : ChangeSpec := { name := "dirFull", fn := fun _ => fun
  | [d1, d2] => { results := [.lit (.bool true)], args := [d1, d2] }
  | _ => none }
def dirFullRow : OpenClaim := { program := "ytijnlgmclaphhaadoor", sum := "5ba6e2731c2aeebacbb60e7b34b8c90e2bbc372bb74149dcaa2a3fca98651757", func := "gatehouse/gatehouselaw13.DirFull", spec := "dirFull", inPlace := ["internal/bytealg.IndexByteString", "internal/bytealg.IndexString", "internal/bytealg.abigen_runtime_cmpstring", "slices.overlaps[gatehouse/api.Name]", "internal/abi.NoEscape"], unfollowed := true, recurses := true, named := ["unicode/utf8.first", "unicode/utf8.acceptRanges", "internal/bytealg.MaxLen"], apart := false, laid := [("unicode/utf8.acceptRanges", laid_unicode_utf8_acceptRanges), ("unicode/utf8.first", laid_unicode_utf8_first)] }
def DirFullSaid : Prop := dirFullRow.holds Tryd.pinned (OpenSpec.ofChange dirFullSpec)

/-- ITS FALSE NEIGHBOUR: 'it returns false'. Refute it at one input. -/
def dirFullWrong : ChangeSpec := { name := "dirFull", fn := fun _ => fun
  | [d1, d2] => { results := [.lit (.bool false)], args := [d1, d2] }
  | _ => none }
def DirFullWrongFalsely : Prop := dirFullRow.holds Tryd.pinned (OpenSpec.ofChange dirFullWrong)

/-- 'gatehouselaw13.DirBytes': WHATEVER THE INPUT: true; the input reads as it did. -/
def dirBytesSpec : ChangeSpec := { name := "dirBytes", fn := fun _ => fun
  | [d1, d2] => { results := [.lit (.bool true)], args := [d1, d2] }
  | _ => none }
def dirBytesRow : OpenClaim := { program := "ytijnlgmclaphhaadoor", sum := "5ba6e2731c2aeebacbb60e7b34b8c90e2bbc372bb74149dcaa2a3fca98651757", func := "gatehouse/gatehouselaw13.DirBytes", spec := "dirBytes", inPlace := ["internal/bytealg.IndexByteString", "internal/bytealg.IndexString", "internal/bytealg.abigen_runtime_cmpstring", "slices.overlaps[gatehouse/api.Name]", "internal/abi.NoEscape"], unfollowed := true, recurses := true, named := ["unicode/utf8.first", "unicode/utf8.acceptRanges", "internal/bytealg.MaxLen"], apart := false, laid := [("unicode/utf8.acceptRanges", laid_unicode_utf8_acceptRanges), ("unicode/utf8.first", laid_unicode_utf8_first)] }
def DirBytesSaid : Prop := dirBytesRow.holds Tryd.pinned (OpenSpec.ofChange dirBytesSpec)

/-- ITS FALSE NEIGHBOUR: 'it returns false'. Refute it at one input. -/
def dirBytesWrong : ChangeSpec := { name := "dirBytes", fn := fun _ => fun
  | [d1, d2] => { results := [.lit (.bool false)], args := [d1, d2] }
  | _ => none }
def DirBytesWrongFalsely : Prop := dirBytesRow.holds Tryd.pinned (OpenSpec.ofChange dirBytesWrong)

/-- 'gatehouselaw13.DirTurns': WHATEVER THE INPUT: true; the input reads as it did. -/
def dirTurnsSpec : ChangeSpec := { name := "dirTurns", fn := fun _ => fun
  | [d1, d2, d3] => { results := [.lit (.bool true)], args := [d1, d2, d3] }
  | _ => none }
def dirTurnsRow : OpenClaim := { program := "ytijnlgmclaphhaadoor", sum := "5ba6e2731c2aeebacbb60e7b34b8c90e2bbc372bb74149dcaa2a3fca98651757", func := "gatehouse/gatehouselaw13.DirTurns", spec := "dirTurns", inPlace := ["internal/bytealg.IndexByteString", "internal/bytealg.IndexString", "internal/bytealg.abigen_runtime_cmpstring", "slices.overlaps[gatehouse/api.Name]", "internal/abi.NoEscape"], unfollowed := true, recurses := true, named := ["unicode/utf8.first", "unicode/utf8.acceptRanges", "internal/bytealg.MaxLen"], apart := false, laid := [("unicode/utf8.acceptRanges", laid_unicode_utf8_acceptRanges), ("unicode/utf8.first", laid_unicode_utf8_first)] }
def DirTurnsSaid : Prop := dirTurnsRow.holds Tryd.pinned (OpenSpec.ofChange dirTurnsSpec)

/-- ITS FALSE NEIGHBOUR: 'it returns false'. Refute it at one input. -/
def dirTurnsWrong : ChangeSpec := { name := "dirTurns", fn := fun _ => fun
  | [d1, d2, d3] => { results := [.lit (.bool false)], args := [d1, d2, d3] }
  | _ => none }
def DirTurnsWrongFalsely : Prop := dirTurnsRow.holds Tryd.pinned (OpenSpec.ofChange dirTurnsWrong)

/-- 'gatehouselaw13.DirPaths': WHATEVER THE INPUT: true; the input reads as it did. -/
def dirPathsSpec : ChangeSpec := { name := "dirPaths", fn := fun _ => fun
  | [d1, d2] => { results := [.lit (.bool true)], args := [d1, d2] }
  | _ => none }
def dirPathsRow : OpenClaim := { program := "ytijnlgmclaphhaadoor", sum := "5ba6e2731c2aeebacbb60e7b34b8c90e2bbc372bb74149dcaa2a3fca98651757", func := "gatehouse/gatehouselaw13.DirPaths", spec := "dirPaths", inPlace := ["internal/bytealg.IndexByteString", "internal/bytealg.IndexString", "internal/bytealg.abigen_runtime_cmpstring", "slices.overlaps[gatehouse/api.Name]", "internal/abi.NoEscape", "internal/bytealg.MakeNoZero"], unfollowed := true, recurses := true, named := ["unicode/utf8.first", "unicode/utf8.acceptRanges", "internal/bytealg.MaxLen"], apart := false, laid := [("unicode/utf8.acceptRanges", laid_unicode_utf8_acceptRanges), ("unicode/utf8.first", laid_unicode_utf8_first)] }
def DirPathsSaid : Prop := dirPathsRow.holds Tryd.pinned (OpenSpec.ofChange dirPathsSpec)

/-- ITS FALSE NEIGHBOUR: 'it returns false'. Refute it at one input. -/
def dirPathsWrong : ChangeSpec := { name := "dirPaths", fn := fun _ => fun
  | [d1, d2] => { results := [.lit (.bool false)], args := [d1, d2] }
  | _ => none }
def DirPathsWrongFalsely : Prop := dirPathsRow.holds Tryd.pinned (OpenSpec.ofChange dirPathsWrong)

/-- 'gatehouselaw13.DirWays': WHATEVER THE INPUT: true; the input reads as it did. -/
def dirWaysSpec : ChangeSpec := { name := "dirWays", fn := fun _ => fun
  | [d1, d2] => { results := [.lit (.bool true)], args := [d1, d2] }
  | _ => none }
def dirWaysRow : OpenClaim := { program := "ytijnlgmclaphhaadoor", sum := "5ba6e2731c2aeebacbb60e7b34b8c90e2bbc372bb74149dcaa2a3fca98651757", func := "gatehouse/gatehouselaw13.DirWays", spec := "dirWays", inPlace := ["internal/bytealg.IndexByteString", "internal/bytealg.IndexString", "internal/bytealg.abigen_runtime_cmpstring", "slices.overlaps[gatehouse/api.Name]", "internal/abi.NoEscape", "internal/bytealg.MakeNoZero"], unfollowed := true, recurses := true, named := ["unicode/utf8.first", "unicode/utf8.acceptRanges", "internal/bytealg.MaxLen"], apart := false, laid := [("unicode/utf8.acceptRanges", laid_unicode_utf8_acceptRanges), ("unicode/utf8.first", laid_unicode_utf8_first)] }
def DirWaysSaid : Prop := dirWaysRow.holds Tryd.pinned (OpenSpec.ofChange dirWaysSpec)

/-- ITS FALSE NEIGHBOUR: 'it returns false'. Refute it at one input. -/
def dirWaysWrong : ChangeSpec := { name := "dirWays", fn := fun _ => fun
  | [d1, d2] => { results := [.lit (.bool false)], args := [d1, d2] }
  | _ => none }
def DirWaysWrongFalsely : Prop := dirWaysRow.holds Tryd.pinned (OpenSpec.ofChange dirWaysWrong)

/-- 'gatehouselaw13.DirBack': WHATEVER THE INPUT: true; the input reads as it did. -/
def dirBackSpec : ChangeSpec := { name := "dirBack", fn := fun _ => fun
  | [d1, d2, d3] => { results := [.lit (.bool true)], args := [d1, d2, d3] }
  | _ => none }
def dirBackRow : OpenClaim := { program := "ytijnlgmclaphhaadoor", sum := "5ba6e2731c2aeebacbb60e7b34b8c90e2bbc372bb74149dcaa2a3fca98651757", func := "gatehouse/gatehouselaw13.DirBack", spec := "dirBack", inPlace := ["internal/bytealg.IndexByteString", "internal/bytealg.IndexString", "internal/bytealg.abigen_runtime_cmpstring", "slices.overlaps[gatehouse/api.Name]", "internal/abi.NoEscape"], unfollowed := true, recurses := true, named := ["unicode/utf8.first", "unicode/utf8.acceptRanges", "internal/bytealg.MaxLen"], apart := false, laid := [("unicode/utf8.acceptRanges", laid_unicode_utf8_acceptRanges), ("unicode/utf8.first", laid_unicode_utf8_first)] }
def DirBackSaid : Prop := dirBackRow.holds Tryd.pinned (OpenSpec.ofChange dirBackSpec)

/-- ITS FALSE NEIGHBOUR: 'it returns false'. Refute it at one input. -/
def dirBackWrong : ChangeSpec := { name := "dirBack", fn := fun _ => fun
  | [d1, d2, d3] => { results := [.lit (.bool false)], args := [d1, d2, d3] }
  | _ => none }
def DirBackWrongFalsely : Prop := dirBackRow.holds Tryd.pinned (OpenSpec.ofChange dirBackWrong)

/- THE SECOND FORM. 'bulk': how many values and letters a reading holds, each counted each time it is reached (what is shared counts as often as it is met; a slice's spare places count too). A statement '..UptoSaid' is the law's where the arguments, and the package variables that the reading takes, are together of bulk at most 1048576: NARROWER than '..Said'. Prove '..Said' where nothing that the law and all that it calls make is longer than what came in: it says more and counts as full. Else prove '..UptoSaid'. A law counts once. -/
mutual
def uptoBulk {H : Type} : DataW H → Nat
  | .lit (.string bytes) => bytes.length + 1
  | .lit _ => 1
  | .nil => 1
  | .ptr d => uptoBulk d + 1
  | .slice elems spare => uptoBulkAll elems + uptoBulkAll spare + 1
  | .agg parts => uptoBulkAll parts + 1
  | .iface _ d => uptoBulk d + 1
  | .map entries => uptoBulkEntries entries + 1
  | .held _ => 1
def uptoBulkAll {H : Type} : List (DataW H) → Nat
  | [] => 0
  | d :: r => uptoBulk d + uptoBulkAll r
def uptoBulkEntries {H : Type} : List (Lit × DataW H) → Nat
  | [] => 0
  | x :: r => uptoBulkEntry x + uptoBulkEntries r
def uptoBulkEntry {H : Type} : Lit × DataW H → Nat
  | (.string bytes, d) => bytes.length + uptoBulk d + 1
  | (_, d) => uptoBulk d + 1
 end
def uptoSmall : (H : Type) → List (DataW H) → Bool := fun _ ds => decide (uptoBulkAll ds ≤ 1048576)
def OpenSpec.upto (s : _root_.Go.ChangeSpec) : _root_.Go.OpenSpec := { _root_.Go.OpenSpec.ofChange s with cond := some uptoSmall }

/-- 'gatehouselaw13.DirOrder', WHERE WHAT IT READS IS OF BULK AT MOST 1048576: true; the input reads as it did. -/
def dirOrderUptoRow : OpenClaim := { program := "ytijnlgmclaphhaadoor", sum := "5ba6e2731c2aeebacbb60e7b34b8c90e2bbc372bb74149dcaa2a3fca98651757", func := "gatehouse/gatehouselaw13.DirOrder", spec := "dirOrder", inPlace := ["internal/bytealg.IndexByteString", "internal/bytealg.IndexString", "internal/bytealg.abigen_runtime_cmpstring", "slices.overlaps[gatehouse/api.Name]", "internal/abi.NoEscape"], unfollowed := true, recurses := true, named := ["unicode/utf8.first", "unicode/utf8.acceptRanges", "internal/bytealg.MaxLen"], apart := false, laid := [("unicode/utf8.acceptRanges", laid_unicode_utf8_acceptRanges), ("unicode/utf8.first", laid_unicode_utf8_first)], narrowed := true }
def DirOrderUptoSaid : Prop := dirOrderUptoRow.holds Tryd.pinned (OpenSpec.upto dirOrderSpec)

/-- 'gatehouselaw13.DirFull', WHERE WHAT IT READS IS OF BULK AT MOST 1048576: true; the input reads as it did. -/
def dirFullUptoRow : OpenClaim := { program := "ytijnlgmclaphhaadoor", sum := "5ba6e2731c2aeebacbb60e7b34b8c90e2bbc372bb74149dcaa2a3fca98651757", func := "gatehouse/gatehouselaw13.DirFull", spec := "dirFull", inPlace := ["internal/bytealg.IndexByteString", "internal/bytealg.IndexString", "internal/bytealg.abigen_runtime_cmpstring", "slices.overlaps[gatehouse/api.Name]", "internal/abi.NoEscape"], unfollowed := true, recurses := true, named := ["unicode/utf8.first", "unicode/utf8.acceptRanges", "internal/bytealg.MaxLen"], apart := false, laid := [("unicode/utf8.acceptRanges", laid_unicode_utf8_acceptRanges), ("unicode/utf8.first", laid_unicode_utf8_first)], narrowed := true }
def DirFullUptoSaid : Prop := dirFullUptoRow.holds Tryd.pinned (OpenSpec.upto dirFullSpec)

/-- 'gatehouselaw13.DirBytes', WHERE WHAT IT READS IS OF BULK AT MOST 1048576: true; the input reads as it did. -/
def dirBytesUptoRow : OpenClaim := { program := "ytijnlgmclaphhaadoor", sum := "5ba6e2731c2aeebacbb60e7b34b8c90e2bbc372bb74149dcaa2a3fca98651757", func := "gatehouse/gatehouselaw13.DirBytes", spec := "dirBytes", inPlace := ["internal/bytealg.IndexByteString", "internal/bytealg.IndexString", "internal/bytealg.abigen_runtime_cmpstring", "slices.overlaps[gatehouse/api.Name]", "internal/abi.NoEscape"], unfollowed := true, recurses := true, named := ["unicode/utf8.first", "unicode/utf8.acceptRanges", "internal/bytealg.MaxLen"], apart := false, laid := [("unicode/utf8.acceptRanges", laid_unicode_utf8_acceptRanges), ("unicode/utf8.first", laid_unicode_utf8_first)], narrowed := true }
def DirBytesUptoSaid : Prop := dirBytesUptoRow.holds Tryd.pinned (OpenSpec.upto dirBytesSpec)

/-- 'gatehouselaw13.DirTurns', WHERE WHAT IT READS IS OF BULK AT MOST 1048576: true; the input reads as it did. -/
def dirTurnsUptoRow : OpenClaim := { program := "ytijnlgmclaphhaadoor", sum := "5ba6e2731c2aeebacbb60e7b34b8c90e2bbc372bb74149dcaa2a3fca98651757", func := "gatehouse/gatehouselaw13.DirTurns", spec := "dirTurns", inPlace := ["internal/bytealg.IndexByteString", "internal/bytealg.IndexString", "internal/bytealg.abigen_runtime_cmpstring", "slices.overlaps[gatehouse/api.Name]", "internal/abi.NoEscape"], unfollowed := true, recurses := true, named := ["unicode/utf8.first", "unicode/utf8.acceptRanges", "internal/bytealg.MaxLen"], apart := false, laid := [("unicode/utf8.acceptRanges", laid_unicode_utf8_acceptRanges), ("unicode/utf8.first", laid_unicode_utf8_first)], narrowed := true }
def DirTurnsUptoSaid : Prop := dirTurnsUptoRow.holds Tryd.pinned (OpenSpec.upto dirTurnsSpec)

/-- 'gatehouselaw13.DirPaths', WHERE WHAT IT READS IS OF BULK AT MOST 1048576: true; the input reads as it did. -/
def dirPathsUptoRow : OpenClaim := { program := "ytijnlgmclaphhaadoor", sum := "5ba6e2731c2aeebacbb60e7b34b8c90e2bbc372bb74149dcaa2a3fca98651757", func := "gatehouse/gatehouselaw13.DirPaths", spec := "dirPaths", inPlace := ["internal/bytealg.IndexByteString", "internal/bytealg.IndexString", "internal/bytealg.abigen_runtime_cmpstring", "slices.overlaps[gatehouse/api.Name]", "internal/abi.NoEscape", "internal/bytealg.MakeNoZero"], unfollowed := true, recurses := true, named := ["unicode/utf8.first", "unicode/utf8.acceptRanges", "internal/bytealg.MaxLen"], apart := false, laid := [("unicode/utf8.acceptRanges", laid_unicode_utf8_acceptRanges), ("unicode/utf8.first", laid_unicode_utf8_first)], narrowed := true }
def DirPathsUptoSaid : Prop := dirPathsUptoRow.holds Tryd.pinned (OpenSpec.upto dirPathsSpec)

/-- 'gatehouselaw13.DirWays', WHERE WHAT IT READS IS OF BULK AT MOST 1048576: true; the input reads as it did. -/
def dirWaysUptoRow : OpenClaim := { program := "ytijnlgmclaphhaadoor", sum := "5ba6e2731c2aeebacbb60e7b34b8c90e2bbc372bb74149dcaa2a3fca98651757", func := "gatehouse/gatehouselaw13.DirWays", spec := "dirWays", inPlace := ["internal/bytealg.IndexByteString", "internal/bytealg.IndexString", "internal/bytealg.abigen_runtime_cmpstring", "slices.overlaps[gatehouse/api.Name]", "internal/abi.NoEscape", "internal/bytealg.MakeNoZero"], unfollowed := true, recurses := true, named := ["unicode/utf8.first", "unicode/utf8.acceptRanges", "internal/bytealg.MaxLen"], apart := false, laid := [("unicode/utf8.acceptRanges", laid_unicode_utf8_acceptRanges), ("unicode/utf8.first", laid_unicode_utf8_first)], narrowed := true }
def DirWaysUptoSaid : Prop := dirWaysUptoRow.holds Tryd.pinned (OpenSpec.upto dirWaysSpec)

/-- 'gatehouselaw13.DirBack', WHERE WHAT IT READS IS OF BULK AT MOST 1048576: true; the input reads as it did. -/
def dirBackUptoRow : OpenClaim := { program := "ytijnlgmclaphhaadoor", sum := "5ba6e2731c2aeebacbb60e7b34b8c90e2bbc372bb74149dcaa2a3fca98651757", func := "gatehouse/gatehouselaw13.DirBack", spec := "dirBack", inPlace := ["internal/bytealg.IndexByteString", "internal/bytealg.IndexString", "internal/bytealg.abigen_runtime_cmpstring", "slices.overlaps[gatehouse/api.Name]", "internal/abi.NoEscape"], unfollowed := true, recurses := true, named := ["unicode/utf8.first", "unicode/utf8.acceptRanges", "internal/bytealg.MaxLen"], apart := false, laid := [("unicode/utf8.acceptRanges", laid_unicode_utf8_acceptRanges), ("unicode/utf8.first", laid_unicode_utf8_first)], narrowed := true }
def DirBackUptoSaid : Prop := dirBackUptoRow.holds Tryd.pinned (OpenSpec.upto dirBackSpec)

end Rows
end Go.Proofs.YtijnlgmclaphhaaDoor
