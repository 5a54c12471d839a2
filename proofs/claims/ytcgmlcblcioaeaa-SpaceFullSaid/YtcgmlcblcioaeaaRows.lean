/-
  No cell of these rows narrows 'for every input' (looked for: loops, veiled, ifaces, maps, wideKeys, modest, calm, conditions, laid).
  DERIVED. THE GIVEN ROWS OF THIS SEAT. 6 by the template 'for every input the law returns true; each argument reads behind the call as it read before'; 0 by the template 'total and deterministic' (their statements: YtcgmlcblcioaeaaTotals.lean).
  GIVEN WITH THE SEED: the statements are not yours to turn. If you find one false, say at which input.
  Laid BY PROGRAM, IN A SANDBOX (cutbox-rows.mjs): the forced cells as the released guide's own fill.sh prints them over the translation f21d6d8dc4128636… (all of the seat's roots in one cut). By AI agents, Wed Nov 11 2026. No macro, syntax, notation, axiom, sorry.
-/
import Derived.Test.YtcgmlcblcioaeaaChecked
import GoSem.Claim
import GoSem.ClaimJoined
import GoSem.ClaimMapViews
import Derived.JoinedTies
import Derived.KernelRfl
namespace Go.Proofs.Ytcgmlcblcioaeaa
/- THE CELL 'sum', in the pinned program and in every row, IS THE sha256 OF THE DUMP (.gsa) THAT YtcgmlcblcioaeaaProg.lean LOADS. Nothing in Lean hashes anything: it is a label: what it is worth is what the hold of that sum in a sandbox is worth. -/
noncomputable def Try.pinned : Pinned := { name := "ytcgmlcblcioaeaa", sum := "f21d6d8dc4128636dc272f0288a2d67ff5e41959c9a52c01ecf6b30be19e9b78", checked := Try.checked }
namespace Rows
def none {H : Type} : Left H := { results := [], args := [] }

/-- 'gatehouselaw05.SpaceRights': WHATEVER THE INPUT: true; the input reads as it did. -/
def spaceRightsSpec : ChangeSpec := { name := "spaceRights", fn := fun _ => fun
  | [d1, d2, d3] => { results := [.lit (.bool true)], args := [d1, d2, d3] }
  | _ => none }
def spaceRightsRow : OpenClaim := { program := "ytcgmlcblcioaeaa", sum := "f21d6d8dc4128636dc272f0288a2d67ff5e41959c9a52c01ecf6b30be19e9b78", func := "gatehouse/gatehouselaw05.SpaceRights", spec := "spaceRights", inPlace := ["slices.overlaps[gatehouse/api.Map]"], unfollowed := true, recurses := true, apart := false }
def SpaceRightsSaid : Prop := spaceRightsRow.holds Try.pinned (OpenSpec.ofChange spaceRightsSpec)

/-- ITS FALSE NEIGHBOUR: 'it returns false'. Refute it at one input. -/
def spaceRightsWrong : ChangeSpec := { name := "spaceRights", fn := fun _ => fun
  | [d1, d2, d3] => { results := [.lit (.bool false)], args := [d1, d2, d3] }
  | _ => none }
def SpaceRightsWrongFalsely : Prop := spaceRightsRow.holds Try.pinned (OpenSpec.ofChange spaceRightsWrong)

/-- 'gatehouselaw05.SpaceFull': WHATEVER THE INPUT: true; the input reads as it did. -/
def spaceFullSpec : ChangeSpec := { name := "spaceFull", fn := fun _ => fun
  | [d1, d2] => { results := [.lit (.bool true)], args := [d1, d2] }
  | _ => none }
def spaceFullRow : OpenClaim := { program := "ytcgmlcblcioaeaa", sum := "f21d6d8dc4128636dc272f0288a2d67ff5e41959c9a52c01ecf6b30be19e9b78", func := "gatehouse/gatehouselaw05.SpaceFull", spec := "spaceFull", inPlace := ["slices.overlaps[gatehouse/api.Map]"], unfollowed := true, recurses := true, apart := false }
def SpaceFullSaid : Prop := spaceFullRow.holds Try.pinned (OpenSpec.ofChange spaceFullSpec)

/-- ITS FALSE NEIGHBOUR: 'it returns false'. Refute it at one input. -/
def spaceFullWrong : ChangeSpec := { name := "spaceFull", fn := fun _ => fun
  | [d1, d2] => { results := [.lit (.bool false)], args := [d1, d2] }
  | _ => none }
def SpaceFullWrongFalsely : Prop := spaceFullRow.holds Try.pinned (OpenSpec.ofChange spaceFullWrong)

/-- 'gatehouselaw05.SpaceSpans': WHATEVER THE INPUT: true; the input reads as it did. -/
def spaceSpansSpec : ChangeSpec := { name := "spaceSpans", fn := fun _ => fun
  | [d1, d2, d3, d4] => { results := [.lit (.bool true)], args := [d1, d2, d3, d4] }
  | _ => none }
def spaceSpansRow : OpenClaim := { program := "ytcgmlcblcioaeaa", sum := "f21d6d8dc4128636dc272f0288a2d67ff5e41959c9a52c01ecf6b30be19e9b78", func := "gatehouse/gatehouselaw05.SpaceSpans", spec := "spaceSpans", inPlace := ["slices.overlaps[gatehouse/api.Map]"], unfollowed := true, recurses := true, apart := false }
def SpaceSpansSaid : Prop := spaceSpansRow.holds Try.pinned (OpenSpec.ofChange spaceSpansSpec)

/-- ITS FALSE NEIGHBOUR: 'it returns false'. Refute it at one input. -/
def spaceSpansWrong : ChangeSpec := { name := "spaceSpans", fn := fun _ => fun
  | [d1, d2, d3, d4] => { results := [.lit (.bool false)], args := [d1, d2, d3, d4] }
  | _ => none }
def SpaceSpansWrongFalsely : Prop := spaceSpansRow.holds Try.pinned (OpenSpec.ofChange spaceSpansWrong)

/-- 'gatehouselaw05.SpaceSums': WHATEVER THE INPUT: true; the input reads as it did. -/
def spaceSumsSpec : ChangeSpec := { name := "spaceSums", fn := fun _ => fun
  | [d1, d2, d3, d4] => { results := [.lit (.bool true)], args := [d1, d2, d3, d4] }
  | _ => none }
def spaceSumsRow : OpenClaim := { program := "ytcgmlcblcioaeaa", sum := "f21d6d8dc4128636dc272f0288a2d67ff5e41959c9a52c01ecf6b30be19e9b78", func := "gatehouse/gatehouselaw05.SpaceSums", spec := "spaceSums", inPlace := ["slices.overlaps[gatehouse/api.Map]"], unfollowed := true, recurses := true, apart := false }
def SpaceSumsSaid : Prop := spaceSumsRow.holds Try.pinned (OpenSpec.ofChange spaceSumsSpec)

/-- ITS FALSE NEIGHBOUR: 'it returns false'. Refute it at one input. -/
def spaceSumsWrong : ChangeSpec := { name := "spaceSums", fn := fun _ => fun
  | [d1, d2, d3, d4] => { results := [.lit (.bool false)], args := [d1, d2, d3, d4] }
  | _ => none }
def SpaceSumsWrongFalsely : Prop := spaceSumsRow.holds Try.pinned (OpenSpec.ofChange spaceSumsWrong)

/-- 'gatehouselaw05.SpaceRows': WHATEVER THE INPUT: true; the input reads as it did. -/
def spaceRowsSpec : ChangeSpec := { name := "spaceRows", fn := fun _ => fun
  | [d1, d2, d3] => { results := [.lit (.bool true)], args := [d1, d2, d3] }
  | _ => none }
def spaceRowsRow : OpenClaim := { program := "ytcgmlcblcioaeaa", sum := "f21d6d8dc4128636dc272f0288a2d67ff5e41959c9a52c01ecf6b30be19e9b78", func := "gatehouse/gatehouselaw05.SpaceRows", spec := "spaceRows", inPlace := ["slices.overlaps[gatehouse/api.Map]"], unfollowed := true, recurses := true, apart := false }
def SpaceRowsSaid : Prop := spaceRowsRow.holds Try.pinned (OpenSpec.ofChange spaceRowsSpec)

/-- ITS FALSE NEIGHBOUR: 'it returns false'. Refute it at one input. -/
def spaceRowsWrong : ChangeSpec := { name := "spaceRows", fn := fun _ => fun
  | [d1, d2, d3] => { results := [.lit (.bool false)], args := [d1, d2, d3] }
  | _ => none }
def SpaceRowsWrongFalsely : Prop := spaceRowsRow.holds Try.pinned (OpenSpec.ofChange spaceRowsWrong)

/-- 'gatehouselaw05.SpaceBack': WHATEVER THE INPUT: true; the input reads as it did. -/
def spaceBackSpec : ChangeSpec := { name := "spaceBack", fn := fun _ => fun
  | [d1, d2, d3] => { results := [.lit (.bool true)], args := [d1, d2, d3] }
  | _ => none }
def spaceBackRow : OpenClaim := { program := "ytcgmlcblcioaeaa", sum := "f21d6d8dc4128636dc272f0288a2d67ff5e41959c9a52c01ecf6b30be19e9b78", func := "gatehouse/gatehouselaw05.SpaceBack", spec := "spaceBack", inPlace := ["slices.overlaps[gatehouse/api.Map]"], unfollowed := true, recurses := true, apart := false }
def SpaceBackSaid : Prop := spaceBackRow.holds Try.pinned (OpenSpec.ofChange spaceBackSpec)

/-- ITS FALSE NEIGHBOUR: 'it returns false'. Refute it at one input. -/
def spaceBackWrong : ChangeSpec := { name := "spaceBack", fn := fun _ => fun
  | [d1, d2, d3] => { results := [.lit (.bool false)], args := [d1, d2, d3] }
  | _ => none }
def SpaceBackWrongFalsely : Prop := spaceBackRow.holds Try.pinned (OpenSpec.ofChange spaceBackWrong)

/- THE SECOND FORM. 'bulk': how many values and letters a reading holds, each counted each time it is reached (what is shared counts as often as it is met; a slice's spare places count too). A statement '..UptoSaid' is the law's where the arguments, and the package variables that the reading takes, are together of bulk at most 1048576: NARROWER than '..Said'. Prove '..Said' where nothing that the law and all that it calls make is longer than what came in: it says more and counts as full. Else prove '..UptoSaid'. A law counts once. -/
mutual
def uptoBulk {H : Type} : DataW H → Nat
  | .lit (.string bytes) => bytes.length + 1
  | .lit _ => 1
  | .nil => 1
  | .ptr d => uptoBulk d + 1
  | .slice elems spare => uptoBulkAll elems + uptoBulkAll spare + 1
  | .agg parts => uptoBulkAll parts + 1
  | .iface _ d => uptoBulk d + 1
  | .map entries => uptoBulkEntries entries + 1
  | .held _ => 1
def uptoBulkAll {H : Type} : List (DataW H) → Nat
  | [] => 0
  | d :: r => uptoBulk d + uptoBulkAll r
def uptoBulkEntries {H : Type} : List (Lit × DataW H) → Nat
  | [] => 0
  | x :: r => uptoBulkEntry x + uptoBulkEntries r
def uptoBulkEntry {H : Type} : Lit × DataW H → Nat
  | (.string bytes, d) => bytes.length + uptoBulk d + 1
  | (_, d) => uptoBulk d + 1
 end
def uptoSmall : (H : Type) → List (DataW H) → Bool := fun _ ds => decide (uptoBulkAll ds ≤ 1048576)
def OpenSpec.upto (s : _root_.Go.ChangeSpec) : _root_.Go.OpenSpec := { _root_.Go.OpenSpec.ofChange s with cond := some uptoSmall }

/-- 'gatehouselaw05.SpaceRights', WHERE WHAT IT READS IS OF BULK AT MOST 1048576: true; the input reads as it did. -/
def spaceRightsUptoRow : OpenClaim := { program := "ytcgmlcblcioaeaa", sum := "f21d6d8dc4128636dc272f0288a2d67ff5e41959c9a52c01ecf6b30be19e9b78", func := "gatehouse/gatehouselaw05.SpaceRights", spec := "spaceRights", inPlace := ["slices.overlaps[gatehouse/api.Map]"], unfollowed := true, recurses := true, apart := false, narrowed := true }
def SpaceRightsUptoSaid : Prop := spaceRightsUptoRow.holds Try.pinned (OpenSpec.upto spaceRightsSpec)

/-- 'gatehouselaw05.SpaceFull', WHERE WHAT IT READS IS OF BULK AT MOST 1048576: true; the input reads as it did. -/
def spaceFullUptoRow : OpenClaim := { program := "ytcgmlcblcioaeaa", sum := "f21d6d8dc4128636dc272f0288a2d67ff5e41959c9a52c01ecf6b30be19e9b78", func := "gatehouse/gatehouselaw05.SpaceFull", spec := "spaceFull", inPlace := ["slices.overlaps[gatehouse/api.Map]"], unfollowed := true, recurses := true, apart := false, narrowed := true }
def SpaceFullUptoSaid : Prop := spaceFullUptoRow.holds Try.pinned (OpenSpec.upto spaceFullSpec)

/-- 'gatehouselaw05.SpaceSpans', WHERE WHAT IT READS IS OF BULK AT MOST 1048576: true; the input reads as it did. -/
def spaceSpansUptoRow : OpenClaim := { program := "ytcgmlcblcioaeaa", sum := "f21d6d8dc4128636dc272f0288a2d67ff5e41959c9a52c01ecf6b30be19e9b78", func := "gatehouse/gatehouselaw05.SpaceSpans", spec := "spaceSpans", inPlace := ["slices.overlaps[gatehouse/api.Map]"], unfollowed := true, recurses := true, apart := false, narrowed := true }
def SpaceSpansUptoSaid : Prop := spaceSpansUptoRow.holds Try.pinned (OpenSpec.upto spaceSpansSpec)

/-- 'gatehouselaw05.SpaceSums', WHERE WHAT IT READS IS OF BULK AT MOST 1048576: true; the input reads as it did. -/
def spaceSumsUptoRow : OpenClaim := { program := "ytcgmlcblcioaeaa", sum := "f21d6d8dc4128636dc272f0288a2d67ff5e41959c9a52c01ecf6b30be19e9b78", func := "gatehouse/gatehouselaw05.SpaceSums", spec := "spaceSums", inPlace := ["slices.overlaps[gatehouse/api.Map]"], unfollowed := true, recurses := true, apart := false, narrowed := true }
def SpaceSumsUptoSaid : Prop := spaceSumsUptoRow.holds Try.pinned (OpenSpec.upto spaceSumsSpec)

/-- 'gatehouselaw05.SpaceRows', WHERE WHAT IT READS IS OF BULK AT MOST 1048576: true; the input reads as it did. -/
def spaceRowsUptoRow : OpenClaim := { program := "ytcgmlcblcioaeaa", sum := "f21d6d8dc4128636dc272f0288a2d67ff5e41959c9a52c01ecf6b30be19e9b78", func := "gatehouse/gatehouselaw05.SpaceRows", spec := "spaceRows", inPlace := ["slices.overlaps[gatehouse/api.Map]"], unfollowed := true, recurses := true, apart := false, narrowed := true }
def SpaceRowsUptoSaid : Prop := spaceRowsUptoRow.holds Try.pinned (OpenSpec.upto spaceRowsSpec)

/-- 'gatehouselaw05.SpaceBack', WHERE WHAT IT READS IS OF BULK AT MOST 1048576: true; the input reads as it did. -/
def spaceBackUptoRow : OpenClaim := { program := "ytcgmlcblcioaeaa", sum := "f21d6d8dc4128636dc272f0288a2d67ff5e41959c9a52c01ecf6b30be19e9b78", func := "gatehouse/gatehouselaw05.SpaceBack", spec := "spaceBack", inPlace := ["slices.overlaps[gatehouse/api.Map]"], unfollowed := true, recurses := true, apart := false, narrowed := true }
def SpaceBackUptoSaid : Prop := spaceBackUptoRow.holds Try.pinned (OpenSpec.upto spaceBackSpec)

end Rows
end Go.Proofs.Ytcgmlcblcioaeaa
