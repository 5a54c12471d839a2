/-
  No cell of these rows narrows 'for every input' (looked for: loops, veiled, ifaces, maps, wideKeys, modest, calm, conditions, laid).
  DERIVED. THE GIVEN ROWS OF THIS SEAT. 6 by the template 'for every input the law returns true; each argument reads behind the call as it read before'; 0 by the template 'total and deterministic' (their statements: YtnddocchfkhlbaaTotals.lean).
  GIVEN WITH THE SEED: the statements are not yours to turn. If you find one false, say at which input.
  Laid BY PROGRAM, IN A SANDBOX (cutbox-rows.mjs): the forced cells as the released guide's own fill.sh prints them over the translation 2f69376ffb3f5271… (all of the seat's roots in one cut). By AI agents, Wed Nov 11 2026. No macro, syntax, notation, axiom, sorry.
-/
import Derived.Test.YtnddocchfkhlbaaChecked
import GoSem.Claim
import GoSem.ClaimJoined
import GoSem.ClaimMapViews
import Derived.JoinedTies
import Derived.KernelRfl
namespace Go.Proofs.Ytnddocchfkhlbaa
/- THE CELL 'sum', in the pinned program and in every row, IS THE sha256 OF THE DUMP (.gsa) THAT YtnddocchfkhlbaaProg.lean LOADS. Nothing in Lean hashes anything: it is a label: what it is worth is what the hold of that sum in a sandbox is worth. -/
noncomputable def Try.pinned : Pinned := { name := "ytnddocchfkhlbaa", sum := "2f69376ffb3f5271583756f599b001f205d18436af6d831107258421adb39f47", checked := Try.checked }
namespace Rows
def none {H : Type} : Left H := { results := [], args := [] }

/-- 'gatehouselaw15.ShaSums': WHATEVER THE INPUT: true; the input reads as it did. -/
def shaSumsSpec : ChangeSpec := { name := "shaSums", fn := fun _ => fun
  | [d] => { results := [.lit (.bool true)], args := [d] }
  | _ => none }
def shaSumsRow : OpenClaim := { program := "ytnddocchfkhlbaa", sum := "2f69376ffb3f5271583756f599b001f205d18436af6d831107258421adb39f47", func := "gatehouse/gatehouselaw15.ShaSums", spec := "shaSums", apart := false }
def ShaSumsSaid : Prop := shaSumsRow.holds Try.pinned (OpenSpec.ofChange shaSumsSpec)

/-- ITS FALSE NEIGHBOUR: 'it returns false'. Refute it at one input. -/
def shaSumsWrong : ChangeSpec := { name := "shaSums", fn := fun _ => fun
  | [d] => { results := [.lit (.bool false)], args := [d] }
  | _ => none }
def ShaSumsWrongFalsely : Prop := shaSumsRow.holds Try.pinned (OpenSpec.ofChange shaSumsWrong)

/-- 'gatehouselaw15.ShaParts': WHATEVER THE INPUT: true; the input reads as it did. -/
def shaPartsSpec : ChangeSpec := { name := "shaParts", fn := fun _ => fun
  | [d1, d2, d3] => { results := [.lit (.bool true)], args := [d1, d2, d3] }
  | _ => none }
def shaPartsRow : OpenClaim := { program := "ytnddocchfkhlbaa", sum := "2f69376ffb3f5271583756f599b001f205d18436af6d831107258421adb39f47", func := "gatehouse/gatehouselaw15.ShaParts", spec := "shaParts", apart := false }
def ShaPartsSaid : Prop := shaPartsRow.holds Try.pinned (OpenSpec.ofChange shaPartsSpec)

/-- ITS FALSE NEIGHBOUR: 'it returns false'. Refute it at one input. -/
def shaPartsWrong : ChangeSpec := { name := "shaParts", fn := fun _ => fun
  | [d1, d2, d3] => { results := [.lit (.bool false)], args := [d1, d2, d3] }
  | _ => none }
def ShaPartsWrongFalsely : Prop := shaPartsRow.holds Try.pinned (OpenSpec.ofChange shaPartsWrong)

/-- 'gatehouselaw15.ShaNone': WHATEVER THE INPUT: true; the input reads as it did. -/
def shaNoneSpec : ChangeSpec := { name := "shaNone", fn := fun _ => fun
  | [d] => { results := [.lit (.bool true)], args := [d] }
  | _ => none }
def shaNoneRow : OpenClaim := { program := "ytnddocchfkhlbaa", sum := "2f69376ffb3f5271583756f599b001f205d18436af6d831107258421adb39f47", func := "gatehouse/gatehouselaw15.ShaNone", spec := "shaNone", apart := false }
def ShaNoneSaid : Prop := shaNoneRow.holds Try.pinned (OpenSpec.ofChange shaNoneSpec)

/-- ITS FALSE NEIGHBOUR: 'it returns false'. Refute it at one input. -/
def shaNoneWrong : ChangeSpec := { name := "shaNone", fn := fun _ => fun
  | [d] => { results := [.lit (.bool false)], args := [d] }
  | _ => none }
def ShaNoneWrongFalsely : Prop := shaNoneRow.holds Try.pinned (OpenSpec.ofChange shaNoneWrong)

/-- 'gatehouselaw15.ShaSame': WHATEVER THE INPUT: true; the input reads as it did. -/
def shaSameSpec : ChangeSpec := { name := "shaSame", fn := fun _ => fun
  | [d1, d2] => { results := [.lit (.bool true)], args := [d1, d2] }
  | _ => none }
def shaSameRow : OpenClaim := { program := "ytnddocchfkhlbaa", sum := "2f69376ffb3f5271583756f599b001f205d18436af6d831107258421adb39f47", func := "gatehouse/gatehouselaw15.ShaSame", spec := "shaSame", apart := false }
def ShaSameSaid : Prop := shaSameRow.holds Try.pinned (OpenSpec.ofChange shaSameSpec)

/-- ITS FALSE NEIGHBOUR: 'it returns false'. Refute it at one input. -/
def shaSameWrong : ChangeSpec := { name := "shaSame", fn := fun _ => fun
  | [d1, d2] => { results := [.lit (.bool false)], args := [d1, d2] }
  | _ => none }
def ShaSameWrongFalsely : Prop := shaSameRow.holds Try.pinned (OpenSpec.ofChange shaSameWrong)

/-- 'gatehouselaw15.ShaStretches': WHATEVER THE INPUT: true; the input reads as it did. -/
def shaStretchesSpec : ChangeSpec := { name := "shaStretches", fn := fun _ => fun
  | [d1, d2, d3] => { results := [.lit (.bool true)], args := [d1, d2, d3] }
  | _ => none }
def shaStretchesRow : OpenClaim := { program := "ytnddocchfkhlbaa", sum := "2f69376ffb3f5271583756f599b001f205d18436af6d831107258421adb39f47", func := "gatehouse/gatehouselaw15.ShaStretches", spec := "shaStretches", apart := false }
def ShaStretchesSaid : Prop := shaStretchesRow.holds Try.pinned (OpenSpec.ofChange shaStretchesSpec)

/-- ITS FALSE NEIGHBOUR: 'it returns false'. Refute it at one input. -/
def shaStretchesWrong : ChangeSpec := { name := "shaStretches", fn := fun _ => fun
  | [d1, d2, d3] => { results := [.lit (.bool false)], args := [d1, d2, d3] }
  | _ => none }
def ShaStretchesWrongFalsely : Prop := shaStretchesRow.holds Try.pinned (OpenSpec.ofChange shaStretchesWrong)

/-- 'gatehouselaw15.ShaDigits': WHATEVER THE INPUT: true; the input reads as it did. -/
def shaDigitsSpec : ChangeSpec := { name := "shaDigits", fn := fun _ => fun
  | [d1, d2] => { results := [.lit (.bool true)], args := [d1, d2] }
  | _ => none }
def shaDigitsRow : OpenClaim := { program := "ytnddocchfkhlbaa", sum := "2f69376ffb3f5271583756f599b001f205d18436af6d831107258421adb39f47", func := "gatehouse/gatehouselaw15.ShaDigits", spec := "shaDigits", inPlace := ["internal/bytealg.IndexByteString"], apart := false }
def ShaDigitsSaid : Prop := shaDigitsRow.holds Try.pinned (OpenSpec.ofChange shaDigitsSpec)

/-- ITS FALSE NEIGHBOUR: 'it returns false'. Refute it at one input. -/
def shaDigitsWrong : ChangeSpec := { name := "shaDigits", fn := fun _ => fun
  | [d1, d2] => { results := [.lit (.bool false)], args := [d1, d2] }
  | _ => none }
def ShaDigitsWrongFalsely : Prop := shaDigitsRow.holds Try.pinned (OpenSpec.ofChange shaDigitsWrong)

/- THE SECOND FORM. 'bulk': how many values and letters a reading holds, each counted each time it is reached (what is shared counts as often as it is met; a slice's spare places count too). A statement '..UptoSaid' is the law's where the arguments, and the package variables that the reading takes, are together of bulk at most 1048576: NARROWER than '..Said'. Prove '..Said' where nothing that the law and all that it calls make is longer than what came in: it says more and counts as full. Else prove '..UptoSaid'. A law counts once. -/
mutual
def uptoBulk {H : Type} : DataW H → Nat
  | .lit (.string bytes) => bytes.length + 1
  | .lit _ => 1
  | .nil => 1
  | .ptr d => uptoBulk d + 1
  | .slice elems spare => uptoBulkAll elems + uptoBulkAll spare + 1
  | .agg parts => uptoBulkAll parts + 1
  | .iface _ d => uptoBulk d + 1
  | .map entries => uptoBulkEntries entries + 1
  | .held _ => 1
def uptoBulkAll {H : Type} : List (DataW H) → Nat
  | [] => 0
  | d :: r => uptoBulk d + uptoBulkAll r
def uptoBulkEntries {H : Type} : List (Lit × DataW H) → Nat
  | [] => 0
  | x :: r => uptoBulkEntry x + uptoBulkEntries r
def uptoBulkEntry {H : Type} : Lit × DataW H → Nat
  | (.string bytes, d) => bytes.length + uptoBulk d + 1
  | (_, d) => uptoBulk d + 1
 end
def uptoSmall : (H : Type) → List (DataW H) → Bool := fun _ ds => decide (uptoBulkAll ds ≤ 1048576)
def OpenSpec.upto (s : _root_.Go.ChangeSpec) : _root_.Go.OpenSpec := { _root_.Go.OpenSpec.ofChange s with cond := some uptoSmall }

/-- 'gatehouselaw15.ShaSums', WHERE WHAT IT READS IS OF BULK AT MOST 1048576: true; the input reads as it did. -/
def shaSumsUptoRow : OpenClaim := { program := "ytnddocchfkhlbaa", sum := "2f69376ffb3f5271583756f599b001f205d18436af6d831107258421adb39f47", func := "gatehouse/gatehouselaw15.ShaSums", spec := "shaSums", apart := false, narrowed := true }
def ShaSumsUptoSaid : Prop := shaSumsUptoRow.holds Try.pinned (OpenSpec.upto shaSumsSpec)

/-- 'gatehouselaw15.ShaParts', WHERE WHAT IT READS IS OF BULK AT MOST 1048576: true; the input reads as it did. -/
def shaPartsUptoRow : OpenClaim := { program := "ytnddocchfkhlbaa", sum := "2f69376ffb3f5271583756f599b001f205d18436af6d831107258421adb39f47", func := "gatehouse/gatehouselaw15.ShaParts", spec := "shaParts", apart := false, narrowed := true }
def ShaPartsUptoSaid : Prop := shaPartsUptoRow.holds Try.pinned (OpenSpec.upto shaPartsSpec)

/-- 'gatehouselaw15.ShaNone', WHERE WHAT IT READS IS OF BULK AT MOST 1048576: true; the input reads as it did. -/
def shaNoneUptoRow : OpenClaim := { program := "ytnddocchfkhlbaa", sum := "2f69376ffb3f5271583756f599b001f205d18436af6d831107258421adb39f47", func := "gatehouse/gatehouselaw15.ShaNone", spec := "shaNone", apart := false, narrowed := true }
def ShaNoneUptoSaid : Prop := shaNoneUptoRow.holds Try.pinned (OpenSpec.upto shaNoneSpec)

/-- 'gatehouselaw15.ShaSame', WHERE WHAT IT READS IS OF BULK AT MOST 1048576: true; the input reads as it did. -/
def shaSameUptoRow : OpenClaim := { program := "ytnddocchfkhlbaa", sum := "2f69376ffb3f5271583756f599b001f205d18436af6d831107258421adb39f47", func := "gatehouse/gatehouselaw15.ShaSame", spec := "shaSame", apart := false, narrowed := true }
def ShaSameUptoSaid : Prop := shaSameUptoRow.holds Try.pinned (OpenSpec.upto shaSameSpec)

/-- 'gatehouselaw15.ShaStretches', WHERE WHAT IT READS IS OF BULK AT MOST 1048576: true; the input reads as it did. -/
def shaStretchesUptoRow : OpenClaim := { program := "ytnddocchfkhlbaa", sum := "2f69376ffb3f5271583756f599b001f205d18436af6d831107258421adb39f47", func := "gatehouse/gatehouselaw15.ShaStretches", spec := "shaStretches", apart := false, narrowed := true }
def ShaStretchesUptoSaid : Prop := shaStretchesUptoRow.holds Try.pinned (OpenSpec.upto shaStretchesSpec)

/-- 'gatehouselaw15.ShaDigits', WHERE WHAT IT READS IS OF BULK AT MOST 1048576: true; the input reads as it did. -/
def shaDigitsUptoRow : OpenClaim := { program := "ytnddocchfkhlbaa", sum := "2f69376ffb3f5271583756f599b001f205d18436af6d831107258421adb39f47", func := "gatehouse/gatehouselaw15.ShaDigits", spec := "shaDigits", inPlace := ["internal/bytealg.IndexByteString"], apart := false, narrowed := true }
def ShaDigitsUptoSaid : Prop := shaDigitsUptoRow.holds Try.pinned (OpenSpec.upto shaDigitsSpec)

end Rows
end Go.Proofs.Ytnddocchfkhlbaa
