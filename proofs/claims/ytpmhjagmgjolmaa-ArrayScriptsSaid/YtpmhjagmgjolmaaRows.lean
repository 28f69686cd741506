/-
  No cell of these rows narrows 'for every input' (looked for: loops, veiled, ifaces, maps, wideKeys, modest, calm, conditions, laid).
  DERIVED. THE GIVEN ROWS OF THIS SEAT. 6 by the template 'for every input the law returns true; each argument reads behind the call as it read before'; 0 by the template 'total and deterministic' (their statements: YtpmhjagmgjolmaaTotals.lean).
  GIVEN WITH THE SEED: the statements are not yours to turn. If you find one false, say at which input.
  Laid BY PROGRAM, IN A SANDBOX (cutbox-rows.mjs): the forced cells as the released guide's own fill.sh prints them over the translation 27fe00ed519eaca2… (all of the seat's roots in one cut). By AI agents, Wed Nov 11 2026. No macro, syntax, notation, axiom, sorry.
-/
import Derived.Test.YtpmhjagmgjolmaaChecked
import GoSem.Claim
import GoSem.ClaimJoined
import GoSem.ClaimMapViews
import Derived.JoinedTies
import Derived.KernelRfl
namespace Go.Proofs.Ytpmhjagmgjolmaa
/- THE CELL 'sum', in the pinned program and in every row, IS THE sha256 OF THE DUMP (.gsa) THAT YtpmhjagmgjolmaaProg.lean LOADS. Nothing in Lean hashes anything: it is a label: what it is worth is what the hold of that sum in a sandbox is worth. -/
noncomputable def Try.pinned : Pinned := { name := "ytpmhjagmgjolmaa", sum := "27fe00ed519eaca2398f27e2791a7703df8b1233238c817f0e2e999047caaa09", checked := Try.checked }
namespace Rows
def none {H : Type} : Left H := { results := [], args := [] }

/-- 'sheetpilelaw10.ArrayFuse': WHATEVER THE INPUT: true; the input reads as it did. -/
def arrayFuseSpec : ChangeSpec := { name := "arrayFuse", fn := fun _ => fun
  | [d1, d2] => { results := [.lit (.bool true)], args := [d1, d2] }
  | _ => none }
def arrayFuseRow : OpenClaim := { program := "ytpmhjagmgjolmaa", sum := "27fe00ed519eaca2398f27e2791a7703df8b1233238c817f0e2e999047caaa09", func := "sheetpile/sheetpilelaw10.ArrayFuse", spec := "arrayFuse", unfollowed := true, recurses := true, apart := false }
def ArrayFuseSaid : Prop := arrayFuseRow.holds Try.pinned (OpenSpec.ofChange arrayFuseSpec)

/-- ITS FALSE NEIGHBOUR: 'it returns false'. Refute it at one input. -/
def arrayFuseWrong : ChangeSpec := { name := "arrayFuse", fn := fun _ => fun
  | [d1, d2] => { results := [.lit (.bool false)], args := [d1, d2] }
  | _ => none }
def ArrayFuseWrongFalsely : Prop := arrayFuseRow.holds Try.pinned (OpenSpec.ofChange arrayFuseWrong)

/-- 'sheetpilelaw10.ArrayLost': WHATEVER THE INPUT: true; the input reads as it did. -/
def arrayLostSpec : ChangeSpec := { name := "arrayLost", fn := fun _ => fun
  | [d1, d2, d3] => { results := [.lit (.bool true)], args := [d1, d2, d3] }
  | _ => none }
def arrayLostRow : OpenClaim := { program := "ytpmhjagmgjolmaa", sum := "27fe00ed519eaca2398f27e2791a7703df8b1233238c817f0e2e999047caaa09", func := "sheetpile/sheetpilelaw10.ArrayLost", spec := "arrayLost", unfollowed := true, recurses := true, apart := false }
def ArrayLostSaid : Prop := arrayLostRow.holds Try.pinned (OpenSpec.ofChange arrayLostSpec)

/-- ITS FALSE NEIGHBOUR: 'it returns false'. Refute it at one input. -/
def arrayLostWrong : ChangeSpec := { name := "arrayLost", fn := fun _ => fun
  | [d1, d2, d3] => { results := [.lit (.bool false)], args := [d1, d2, d3] }
  | _ => none }
def ArrayLostWrongFalsely : Prop := arrayLostRow.holds Try.pinned (OpenSpec.ofChange arrayLostWrong)

/-- 'sheetpilelaw10.ArrayCopy': WHATEVER THE INPUT: true; the input reads as it did. -/
def arrayCopySpec : ChangeSpec := { name := "arrayCopy", fn := fun _ => fun
  | [d1, d2, d3] => { results := [.lit (.bool true)], args := [d1, d2, d3] }
  | _ => none }
def arrayCopyRow : OpenClaim := { program := "ytpmhjagmgjolmaa", sum := "27fe00ed519eaca2398f27e2791a7703df8b1233238c817f0e2e999047caaa09", func := "sheetpile/sheetpilelaw10.ArrayCopy", spec := "arrayCopy", unfollowed := true, recurses := true, apart := false }
def ArrayCopySaid : Prop := arrayCopyRow.holds Try.pinned (OpenSpec.ofChange arrayCopySpec)

/-- ITS FALSE NEIGHBOUR: 'it returns false'. Refute it at one input. -/
def arrayCopyWrong : ChangeSpec := { name := "arrayCopy", fn := fun _ => fun
  | [d1, d2, d3] => { results := [.lit (.bool false)], args := [d1, d2, d3] }
  | _ => none }
def ArrayCopyWrongFalsely : Prop := arrayCopyRow.holds Try.pinned (OpenSpec.ofChange arrayCopyWrong)

/-- 'sheetpilelaw10.ArrayAlone': WHATEVER THE INPUT: true; the input reads as it did. -/
def arrayAloneSpec : ChangeSpec := { name := "arrayAlone", fn := fun _ => fun
  | [d1, d2, d3] => { results := [.lit (.bool true)], args := [d1, d2, d3] }
  | _ => none }
def arrayAloneRow : OpenClaim := { program := "ytpmhjagmgjolmaa", sum := "27fe00ed519eaca2398f27e2791a7703df8b1233238c817f0e2e999047caaa09", func := "sheetpile/sheetpilelaw10.ArrayAlone", spec := "arrayAlone", unfollowed := true, recurses := true, apart := false }
def ArrayAloneSaid : Prop := arrayAloneRow.holds Try.pinned (OpenSpec.ofChange arrayAloneSpec)

/-- ITS FALSE NEIGHBOUR: 'it returns false'. Refute it at one input. -/
def arrayAloneWrong : ChangeSpec := { name := "arrayAlone", fn := fun _ => fun
  | [d1, d2, d3] => { results := [.lit (.bool false)], args := [d1, d2, d3] }
  | _ => none }
def ArrayAloneWrongFalsely : Prop := arrayAloneRow.holds Try.pinned (OpenSpec.ofChange arrayAloneWrong)

/-- 'sheetpilelaw10.ArrayScripts': WHATEVER THE INPUT: true; the input reads as it did. -/
def arrayScriptsSpec : ChangeSpec := { name := "arrayScripts", fn := fun _ => fun
  | [d1, d2, d3] => { results := [.lit (.bool true)], args := [d1, d2, d3] }
  | _ => none }
def arrayScriptsRow : OpenClaim := { program := "ytpmhjagmgjolmaa", sum := "27fe00ed519eaca2398f27e2791a7703df8b1233238c817f0e2e999047caaa09", func := "sheetpile/sheetpilelaw10.ArrayScripts", spec := "arrayScripts", unfollowed := true, recurses := true, apart := false }
def ArrayScriptsSaid : Prop := arrayScriptsRow.holds Try.pinned (OpenSpec.ofChange arrayScriptsSpec)

/-- ITS FALSE NEIGHBOUR: 'it returns false'. Refute it at one input. -/
def arrayScriptsWrong : ChangeSpec := { name := "arrayScripts", fn := fun _ => fun
  | [d1, d2, d3] => { results := [.lit (.bool false)], args := [d1, d2, d3] }
  | _ => none }
def ArrayScriptsWrongFalsely : Prop := arrayScriptsRow.holds Try.pinned (OpenSpec.ofChange arrayScriptsWrong)

/-- 'sheetpilelaw10.ArrayNil': WHATEVER THE INPUT: true; the input reads as it did. -/
def arrayNilSpec : ChangeSpec := { name := "arrayNil", fn := fun _ => fun
  | [d1, d2, d3] => { results := [.lit (.bool true)], args := [d1, d2, d3] }
  | _ => none }
def arrayNilRow : OpenClaim := { program := "ytpmhjagmgjolmaa", sum := "27fe00ed519eaca2398f27e2791a7703df8b1233238c817f0e2e999047caaa09", func := "sheetpile/sheetpilelaw10.ArrayNil", spec := "arrayNil", unfollowed := true, recurses := true, apart := false }
def ArrayNilSaid : Prop := arrayNilRow.holds Try.pinned (OpenSpec.ofChange arrayNilSpec)

/-- ITS FALSE NEIGHBOUR: 'it returns false'. Refute it at one input. -/
def arrayNilWrong : ChangeSpec := { name := "arrayNil", fn := fun _ => fun
  | [d1, d2, d3] => { results := [.lit (.bool false)], args := [d1, d2, d3] }
  | _ => none }
def ArrayNilWrongFalsely : Prop := arrayNilRow.holds Try.pinned (OpenSpec.ofChange arrayNilWrong)

/- THE SECOND FORM. 'bulk': how many values and letters a reading holds, each counted each time it is reached (what is shared counts as often as it is met; a slice's spare places count too). A statement '..UptoSaid' is the law's where the arguments, and the package variables that the reading takes, are together of bulk at most 1048576: NARROWER than '..Said'. Prove '..Said' where nothing that the law and all that it calls make is longer than what came in: it says more and counts as full. Else prove '..UptoSaid'. A law counts once. -/
mutual
def uptoBulk {H : Type} : DataW H → Nat
  | .lit (.string bytes) => bytes.length + 1
  | .lit _ => 1
  | .nil => 1
  | .ptr d => uptoBulk d + 1
  | .slice elems spare => uptoBulkAll elems + uptoBulkAll spare + 1
  | .agg parts => uptoBulkAll parts + 1
  | .iface _ d => uptoBulk d + 1
  | .map entries => uptoBulkEntries entries + 1
  | .held _ => 1
def uptoBulkAll {H : Type} : List (DataW H) → Nat
  | [] => 0
  | d :: r => uptoBulk d + uptoBulkAll r
def uptoBulkEntries {H : Type} : List (Lit × DataW H) → Nat
  | [] => 0
  | x :: r => uptoBulkEntry x + uptoBulkEntries r
def uptoBulkEntry {H : Type} : Lit × DataW H → Nat
  | (.string bytes, d) => bytes.length + uptoBulk d + 1
  | (_, d) => uptoBulk d + 1
 end
def uptoSmall : (H : Type) → List (DataW H) → Bool := fun _ ds => decide (uptoBulkAll ds ≤ 1048576)
def OpenSpec.upto (s : _root_.Go.ChangeSpec) : _root_.Go.OpenSpec := { _root_.Go.OpenSpec.ofChange s with cond := some uptoSmall }

/-- 'sheetpilelaw10.ArrayFuse', WHERE WHAT IT READS IS OF BULK AT MOST 1048576: true; the input reads as it did. -/
def arrayFuseUptoRow : OpenClaim := { program := "ytpmhjagmgjolmaa", sum := "27fe00ed519eaca2398f27e2791a7703df8b1233238c817f0e2e999047caaa09", func := "sheetpile/sheetpilelaw10.ArrayFuse", spec := "arrayFuse", unfollowed := true, recurses := true, apart := false, narrowed := true }
def ArrayFuseUptoSaid : Prop := arrayFuseUptoRow.holds Try.pinned (OpenSpec.upto arrayFuseSpec)

/-- 'sheetpilelaw10.ArrayLost', WHERE WHAT IT READS IS OF BULK AT MOST 1048576: true; the input reads as it did. -/
def arrayLostUptoRow : OpenClaim := { program := "ytpmhjagmgjolmaa", sum := "27fe00ed519eaca2398f27e2791a7703df8b1233238c817f0e2e999047caaa09", func := "sheetpile/sheetpilelaw10.ArrayLost", spec := "arrayLost", unfollowed := true, recurses := true, apart := false, narrowed := true }
def ArrayLostUptoSaid : Prop := arrayLostUptoRow.holds Try.pinned (OpenSpec.upto arrayLostSpec)

/-- 'sheetpilelaw10.ArrayCopy', WHERE WHAT IT READS IS OF BULK AT MOST 1048576: true; the input reads as it did. -/
def arrayCopyUptoRow : OpenClaim := { program := "ytpmhjagmgjolmaa", sum := "27fe00ed519eaca2398f27e2791a7703df8b1233238c817f0e2e999047caaa09", func := "sheetpile/sheetpilelaw10.ArrayCopy", spec := "arrayCopy", unfollowed := true, recurses := true, apart := false, narrowed := true }
def ArrayCopyUptoSaid : Prop := arrayCopyUptoRow.holds Try.pinned (OpenSpec.upto arrayCopySpec)

/-- 'sheetpilelaw10.ArrayAlone', WHERE WHAT IT READS IS OF BULK AT MOST 1048576: true; the input reads as it did. -/
def arrayAloneUptoRow : OpenClaim := { program := "ytpmhjagmgjolmaa", sum := "27fe00ed519eaca2398f27e2791a7703df8b1233238c817f0e2e999047caaa09", func := "sheetpile/sheetpilelaw10.ArrayAlone", spec := "arrayAlone", unfollowed := true, recurses := true, apart := false, narrowed := true }
def ArrayAloneUptoSaid : Prop := arrayAloneUptoRow.holds Try.pinned (OpenSpec.upto arrayAloneSpec)

/-- 'sheetpilelaw10.ArrayScripts', WHERE WHAT IT READS IS OF BULK AT MOST 1048576: true; the input reads as it did. -/
def arrayScriptsUptoRow : OpenClaim := { program := "ytpmhjagmgjolmaa", sum := "27fe00ed519eaca2398f27e2791a7703df8b1233238c817f0e2e999047caaa09", func := "sheetpile/sheetpilelaw10.ArrayScripts", spec := "arrayScripts", unfollowed := true, recurses := true, apart := false, narrowed := true }
def ArrayScriptsUptoSaid : Prop := arrayScriptsUptoRow.holds Try.pinned (OpenSpec.upto arrayScriptsSpec)

/-- 'sheetpilelaw10.ArrayNil', WHERE WHAT IT READS IS OF BULK AT MOST 1048576: true; the input reads as it did. -/
def arrayNilUptoRow : OpenClaim := { program := "ytpmhjagmgjolmaa", sum := "27fe00ed519eaca2398f27e2791a7703df8b1233238c817f0e2e999047caaa09", func := "sheetpile/sheetpilelaw10.ArrayNil", spec := "arrayNil", unfollowed := true, recurses := true, apart := false, narrowed := true }
def ArrayNilUptoSaid : Prop := arrayNilUptoRow.holds Try.pinned (OpenSpec.upto arrayNilSpec)

end Rows
end Go.Proofs.Ytpmhjagmgjolmaa
