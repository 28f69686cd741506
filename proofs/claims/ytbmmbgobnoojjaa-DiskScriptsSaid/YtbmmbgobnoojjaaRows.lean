/-
  No cell of these rows narrows 'for every input' (looked for: loops, veiled, ifaces, maps, wideKeys, modest, calm, conditions, laid).
  DERIVED. THE GIVEN ROWS OF THIS SEAT. 6 by the template 'for every input the law returns true; each argument reads behind the call as it read before'; 0 by the template 'total and deterministic' (their statements: YtbmmbgobnoojjaaTotals.lean).
  GIVEN WITH THE SEED: the statements are not yours to turn. If you find one false, say at which input.
  Laid BY PROGRAM, IN A SANDBOX (cutbox-rows.mjs): the forced cells as the released guide's own fill.sh prints them over the translation 8c5f280b23cb2d86… (all of the seat's roots in one cut). By AI agents, Wed Nov 11 2026. No macro, syntax, notation, axiom, sorry.
-/
import Derived.Test.YtbmmbgobnoojjaaChecked
import GoSem.Claim
import GoSem.ClaimJoined
import GoSem.ClaimMapViews
import Derived.JoinedTies
import Derived.KernelRfl
namespace Go.Proofs.Ytbmmbgobnoojjaa
/- THE CELL 'sum', in the pinned program and in every row, IS THE sha256 OF THE DUMP (.gsa) THAT YtbmmbgobnoojjaaProg.lean LOADS. Nothing in Lean hashes anything: it is a label: what it is worth is what the hold of that sum in a sandbox is worth. -/
noncomputable def Try.pinned : Pinned := { name := "ytbmmbgobnoojjaa", sum := "8c5f280b23cb2d864a424a311d0e9cb5a459903a4283f7a83cf58b9e8667d139", checked := Try.checked }
namespace Rows
def none {H : Type} : Left H := { results := [], args := [] }

/-- 'sheetpilelaw09.DiskGone': WHATEVER THE INPUT: true; the input reads as it did. -/
def diskGoneSpec : ChangeSpec := { name := "diskGone", fn := fun _ => fun
  | [d1, d2] => { results := [.lit (.bool true)], args := [d1, d2] }
  | _ => none }
def diskGoneRow : OpenClaim := { program := "ytbmmbgobnoojjaa", sum := "8c5f280b23cb2d864a424a311d0e9cb5a459903a4283f7a83cf58b9e8667d139", func := "sheetpile/sheetpilelaw09.DiskGone", spec := "diskGone", unfollowed := true, recurses := true, apart := false }
def DiskGoneSaid : Prop := diskGoneRow.holds Try.pinned (OpenSpec.ofChange diskGoneSpec)

/-- ITS FALSE NEIGHBOUR: 'it returns false'. Refute it at one input. -/
def diskGoneWrong : ChangeSpec := { name := "diskGone", fn := fun _ => fun
  | [d1, d2] => { results := [.lit (.bool false)], args := [d1, d2] }
  | _ => none }
def DiskGoneWrongFalsely : Prop := diskGoneRow.holds Try.pinned (OpenSpec.ofChange diskGoneWrong)

/-- 'sheetpilelaw09.DiskNone': WHATEVER THE INPUT: true; the input reads as it did. -/
def diskNoneSpec : ChangeSpec := { name := "diskNone", fn := fun _ => fun
  | [d1, d2] => { results := [.lit (.bool true)], args := [d1, d2] }
  | _ => none }
def diskNoneRow : OpenClaim := { program := "ytbmmbgobnoojjaa", sum := "8c5f280b23cb2d864a424a311d0e9cb5a459903a4283f7a83cf58b9e8667d139", func := "sheetpile/sheetpilelaw09.DiskNone", spec := "diskNone", unfollowed := true, recurses := true, apart := false }
def DiskNoneSaid : Prop := diskNoneRow.holds Try.pinned (OpenSpec.ofChange diskNoneSpec)

/-- ITS FALSE NEIGHBOUR: 'it returns false'. Refute it at one input. -/
def diskNoneWrong : ChangeSpec := { name := "diskNone", fn := fun _ => fun
  | [d1, d2] => { results := [.lit (.bool false)], args := [d1, d2] }
  | _ => none }
def DiskNoneWrongFalsely : Prop := diskNoneRow.holds Try.pinned (OpenSpec.ofChange diskNoneWrong)

/-- 'sheetpilelaw09.DiskCrash': WHATEVER THE INPUT: true; the input reads as it did. -/
def diskCrashSpec : ChangeSpec := { name := "diskCrash", fn := fun _ => fun
  | [d1, d2, d3] => { results := [.lit (.bool true)], args := [d1, d2, d3] }
  | _ => none }
def diskCrashRow : OpenClaim := { program := "ytbmmbgobnoojjaa", sum := "8c5f280b23cb2d864a424a311d0e9cb5a459903a4283f7a83cf58b9e8667d139", func := "sheetpile/sheetpilelaw09.DiskCrash", spec := "diskCrash", unfollowed := true, recurses := true, apart := false }
def DiskCrashSaid : Prop := diskCrashRow.holds Try.pinned (OpenSpec.ofChange diskCrashSpec)

/-- ITS FALSE NEIGHBOUR: 'it returns false'. Refute it at one input. -/
def diskCrashWrong : ChangeSpec := { name := "diskCrash", fn := fun _ => fun
  | [d1, d2, d3] => { results := [.lit (.bool false)], args := [d1, d2, d3] }
  | _ => none }
def DiskCrashWrongFalsely : Prop := diskCrashRow.holds Try.pinned (OpenSpec.ofChange diskCrashWrong)

/-- 'sheetpilelaw09.DiskFlush': WHATEVER THE INPUT: true; the input reads as it did. -/
def diskFlushSpec : ChangeSpec := { name := "diskFlush", fn := fun _ => fun
  | [d1, d2, d3] => { results := [.lit (.bool true)], args := [d1, d2, d3] }
  | _ => none }
def diskFlushRow : OpenClaim := { program := "ytbmmbgobnoojjaa", sum := "8c5f280b23cb2d864a424a311d0e9cb5a459903a4283f7a83cf58b9e8667d139", func := "sheetpile/sheetpilelaw09.DiskFlush", spec := "diskFlush", unfollowed := true, recurses := true, apart := false }
def DiskFlushSaid : Prop := diskFlushRow.holds Try.pinned (OpenSpec.ofChange diskFlushSpec)

/-- ITS FALSE NEIGHBOUR: 'it returns false'. Refute it at one input. -/
def diskFlushWrong : ChangeSpec := { name := "diskFlush", fn := fun _ => fun
  | [d1, d2, d3] => { results := [.lit (.bool false)], args := [d1, d2, d3] }
  | _ => none }
def DiskFlushWrongFalsely : Prop := diskFlushRow.holds Try.pinned (OpenSpec.ofChange diskFlushWrong)

/-- 'sheetpilelaw09.DiskScripts': WHATEVER THE INPUT: true; the input reads as it did. -/
def diskScriptsSpec : ChangeSpec := { name := "diskScripts", fn := fun _ => fun
  | [d1, d2, d3] => { results := [.lit (.bool true)], args := [d1, d2, d3] }
  | _ => none }
def diskScriptsRow : OpenClaim := { program := "ytbmmbgobnoojjaa", sum := "8c5f280b23cb2d864a424a311d0e9cb5a459903a4283f7a83cf58b9e8667d139", func := "sheetpile/sheetpilelaw09.DiskScripts", spec := "diskScripts", unfollowed := true, recurses := true, apart := false }
def DiskScriptsSaid : Prop := diskScriptsRow.holds Try.pinned (OpenSpec.ofChange diskScriptsSpec)

/-- ITS FALSE NEIGHBOUR: 'it returns false'. Refute it at one input. -/
def diskScriptsWrong : ChangeSpec := { name := "diskScripts", fn := fun _ => fun
  | [d1, d2, d3] => { results := [.lit (.bool false)], args := [d1, d2, d3] }
  | _ => none }
def DiskScriptsWrongFalsely : Prop := diskScriptsRow.holds Try.pinned (OpenSpec.ofChange diskScriptsWrong)

/-- 'sheetpilelaw09.DiskNil': WHATEVER THE INPUT: true; the input reads as it did. -/
def diskNilSpec : ChangeSpec := { name := "diskNil", fn := fun _ => fun
  | [d1, d2, d3] => { results := [.lit (.bool true)], args := [d1, d2, d3] }
  | _ => none }
def diskNilRow : OpenClaim := { program := "ytbmmbgobnoojjaa", sum := "8c5f280b23cb2d864a424a311d0e9cb5a459903a4283f7a83cf58b9e8667d139", func := "sheetpile/sheetpilelaw09.DiskNil", spec := "diskNil", unfollowed := true, recurses := true, apart := false }
def DiskNilSaid : Prop := diskNilRow.holds Try.pinned (OpenSpec.ofChange diskNilSpec)

/-- ITS FALSE NEIGHBOUR: 'it returns false'. Refute it at one input. -/
def diskNilWrong : ChangeSpec := { name := "diskNil", fn := fun _ => fun
  | [d1, d2, d3] => { results := [.lit (.bool false)], args := [d1, d2, d3] }
  | _ => none }
def DiskNilWrongFalsely : Prop := diskNilRow.holds Try.pinned (OpenSpec.ofChange diskNilWrong)

/- THE SECOND FORM. 'bulk': how many values and letters a reading holds, each counted each time it is reached (what is shared counts as often as it is met; a slice's spare places count too). A statement '..UptoSaid' is the law's where the arguments, and the package variables that the reading takes, are together of bulk at most 1048576: NARROWER than '..Said'. Prove '..Said' where nothing that the law and all that it calls make is longer than what came in: it says more and counts as full. Else prove '..UptoSaid'. A law counts once. -/
mutual
def uptoBulk {H : Type} : DataW H → Nat
  | .lit (.string bytes) => bytes.length + 1
  | .lit _ => 1
  | .nil => 1
  | .ptr d => uptoBulk d + 1
  | .slice elems spare => uptoBulkAll elems + uptoBulkAll spare + 1
  | .agg parts => uptoBulkAll parts + 1
  | .iface _ d => uptoBulk d + 1
  | .map entries => uptoBulkEntries entries + 1
  | .held _ => 1
def uptoBulkAll {H : Type} : List (DataW H) → Nat
  | [] => 0
  | d :: r => uptoBulk d + uptoBulkAll r
def uptoBulkEntries {H : Type} : List (Lit × DataW H) → Nat
  | [] => 0
  | x :: r => uptoBulkEntry x + uptoBulkEntries r
def uptoBulkEntry {H : Type} : Lit × DataW H → Nat
  | (.string bytes, d) => bytes.length + uptoBulk d + 1
  | (_, d) => uptoBulk d + 1
 end
def uptoSmall : (H : Type) → List (DataW H) → Bool := fun _ ds => decide (uptoBulkAll ds ≤ 1048576)
def OpenSpec.upto (s : _root_.Go.ChangeSpec) : _root_.Go.OpenSpec := { _root_.Go.OpenSpec.ofChange s with cond := some uptoSmall }

/-- 'sheetpilelaw09.DiskGone', WHERE WHAT IT READS IS OF BULK AT MOST 1048576: true; the input reads as it did. -/
def diskGoneUptoRow : OpenClaim := { program := "ytbmmbgobnoojjaa", sum := "8c5f280b23cb2d864a424a311d0e9cb5a459903a4283f7a83cf58b9e8667d139", func := "sheetpile/sheetpilelaw09.DiskGone", spec := "diskGone", unfollowed := true, recurses := true, apart := false, narrowed := true }
def DiskGoneUptoSaid : Prop := diskGoneUptoRow.holds Try.pinned (OpenSpec.upto diskGoneSpec)

/-- 'sheetpilelaw09.DiskNone', WHERE WHAT IT READS IS OF BULK AT MOST 1048576: true; the input reads as it did. -/
def diskNoneUptoRow : OpenClaim := { program := "ytbmmbgobnoojjaa", sum := "8c5f280b23cb2d864a424a311d0e9cb5a459903a4283f7a83cf58b9e8667d139", func := "sheetpile/sheetpilelaw09.DiskNone", spec := "diskNone", unfollowed := true, recurses := true, apart := false, narrowed := true }
def DiskNoneUptoSaid : Prop := diskNoneUptoRow.holds Try.pinned (OpenSpec.upto diskNoneSpec)

/-- 'sheetpilelaw09.DiskCrash', WHERE WHAT IT READS IS OF BULK AT MOST 1048576: true; the input reads as it did. -/
def diskCrashUptoRow : OpenClaim := { program := "ytbmmbgobnoojjaa", sum := "8c5f280b23cb2d864a424a311d0e9cb5a459903a4283f7a83cf58b9e8667d139", func := "sheetpile/sheetpilelaw09.DiskCrash", spec := "diskCrash", unfollowed := true, recurses := true, apart := false, narrowed := true }
def DiskCrashUptoSaid : Prop := diskCrashUptoRow.holds Try.pinned (OpenSpec.upto diskCrashSpec)

/-- 'sheetpilelaw09.DiskFlush', WHERE WHAT IT READS IS OF BULK AT MOST 1048576: true; the input reads as it did. -/
def diskFlushUptoRow : OpenClaim := { program := "ytbmmbgobnoojjaa", sum := "8c5f280b23cb2d864a424a311d0e9cb5a459903a4283f7a83cf58b9e8667d139", func := "sheetpile/sheetpilelaw09.DiskFlush", spec := "diskFlush", unfollowed := true, recurses := true, apart := false, narrowed := true }
def DiskFlushUptoSaid : Prop := diskFlushUptoRow.holds Try.pinned (OpenSpec.upto diskFlushSpec)

/-- 'sheetpilelaw09.DiskScripts', WHERE WHAT IT READS IS OF BULK AT MOST 1048576: true; the input reads as it did. -/
def diskScriptsUptoRow : OpenClaim := { program := "ytbmmbgobnoojjaa", sum := "8c5f280b23cb2d864a424a311d0e9cb5a459903a4283f7a83cf58b9e8667d139", func := "sheetpile/sheetpilelaw09.DiskScripts", spec := "diskScripts", unfollowed := true, recurses := true, apart := false, narrowed := true }
def DiskScriptsUptoSaid : Prop := diskScriptsUptoRow.holds Try.pinned (OpenSpec.upto diskScriptsSpec)

/-- 'sheetpilelaw09.DiskNil', WHERE WHAT IT READS IS OF BULK AT MOST 1048576: true; the input reads as it did. -/
def diskNilUptoRow : OpenClaim := { program := "ytbmmbgobnoojjaa", sum := "8c5f280b23cb2d864a424a311d0e9cb5a459903a4283f7a83cf58b9e8667d139", func := "sheetpile/sheetpilelaw09.DiskNil", spec := "diskNil", unfollowed := true, recurses := true, apart := false, narrowed := true }
def DiskNilUptoSaid : Prop := diskNilUptoRow.holds Try.pinned (OpenSpec.upto diskNilSpec)

end Rows
end Go.Proofs.Ytbmmbgobnoojjaa
