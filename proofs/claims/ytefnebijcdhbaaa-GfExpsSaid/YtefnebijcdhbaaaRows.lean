/-
  No cell of these rows narrows 'for every input' (looked for: loops, veiled, ifaces, maps, wideKeys, modest, calm, conditions, laid).
  DERIVED. THE GIVEN ROWS OF THIS SEAT. 7 by the template 'for every input the law returns true; each argument reads behind the call as it read before'; 0 by the template 'total and deterministic' (their statements: YtefnebijcdhbaaaTotals.lean).
  GIVEN WITH THE SEED: the statements are not yours to turn. If you find one false, say at which input.
  Laid BY PROGRAM, IN A SANDBOX (cutbox-rows.mjs): the forced cells as the released guide's own fill.sh prints them over the translation 5a15e684fc07112b… (all of the seat's roots in one cut). By AI agents, Wed Nov 11 2026. No macro, syntax, notation, axiom, sorry.
-/
import Derived.Test.YtefnebijcdhbaaaChecked
import GoSem.Claim
import GoSem.ClaimJoined
import GoSem.ClaimMapViews
import Derived.JoinedTies
import Derived.KernelRfl
namespace Go.Proofs.Ytefnebijcdhbaaa
/- THE CELL 'sum', in the pinned program and in every row, IS THE sha256 OF THE DUMP (.gsa) THAT YtefnebijcdhbaaaProg.lean LOADS. Nothing in Lean hashes anything: it is a label: what it is worth is what the hold of that sum in a sandbox is worth. -/
noncomputable def Try.pinned : Pinned := { name := "ytefnebijcdhbaaa", sum := "5a15e684fc07112be8c830b045811fefbc6e80c96e257be560282de87756edae", checked := Try.checked }
namespace Rows
def none {H : Type} : Left H := { results := [], args := [] }

/-- 'sheetpilelaw01.GfTells': WHATEVER THE INPUT: true; the input reads as it did. -/
def gfTellsSpec : ChangeSpec := { name := "gfTells", fn := fun _ => fun
  | [d1, d2] => { results := [.lit (.bool true)], args := [d1, d2] }
  | _ => none }
def gfTellsRow : OpenClaim := { program := "ytefnebijcdhbaaa", sum := "5a15e684fc07112be8c830b045811fefbc6e80c96e257be560282de87756edae", func := "sheetpile/sheetpilelaw01.GfTells", spec := "gfTells", apart := false }
def GfTellsSaid : Prop := gfTellsRow.holds Try.pinned (OpenSpec.ofChange gfTellsSpec)

/-- ITS FALSE NEIGHBOUR: 'it returns false'. Refute it at one input. -/
def gfTellsWrong : ChangeSpec := { name := "gfTells", fn := fun _ => fun
  | [d1, d2] => { results := [.lit (.bool false)], args := [d1, d2] }
  | _ => none }
def GfTellsWrongFalsely : Prop := gfTellsRow.holds Try.pinned (OpenSpec.ofChange gfTellsWrong)

/-- 'sheetpilelaw01.GfPowers': WHATEVER THE INPUT: true; the input reads as it did. -/
def gfPowersSpec : ChangeSpec := { name := "gfPowers", fn := fun _ => fun
  | [d1, d2] => { results := [.lit (.bool true)], args := [d1, d2] }
  | _ => none }
def gfPowersRow : OpenClaim := { program := "ytefnebijcdhbaaa", sum := "5a15e684fc07112be8c830b045811fefbc6e80c96e257be560282de87756edae", func := "sheetpile/sheetpilelaw01.GfPowers", spec := "gfPowers", apart := false }
def GfPowersSaid : Prop := gfPowersRow.holds Try.pinned (OpenSpec.ofChange gfPowersSpec)

/-- ITS FALSE NEIGHBOUR: 'it returns false'. Refute it at one input. -/
def gfPowersWrong : ChangeSpec := { name := "gfPowers", fn := fun _ => fun
  | [d1, d2] => { results := [.lit (.bool false)], args := [d1, d2] }
  | _ => none }
def GfPowersWrongFalsely : Prop := gfPowersRow.holds Try.pinned (OpenSpec.ofChange gfPowersWrong)

/-- 'sheetpilelaw01.GfField': WHATEVER THE INPUT: true; the input reads as it did. -/
def gfFieldSpec : ChangeSpec := { name := "gfField", fn := fun _ => fun
  | [d1, d2, d3] => { results := [.lit (.bool true)], args := [d1, d2, d3] }
  | _ => none }
def gfFieldRow : OpenClaim := { program := "ytefnebijcdhbaaa", sum := "5a15e684fc07112be8c830b045811fefbc6e80c96e257be560282de87756edae", func := "sheetpile/sheetpilelaw01.GfField", spec := "gfField", apart := false }
def GfFieldSaid : Prop := gfFieldRow.holds Try.pinned (OpenSpec.ofChange gfFieldSpec)

/-- ITS FALSE NEIGHBOUR: 'it returns false'. Refute it at one input. -/
def gfFieldWrong : ChangeSpec := { name := "gfField", fn := fun _ => fun
  | [d1, d2, d3] => { results := [.lit (.bool false)], args := [d1, d2, d3] }
  | _ => none }
def GfFieldWrongFalsely : Prop := gfFieldRow.holds Try.pinned (OpenSpec.ofChange gfFieldWrong)

/-- 'sheetpilelaw01.GfLogs': WHATEVER THE INPUT: true; the input reads as it did. -/
def gfLogsSpec : ChangeSpec := { name := "gfLogs", fn := fun _ => fun
  | [d1, d2] => { results := [.lit (.bool true)], args := [d1, d2] }
  | _ => none }
def gfLogsRow : OpenClaim := { program := "ytefnebijcdhbaaa", sum := "5a15e684fc07112be8c830b045811fefbc6e80c96e257be560282de87756edae", func := "sheetpile/sheetpilelaw01.GfLogs", spec := "gfLogs", apart := false }
def GfLogsSaid : Prop := gfLogsRow.holds Try.pinned (OpenSpec.ofChange gfLogsSpec)

/-- ITS FALSE NEIGHBOUR: 'it returns false'. Refute it at one input. -/
def gfLogsWrong : ChangeSpec := { name := "gfLogs", fn := fun _ => fun
  | [d1, d2] => { results := [.lit (.bool false)], args := [d1, d2] }
  | _ => none }
def GfLogsWrongFalsely : Prop := gfLogsRow.holds Try.pinned (OpenSpec.ofChange gfLogsWrong)

/-- 'sheetpilelaw01.GfInverse': WHATEVER THE INPUT: true; the input reads as it did. -/
def gfInverseSpec : ChangeSpec := { name := "gfInverse", fn := fun _ => fun
  | [d] => { results := [.lit (.bool true)], args := [d] }
  | _ => none }
def gfInverseRow : OpenClaim := { program := "ytefnebijcdhbaaa", sum := "5a15e684fc07112be8c830b045811fefbc6e80c96e257be560282de87756edae", func := "sheetpile/sheetpilelaw01.GfInverse", spec := "gfInverse", apart := false }
def GfInverseSaid : Prop := gfInverseRow.holds Try.pinned (OpenSpec.ofChange gfInverseSpec)

/-- ITS FALSE NEIGHBOUR: 'it returns false'. Refute it at one input. -/
def gfInverseWrong : ChangeSpec := { name := "gfInverse", fn := fun _ => fun
  | [d] => { results := [.lit (.bool false)], args := [d] }
  | _ => none }
def GfInverseWrongFalsely : Prop := gfInverseRow.holds Try.pinned (OpenSpec.ofChange gfInverseWrong)

/-- 'sheetpilelaw01.GfExps': WHATEVER THE INPUT: true; the input reads as it did. -/
def gfExpsSpec : ChangeSpec := { name := "gfExps", fn := fun _ => fun
  | [d1, d2] => { results := [.lit (.bool true)], args := [d1, d2] }
  | _ => none }
def gfExpsRow : OpenClaim := { program := "ytefnebijcdhbaaa", sum := "5a15e684fc07112be8c830b045811fefbc6e80c96e257be560282de87756edae", func := "sheetpile/sheetpilelaw01.GfExps", spec := "gfExps", apart := false }
def GfExpsSaid : Prop := gfExpsRow.holds Try.pinned (OpenSpec.ofChange gfExpsSpec)

/-- ITS FALSE NEIGHBOUR: 'it returns false'. Refute it at one input. -/
def gfExpsWrong : ChangeSpec := { name := "gfExps", fn := fun _ => fun
  | [d1, d2] => { results := [.lit (.bool false)], args := [d1, d2] }
  | _ => none }
def GfExpsWrongFalsely : Prop := gfExpsRow.holds Try.pinned (OpenSpec.ofChange gfExpsWrong)

/-- 'sheetpilelaw01.GfPows': WHATEVER THE INPUT: true; the input reads as it did. -/
def gfPowsSpec : ChangeSpec := { name := "gfPows", fn := fun _ => fun
  | [d1, d2, d3] => { results := [.lit (.bool true)], args := [d1, d2, d3] }
  | _ => none }
def gfPowsRow : OpenClaim := { program := "ytefnebijcdhbaaa", sum := "5a15e684fc07112be8c830b045811fefbc6e80c96e257be560282de87756edae", func := "sheetpile/sheetpilelaw01.GfPows", spec := "gfPows", apart := false }
def GfPowsSaid : Prop := gfPowsRow.holds Try.pinned (OpenSpec.ofChange gfPowsSpec)

/-- ITS FALSE NEIGHBOUR: 'it returns false'. Refute it at one input. -/
def gfPowsWrong : ChangeSpec := { name := "gfPows", fn := fun _ => fun
  | [d1, d2, d3] => { results := [.lit (.bool false)], args := [d1, d2, d3] }
  | _ => none }
def GfPowsWrongFalsely : Prop := gfPowsRow.holds Try.pinned (OpenSpec.ofChange gfPowsWrong)

/- THE SECOND FORM. 'bulk': how many values and letters a reading holds, each counted each time it is reached (what is shared counts as often as it is met; a slice's spare places count too). A statement '..UptoSaid' is the law's where the arguments, and the package variables that the reading takes, are together of bulk at most 1048576: NARROWER than '..Said'. Prove '..Said' where nothing that the law and all that it calls make is longer than what came in: it says more and counts as full. Else prove '..UptoSaid'. A law counts once. -/
mutual
def uptoBulk {H : Type} : DataW H → Nat
  | .lit (.string bytes) => bytes.length + 1
  | .lit _ => 1
  | .nil => 1
  | .ptr d => uptoBulk d + 1
  | .slice elems spare => uptoBulkAll elems + uptoBulkAll spare + 1
  | .agg parts => uptoBulkAll parts + 1
  | .iface _ d => uptoBulk d + 1
  | .map entries => uptoBulkEntries entries + 1
  | .held _ => 1
def uptoBulkAll {H : Type} : List (DataW H) → Nat
  | [] => 0
  | d :: r => uptoBulk d + uptoBulkAll r
def uptoBulkEntries {H : Type} : List (Lit × DataW H) → Nat
  | [] => 0
  | x :: r => uptoBulkEntry x + uptoBulkEntries r
def uptoBulkEntry {H : Type} : Lit × DataW H → Nat
  | (.string bytes, d) => bytes.length + uptoBulk d + 1
  | (_, d) => uptoBulk d + 1
 end
def uptoSmall : (H : Type) → List (DataW H) → Bool := fun _ ds => decide (uptoBulkAll ds ≤ 1048576)
def OpenSpec.upto (s : _root_.Go.ChangeSpec) : _root_.Go.OpenSpec := { _root_.Go.OpenSpec.ofChange s with cond := some uptoSmall }

/-- 'sheetpilelaw01.GfTells', WHERE WHAT IT READS IS OF BULK AT MOST 1048576: true; the input reads as it did. -/
def gfTellsUptoRow : OpenClaim := { program := "ytefnebijcdhbaaa", sum := "5a15e684fc07112be8c830b045811fefbc6e80c96e257be560282de87756edae", func := "sheetpile/sheetpilelaw01.GfTells", spec := "gfTells", apart := false, narrowed := true }
def GfTellsUptoSaid : Prop := gfTellsUptoRow.holds Try.pinned (OpenSpec.upto gfTellsSpec)

/-- 'sheetpilelaw01.GfPowers', WHERE WHAT IT READS IS OF BULK AT MOST 1048576: true; the input reads as it did. -/
def gfPowersUptoRow : OpenClaim := { program := "ytefnebijcdhbaaa", sum := "5a15e684fc07112be8c830b045811fefbc6e80c96e257be560282de87756edae", func := "sheetpile/sheetpilelaw01.GfPowers", spec := "gfPowers", apart := false, narrowed := true }
def GfPowersUptoSaid : Prop := gfPowersUptoRow.holds Try.pinned (OpenSpec.upto gfPowersSpec)

/-- 'sheetpilelaw01.GfField', WHERE WHAT IT READS IS OF BULK AT MOST 1048576: true; the input reads as it did. -/
def gfFieldUptoRow : OpenClaim := { program := "ytefnebijcdhbaaa", sum := "5a15e684fc07112be8c830b045811fefbc6e80c96e257be560282de87756edae", func := "sheetpile/sheetpilelaw01.GfField", spec := "gfField", apart := false, narrowed := true }
def GfFieldUptoSaid : Prop := gfFieldUptoRow.holds Try.pinned (OpenSpec.upto gfFieldSpec)

/-- 'sheetpilelaw01.GfLogs', WHERE WHAT IT READS IS OF BULK AT MOST 1048576: true; the input reads as it did. -/
def gfLogsUptoRow : OpenClaim := { program := "ytefnebijcdhbaaa", sum := "5a15e684fc07112be8c830b045811fefbc6e80c96e257be560282de87756edae", func := "sheetpile/sheetpilelaw01.GfLogs", spec := "gfLogs", apart := false, narrowed := true }
def GfLogsUptoSaid : Prop := gfLogsUptoRow.holds Try.pinned (OpenSpec.upto gfLogsSpec)

/-- 'sheetpilelaw01.GfInverse', WHERE WHAT IT READS IS OF BULK AT MOST 1048576: true; the input reads as it did. -/
def gfInverseUptoRow : OpenClaim := { program := "ytefnebijcdhbaaa", sum := "5a15e684fc07112be8c830b045811fefbc6e80c96e257be560282de87756edae", func := "sheetpile/sheetpilelaw01.GfInverse", spec := "gfInverse", apart := false, narrowed := true }
def GfInverseUptoSaid : Prop := gfInverseUptoRow.holds Try.pinned (OpenSpec.upto gfInverseSpec)

/-- 'sheetpilelaw01.GfExps', WHERE WHAT IT READS IS OF BULK AT MOST 1048576: true; the input reads as it did. -/
def gfExpsUptoRow : OpenClaim := { program := "ytefnebijcdhbaaa", sum := "5a15e684fc07112be8c830b045811fefbc6e80c96e257be560282de87756edae", func := "sheetpile/sheetpilelaw01.GfExps", spec := "gfExps", apart := false, narrowed := true }
def GfExpsUptoSaid : Prop := gfExpsUptoRow.holds Try.pinned (OpenSpec.upto gfExpsSpec)

/-- 'sheetpilelaw01.GfPows', WHERE WHAT IT READS IS OF BULK AT MOST 1048576: true; the input reads as it did. -/
def gfPowsUptoRow : OpenClaim := { program := "ytefnebijcdhbaaa", sum := "5a15e684fc07112be8c830b045811fefbc6e80c96e257be560282de87756edae", func := "sheetpile/sheetpilelaw01.GfPows", spec := "gfPows", apart := false, narrowed := true }
def GfPowsUptoSaid : Prop := gfPowsUptoRow.holds Try.pinned (OpenSpec.upto gfPowsSpec)

end Rows
end Go.Proofs.Ytefnebijcdhbaaa
