/-
  No cell of these rows narrows 'for every input' (looked for: loops, veiled, ifaces, maps, wideKeys, modest, calm, conditions, laid).
  DERIVED. THE GIVEN ROWS OF THIS SEAT. 7 by the template 'for every input the law returns true; each argument reads behind the call as it read before'; 0 by the template 'total and deterministic' (their statements: YtidcbihdbkhhlaaTotals.lean).
  GIVEN WITH THE SEED: the statements are not yours to turn. If you find one false, say at which input.
  Laid BY PROGRAM, IN A SANDBOX (cutbox-rows.mjs): the forced cells as the released guide's own fill.sh prints them over the translation bf1ecb2c4f9ae4a8… (all of the seat's roots in one cut). By AI agents, Wed Nov 11 2026. No macro, syntax, notation, axiom, sorry.
-/
import Derived.Test.YtidcbihdbkhhlaaChecked
import GoSem.Claim
import GoSem.ClaimJoined
import GoSem.ClaimMapViews
import Derived.JoinedTies
import Derived.KernelRfl
namespace Go.Proofs.Ytidcbihdbkhhlaa
/- THE CELL 'sum', in the pinned program and in every row, IS THE sha256 OF THE DUMP (.gsa) THAT YtidcbihdbkhhlaaProg.lean LOADS. Nothing in Lean hashes anything: it is a label: what it is worth is what the hold of that sum in a sandbox is worth. -/
noncomputable def Try.pinned : Pinned := { name := "ytidcbihdbkhhlaa", sum := "bf1ecb2c4f9ae4a83512a15af0f0091ecf386c14b2c27ede41190b9be0f3a73a", checked := Try.checked }
namespace Rows
def none {H : Type} : Left H := { results := [], args := [] }

/-- 'sheetpilelaw02.VecTells': WHATEVER THE INPUT: true; the input reads as it did. -/
def vecTellsSpec : ChangeSpec := { name := "vecTells", fn := fun _ => fun
  | [d] => { results := [.lit (.bool true)], args := [d] }
  | _ => none }
def vecTellsRow : OpenClaim := { program := "ytidcbihdbkhhlaa", sum := "bf1ecb2c4f9ae4a83512a15af0f0091ecf386c14b2c27ede41190b9be0f3a73a", func := "sheetpile/sheetpilelaw02.VecTells", spec := "vecTells", apart := false }
def VecTellsSaid : Prop := vecTellsRow.holds Try.pinned (OpenSpec.ofChange vecTellsSpec)

/-- ITS FALSE NEIGHBOUR: 'it returns false'. Refute it at one input. -/
def vecTellsWrong : ChangeSpec := { name := "vecTells", fn := fun _ => fun
  | [d] => { results := [.lit (.bool false)], args := [d] }
  | _ => none }
def VecTellsWrongFalsely : Prop := vecTellsRow.holds Try.pinned (OpenSpec.ofChange vecTellsWrong)

/-- 'sheetpilelaw02.VecGathers': WHATEVER THE INPUT: true; the input reads as it did. -/
def vecGathersSpec : ChangeSpec := { name := "vecGathers", fn := fun _ => fun
  | [d1, d2] => { results := [.lit (.bool true)], args := [d1, d2] }
  | _ => none }
def vecGathersRow : OpenClaim := { program := "ytidcbihdbkhhlaa", sum := "bf1ecb2c4f9ae4a83512a15af0f0091ecf386c14b2c27ede41190b9be0f3a73a", func := "sheetpile/sheetpilelaw02.VecGathers", spec := "vecGathers", apart := false }
def VecGathersSaid : Prop := vecGathersRow.holds Try.pinned (OpenSpec.ofChange vecGathersSpec)

/-- ITS FALSE NEIGHBOUR: 'it returns false'. Refute it at one input. -/
def vecGathersWrong : ChangeSpec := { name := "vecGathers", fn := fun _ => fun
  | [d1, d2] => { results := [.lit (.bool false)], args := [d1, d2] }
  | _ => none }
def VecGathersWrongFalsely : Prop := vecGathersRow.holds Try.pinned (OpenSpec.ofChange vecGathersWrong)

/-- 'sheetpilelaw02.VecLinear': WHATEVER THE INPUT: true; the input reads as it did. -/
def vecLinearSpec : ChangeSpec := { name := "vecLinear", fn := fun _ => fun
  | [d] => { results := [.lit (.bool true)], args := [d] }
  | _ => none }
def vecLinearRow : OpenClaim := { program := "ytidcbihdbkhhlaa", sum := "bf1ecb2c4f9ae4a83512a15af0f0091ecf386c14b2c27ede41190b9be0f3a73a", func := "sheetpile/sheetpilelaw02.VecLinear", spec := "vecLinear", apart := false }
def VecLinearSaid : Prop := vecLinearRow.holds Try.pinned (OpenSpec.ofChange vecLinearSpec)

/-- ITS FALSE NEIGHBOUR: 'it returns false'. Refute it at one input. -/
def vecLinearWrong : ChangeSpec := { name := "vecLinear", fn := fun _ => fun
  | [d] => { results := [.lit (.bool false)], args := [d] }
  | _ => none }
def VecLinearWrongFalsely : Prop := vecLinearRow.holds Try.pinned (OpenSpec.ofChange vecLinearWrong)

/-- 'sheetpilelaw02.VecDots': WHATEVER THE INPUT: true; the input reads as it did. -/
def vecDotsSpec : ChangeSpec := { name := "vecDots", fn := fun _ => fun
  | [d1, d2, d3] => { results := [.lit (.bool true)], args := [d1, d2, d3] }
  | _ => none }
def vecDotsRow : OpenClaim := { program := "ytidcbihdbkhhlaa", sum := "bf1ecb2c4f9ae4a83512a15af0f0091ecf386c14b2c27ede41190b9be0f3a73a", func := "sheetpile/sheetpilelaw02.VecDots", spec := "vecDots", apart := false }
def VecDotsSaid : Prop := vecDotsRow.holds Try.pinned (OpenSpec.ofChange vecDotsSpec)

/-- ITS FALSE NEIGHBOUR: 'it returns false'. Refute it at one input. -/
def vecDotsWrong : ChangeSpec := { name := "vecDots", fn := fun _ => fun
  | [d1, d2, d3] => { results := [.lit (.bool false)], args := [d1, d2, d3] }
  | _ => none }
def VecDotsWrongFalsely : Prop := vecDotsRow.holds Try.pinned (OpenSpec.ofChange vecDotsWrong)

/-- 'sheetpilelaw02.VecCut': WHATEVER THE INPUT: true; the input reads as it did. -/
def vecCutSpec : ChangeSpec := { name := "vecCut", fn := fun _ => fun
  | [d1, d2, d3] => { results := [.lit (.bool true)], args := [d1, d2, d3] }
  | _ => none }
def vecCutRow : OpenClaim := { program := "ytidcbihdbkhhlaa", sum := "bf1ecb2c4f9ae4a83512a15af0f0091ecf386c14b2c27ede41190b9be0f3a73a", func := "sheetpile/sheetpilelaw02.VecCut", spec := "vecCut", apart := false }
def VecCutSaid : Prop := vecCutRow.holds Try.pinned (OpenSpec.ofChange vecCutSpec)

/-- ITS FALSE NEIGHBOUR: 'it returns false'. Refute it at one input. -/
def vecCutWrong : ChangeSpec := { name := "vecCut", fn := fun _ => fun
  | [d1, d2, d3] => { results := [.lit (.bool false)], args := [d1, d2, d3] }
  | _ => none }
def VecCutWrongFalsely : Prop := vecCutRow.holds Try.pinned (OpenSpec.ofChange vecCutWrong)

/-- 'sheetpilelaw02.VecOne': WHATEVER THE INPUT: true; the input reads as it did. -/
def vecOneSpec : ChangeSpec := { name := "vecOne", fn := fun _ => fun
  | [d1, d2, d3] => { results := [.lit (.bool true)], args := [d1, d2, d3] }
  | _ => none }
def vecOneRow : OpenClaim := { program := "ytidcbihdbkhhlaa", sum := "bf1ecb2c4f9ae4a83512a15af0f0091ecf386c14b2c27ede41190b9be0f3a73a", func := "sheetpile/sheetpilelaw02.VecOne", spec := "vecOne", apart := false }
def VecOneSaid : Prop := vecOneRow.holds Try.pinned (OpenSpec.ofChange vecOneSpec)

/-- ITS FALSE NEIGHBOUR: 'it returns false'. Refute it at one input. -/
def vecOneWrong : ChangeSpec := { name := "vecOne", fn := fun _ => fun
  | [d1, d2, d3] => { results := [.lit (.bool false)], args := [d1, d2, d3] }
  | _ => none }
def VecOneWrongFalsely : Prop := vecOneRow.holds Try.pinned (OpenSpec.ofChange vecOneWrong)

/-- 'sheetpilelaw02.VecBack': WHATEVER THE INPUT: true; the input reads as it did. -/
def vecBackSpec : ChangeSpec := { name := "vecBack", fn := fun _ => fun
  | [d1, d2, d3] => { results := [.lit (.bool true)], args := [d1, d2, d3] }
  | _ => none }
def vecBackRow : OpenClaim := { program := "ytidcbihdbkhhlaa", sum := "bf1ecb2c4f9ae4a83512a15af0f0091ecf386c14b2c27ede41190b9be0f3a73a", func := "sheetpile/sheetpilelaw02.VecBack", spec := "vecBack", apart := false }
def VecBackSaid : Prop := vecBackRow.holds Try.pinned (OpenSpec.ofChange vecBackSpec)

/-- ITS FALSE NEIGHBOUR: 'it returns false'. Refute it at one input. -/
def vecBackWrong : ChangeSpec := { name := "vecBack", fn := fun _ => fun
  | [d1, d2, d3] => { results := [.lit (.bool false)], args := [d1, d2, d3] }
  | _ => none }
def VecBackWrongFalsely : Prop := vecBackRow.holds Try.pinned (OpenSpec.ofChange vecBackWrong)

/- THE SECOND FORM. 'bulk': how many values and letters a reading holds, each counted each time it is reached (what is shared counts as often as it is met; a slice's spare places count too). A statement '..UptoSaid' is the law's where the arguments, and the package variables that the reading takes, are together of bulk at most 1048576: NARROWER than '..Said'. Prove '..Said' where nothing that the law and all that it calls make is longer than what came in: it says more and counts as full. Else prove '..UptoSaid'. A law counts once. -/
mutual
def uptoBulk {H : Type} : DataW H → Nat
  | .lit (.string bytes) => bytes.length + 1
  | .lit _ => 1
  | .nil => 1
  | .ptr d => uptoBulk d + 1
  | .slice elems spare => uptoBulkAll elems + uptoBulkAll spare + 1
  | .agg parts => uptoBulkAll parts + 1
  | .iface _ d => uptoBulk d + 1
  | .map entries => uptoBulkEntries entries + 1
  | .held _ => 1
def uptoBulkAll {H : Type} : List (DataW H) → Nat
  | [] => 0
  | d :: r => uptoBulk d + uptoBulkAll r
def uptoBulkEntries {H : Type} : List (Lit × DataW H) → Nat
  | [] => 0
  | x :: r => uptoBulkEntry x + uptoBulkEntries r
def uptoBulkEntry {H : Type} : Lit × DataW H → Nat
  | (.string bytes, d) => bytes.length + uptoBulk d + 1
  | (_, d) => uptoBulk d + 1
 end
def uptoSmall : (H : Type) → List (DataW H) → Bool := fun _ ds => decide (uptoBulkAll ds ≤ 1048576)
def OpenSpec.upto (s : _root_.Go.ChangeSpec) : _root_.Go.OpenSpec := { _root_.Go.OpenSpec.ofChange s with cond := some uptoSmall }

/-- 'sheetpilelaw02.VecTells', WHERE WHAT IT READS IS OF BULK AT MOST 1048576: true; the input reads as it did. -/
def vecTellsUptoRow : OpenClaim := { program := "ytidcbihdbkhhlaa", sum := "bf1ecb2c4f9ae4a83512a15af0f0091ecf386c14b2c27ede41190b9be0f3a73a", func := "sheetpile/sheetpilelaw02.VecTells", spec := "vecTells", apart := false, narrowed := true }
def VecTellsUptoSaid : Prop := vecTellsUptoRow.holds Try.pinned (OpenSpec.upto vecTellsSpec)

/-- 'sheetpilelaw02.VecGathers', WHERE WHAT IT READS IS OF BULK AT MOST 1048576: true; the input reads as it did. -/
def vecGathersUptoRow : OpenClaim := { program := "ytidcbihdbkhhlaa", sum := "bf1ecb2c4f9ae4a83512a15af0f0091ecf386c14b2c27ede41190b9be0f3a73a", func := "sheetpile/sheetpilelaw02.VecGathers", spec := "vecGathers", apart := false, narrowed := true }
def VecGathersUptoSaid : Prop := vecGathersUptoRow.holds Try.pinned (OpenSpec.upto vecGathersSpec)

/-- 'sheetpilelaw02.VecLinear', WHERE WHAT IT READS IS OF BULK AT MOST 1048576: true; the input reads as it did. -/
def vecLinearUptoRow : OpenClaim := { program := "ytidcbihdbkhhlaa", sum := "bf1ecb2c4f9ae4a83512a15af0f0091ecf386c14b2c27ede41190b9be0f3a73a", func := "sheetpile/sheetpilelaw02.VecLinear", spec := "vecLinear", apart := false, narrowed := true }
def VecLinearUptoSaid : Prop := vecLinearUptoRow.holds Try.pinned (OpenSpec.upto vecLinearSpec)

/-- 'sheetpilelaw02.VecDots', WHERE WHAT IT READS IS OF BULK AT MOST 1048576: true; the input reads as it did. -/
def vecDotsUptoRow : OpenClaim := { program := "ytidcbihdbkhhlaa", sum := "bf1ecb2c4f9ae4a83512a15af0f0091ecf386c14b2c27ede41190b9be0f3a73a", func := "sheetpile/sheetpilelaw02.VecDots", spec := "vecDots", apart := false, narrowed := true }
def VecDotsUptoSaid : Prop := vecDotsUptoRow.holds Try.pinned (OpenSpec.upto vecDotsSpec)

/-- 'sheetpilelaw02.VecCut', WHERE WHAT IT READS IS OF BULK AT MOST 1048576: true; the input reads as it did. -/
def vecCutUptoRow : OpenClaim := { program := "ytidcbihdbkhhlaa", sum := "bf1ecb2c4f9ae4a83512a15af0f0091ecf386c14b2c27ede41190b9be0f3a73a", func := "sheetpile/sheetpilelaw02.VecCut", spec := "vecCut", apart := false, narrowed := true }
def VecCutUptoSaid : Prop := vecCutUptoRow.holds Try.pinned (OpenSpec.upto vecCutSpec)

/-- 'sheetpilelaw02.VecOne', WHERE WHAT IT READS IS OF BULK AT MOST 1048576: true; the input reads as it did. -/
def vecOneUptoRow : OpenClaim := { program := "ytidcbihdbkhhlaa", sum := "bf1ecb2c4f9ae4a83512a15af0f0091ecf386c14b2c27ede41190b9be0f3a73a", func := "sheetpile/sheetpilelaw02.VecOne", spec := "vecOne", apart := false, narrowed := true }
def VecOneUptoSaid : Prop := vecOneUptoRow.holds Try.pinned (OpenSpec.upto vecOneSpec)

/-- 'sheetpilelaw02.VecBack', WHERE WHAT IT READS IS OF BULK AT MOST 1048576: true; the input reads as it did. -/
def vecBackUptoRow : OpenClaim := { program := "ytidcbihdbkhhlaa", sum := "bf1ecb2c4f9ae4a83512a15af0f0091ecf386c14b2c27ede41190b9be0f3a73a", func := "sheetpile/sheetpilelaw02.VecBack", spec := "vecBack", apart := false, narrowed := true }
def VecBackUptoSaid : Prop := vecBackUptoRow.holds Try.pinned (OpenSpec.upto vecBackSpec)

end Rows
end Go.Proofs.Ytidcbihdbkhhlaa
