/- Written by this session's own program (myprint.py) out of the translation: plain functions with the same answers as the program's, a proof that the program's calls come to them, the laws' rows. Lean checks it. -/
import Derived.Test.YtidcbihdbkhhlaaProg
import Derived.Below
import Derived.Deep.Draws
import Derived.Deep.AppendLies
import Derived.Maps.AppendAt
import Derived.OwnWalk
import Derived.Laws.BytesArg
import Derived.Laws.MakeOwn
import Derived.Laws.OwnMore
import Derived.Deep.OwnRows
import Derived.Tactics
import Derived.Lib.ConvBytes
import Derived.Laws.Slices
import Derived.WalkKit
import Derived.KernelRfl
import Derived.RowKit3
import Derived.Deep.LoopGhost
import Derived.Deep.QuietTactic
import Derived.BigQuiet
import Derived.WideLaws
import Derived.Deep.DeepCutAuto
import Derived.Deep.CutBlock
import Derived.Deep.RegionHeld3
import Derived.Laws.Rows
import Derived.Lib.AppendStr
import Derived.ArgAppend
import Derived.Laws.IdiomCopy
import Derived.OrdersHeld
import Derived.Laws.BitsLemmas
import Derived.RowKit
import Derived.Test.YtidcbihdbkhhlaaGfWalk
import Derived.Test.YtidcbihdbkhhlaaVecScale
import Derived.Test.YtidcbihdbkhhlaaVecSum
import Derived.Test.YtidcbihdbkhhlaaWWords
import Derived.Test.YtidcbihdbkhhlaaWLast
import Derived.Test.YtidcbihdbkhhlaaWTab
import Derived.Test.YtidcbihdbkhhlaaWFour
import Derived.Test.YtidcbihdbkhhlaaWQPut
import Derived.Test.YtidcbihdbkhhlaaWApart
import Derived.Test.YtidcbihdbkhhlaaWArr
import Derived.Test.YtidcbihdbkhhlaaWZeros
import Derived.Test.YtidcbihdbkhhlaaWFoot
import Derived.Test.YtidcbihdbkhhlaaWKept
import Derived.Test.YtidcbihdbkhhlaaWShare
import Derived.Test.YtidcbihdbkhhlaaWN
import Derived.Test.YtidcbihdbkhhlaaWFootNe
import Derived.Test.YtidcbihdbkhhlaaWAt
import Derived.Test.YtidcbihdbkhhlaaWEqStruct
import Derived.Test.YtidcbihdbkhhlaaWRepsOne
import Derived.Test.YtidcbihdbkhhlaaWInv
import Derived.Test.YtidcbihdbkhhlaaWInvWords
import Derived.Test.YtidcbihdbkhhlaaWGuard
import Derived.Test.YtidcbihdbkhhlaaWNEv
import Derived.Test.YtidcbihdbkhhlaaWMore
namespace Go.Proofs.Ytidcbihdbkhhlaa.PVec
open Go.RowKit Go.Proofs.YtidcbihdbkhhlaaW.PrintWords Go.Proofs.YtidcbihdbkhhlaaW.PrintLast Go.Proofs.YtidcbihdbkhhlaaW.PrintMore
attribute [local go_sem] max2_int min2_int max_two min_two max_three min_three max_four min_four   -- for this text's walks alone
set_option linter.unusedVariables false
set_option linter.unusedSimpArgs false



def errW : Option Int → Value
  | none => .nilIface
  | some c => .iface 0 (.int .i64 c)
theorem errW_none : errW none = .nilIface := rfl
theorem errW_some (c : Int) : errW (some c) = .iface 0 (.int .i64 c) := rfl

theorem info5 : (Try.prog.info? 5).map (fun i => (i.zero, i.size, i.bytes)) = some (some (.int .u8 0), 1, 1) := by kernel_rfl
theorem info9 : (Try.prog.info? 9).map (fun i => (i.zero, i.size, i.bytes)) = some (some (.string ⟨#[]⟩), 1, 16) := by kernel_rfl
-- the values' own types

end Go.Proofs.Ytidcbihdbkhhlaa.PVec
