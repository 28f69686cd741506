/- Written by this session's own program (myprint.py) out of the translation: plain functions with the same answers as the program's, a proof that the program's calls come to them, the laws' rows. Lean checks it. -/
import Derived.Test.YtefnebijcdhbaaaProg
import Derived.Below
import Derived.Deep.Draws
import Derived.Deep.AppendLies
import Derived.Maps.AppendAt
import Derived.OwnWalk
import Derived.Laws.BytesArg
import Derived.Laws.MakeOwn
import Derived.Laws.OwnMore
import Derived.Deep.OwnRows
import Derived.Tactics
import Derived.Lib.ConvBytes
import Derived.Laws.Slices
import Derived.WalkKit
import Derived.KernelRfl
import Derived.RowKit3
import Derived.Deep.LoopGhost
import Derived.Deep.QuietTactic
import Derived.BigQuiet
import Derived.WideLaws
import Derived.Deep.DeepCutAuto
import Derived.Deep.CutBlock
import Derived.Deep.RegionHeld3
import Derived.Laws.Rows
import Derived.Lib.AppendStr
import Derived.ArgAppend
import Derived.Laws.IdiomCopy
import Derived.OrdersHeld
import Derived.Laws.BitsLemmas
import Derived.RowKit
import Derived.Test.YtefnebijcdhbaaaGfWalk
import Derived.Test.YtefnebijcdhbaaaWWords
import Derived.Test.YtefnebijcdhbaaaWLast
import Derived.Test.YtefnebijcdhbaaaWTab
import Derived.Test.YtefnebijcdhbaaaWFour
import Derived.Test.YtefnebijcdhbaaaWQPut
import Derived.Test.YtefnebijcdhbaaaWApart
import Derived.Test.YtefnebijcdhbaaaWArr
import Derived.Test.YtefnebijcdhbaaaWZeros
import Derived.Test.YtefnebijcdhbaaaWFoot
import Derived.Test.YtefnebijcdhbaaaWKept
import Derived.Test.YtefnebijcdhbaaaWShare
import Derived.Test.YtefnebijcdhbaaaWN
import Derived.Test.YtefnebijcdhbaaaWFootNe
import Derived.Test.YtefnebijcdhbaaaWAt
import Derived.Test.YtefnebijcdhbaaaWEqStruct
import Derived.Test.YtefnebijcdhbaaaWRepsOne
import Derived.Test.YtefnebijcdhbaaaWInv
import Derived.Test.YtefnebijcdhbaaaWInvWords
import Derived.Test.YtefnebijcdhbaaaWGuard
import Derived.Test.YtefnebijcdhbaaaWNEv
import Derived.Test.YtefnebijcdhbaaaWMore
namespace Go.Proofs.Ytefnebijcdhbaaa.PGf
open Go.RowKit Go.Proofs.YtefnebijcdhbaaaW.PrintWords Go.Proofs.YtefnebijcdhbaaaW.PrintLast Go.Proofs.YtefnebijcdhbaaaW.PrintMore
attribute [local go_sem] max2_int min2_int max_two min_two max_three min_three max_four min_four   -- for this text's walks alone
set_option linter.unusedVariables false
set_option linter.unusedSimpArgs false



def errW : Option Int → Value
  | none => .nilIface
  | some c => .iface 0 (.int .i64 c)
theorem errW_none : errW none = .nilIface := rfl
theorem errW_some (c : Int) : errW (some c) = .iface 0 (.int .i64 c) := rfl

-- the values' own types

end Go.Proofs.Ytefnebijcdhbaaa.PGf
