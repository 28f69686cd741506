/- The plain law of VecDots: a row's product with a sum is the sum of its products; for every input, without a condition. -/
import Derived.Test.YtidcbihdbkhhlaaPVec5
import Derived.Test.YtidcbihdbkhhlaaVecLDots
namespace Go.Proofs.Ytidcbihdbkhhlaa.Pure
open Go.RowKit Go.Proofs.Ytidcbihdbkhhlaa.PVec Go.Proofs.Ytidcbihdbkhhlaa.Gf

theorem VecDots : sheetpilelaw02_VecDots.Pure := fun a b c _ _ _ => dots_true a b c

end Go.Proofs.Ytidcbihdbkhhlaa.Pure
