/- The plain law of VecCut: what is done byte by byte is done to parts, too; for every input, without a condition. -/
import Derived.Test.YtidcbihdbkhhlaaPVec6
import Derived.Test.YtidcbihdbkhhlaaVecLCut
namespace Go.Proofs.Ytidcbihdbkhhlaa.Pure
open Go.RowKit Go.Proofs.Ytidcbihdbkhhlaa.PVec Go.Proofs.Ytidcbihdbkhhlaa.Gf

theorem VecCut : sheetpilelaw02_VecCut.Pure := fun a b n _ _ _ => cut_true a b n

end Go.Proofs.Ytidcbihdbkhhlaa.Pure
