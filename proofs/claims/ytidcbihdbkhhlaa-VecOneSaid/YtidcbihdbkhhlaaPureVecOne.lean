/- The plain law of VecOne: of one row Gather is Scale; for every input, without a condition. -/
import Derived.Test.YtidcbihdbkhhlaaPVec7
import Derived.Test.YtidcbihdbkhhlaaVecLOne
namespace Go.Proofs.Ytidcbihdbkhhlaa.Pure
open Go.RowKit Go.Proofs.Ytidcbihdbkhhlaa.PVec Go.Proofs.Ytidcbihdbkhhlaa.Gf

theorem VecOne : sheetpilelaw02_VecOne.Pure := fun a b c _ _ hc => by
  obtain ⟨c, h, rfl⟩ := nat_u8 hc
  exact one_true a b c h

end Go.Proofs.Ytidcbihdbkhhlaa.Pure
