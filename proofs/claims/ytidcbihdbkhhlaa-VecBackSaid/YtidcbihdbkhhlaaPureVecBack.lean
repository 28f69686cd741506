/- The plain law of VecBack: what is added is taken away by adding it again, what is scaled comes back; for every input, without a condition. -/
import Derived.Test.YtidcbihdbkhhlaaPVec7
import Derived.Test.YtidcbihdbkhhlaaVecLBack
namespace Go.Proofs.Ytidcbihdbkhhlaa.Pure
open Go.RowKit Go.Proofs.Ytidcbihdbkhhlaa.PVec Go.Proofs.Ytidcbihdbkhhlaa.Gf

theorem VecBack : sheetpilelaw02_VecBack.Pure := fun a b c _ _ hc => by
  obtain ⟨c, h, rfl⟩ := nat_u8 hc
  exact back_true a b c h

end Go.Proofs.Ytidcbihdbkhhlaa.Pure
