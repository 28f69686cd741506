/- Layer 2's law VecDots over the printed functions: it answers true, at every input. -/
import Derived.Test.YtidcbihdbkhhlaaVecPlain
import Derived.Test.YtidcbihdbkhhlaaPVec5
namespace Go.Proofs.Ytidcbihdbkhhlaa.Gf
open Go.RowKit Go.Proofs.Ytidcbihdbkhhlaa.PVec Go.Proofs.YtidcbihdbkhhlaaW.PrintWords Go.Proofs.YtidcbihdbkhhlaaW.PrintLast Go.Proofs.YtidcbihdbkhhlaaW.PrintMore

theorem dots_true (a b c : ByteArray) : ∃ k, sheetpilelaw02_VecDots.f k a b c = some true := by
  refine ⟨3000, ?_⟩
  unfold sheetpilelaw02_VecDots.f
  by_cases h1 : (a.size : Int) > 1000
  · rw [if_pos h1]
    simp only [sheetpilelaw02_VecDots.j0, if_true]
    rw [live_f _ (by omega)]
    rfl
  · rw [if_neg h1]
    by_cases h2 : (a.size : Int) = (b.size : Int)
    · rw [if_pos h2]
      by_cases h3 : a.size = c.size
      · rw [show ((a.size : Int) != (c.size : Int)) = false from bne_no h3]
        simp only [sheetpilelaw02_VecDots.j0]
        rw [if_neg (by decide), vec_Add_f b c (by omega) (by omega), live_f _ (by omega)]
        simp only [Option.bind_some]
        rw [vec_Dot_f _ a _ (by omega) (by rw [sumB_size]; omega) (by omega), vec_Dot_f _ a b (by omega) (by omega) (by omega), vec_Dot_f _ a c (by omega) (by omega) (by omega), vec_Dot_f _ b a (by omega) (by omega) (by omega)]
        simp only [Option.bind_some, if_true]
        rw [gf_Add_f _ _ (dotN_lt _ _ _) (dotN_lt _ _ _)]
        simp only [Option.bind_some]
        rw [if_pos (by rw [dot_sum a b c b.size a.size (by omega)]), if_pos (by rw [dot_comm b a, show b.size = a.size by omega])]
      · rw [show ((a.size : Int) != (c.size : Int)) = true from bne_yes h3]
        simp only [sheetpilelaw02_VecDots.j0, if_true]
        rw [live_f _ (by omega)]
        rfl
    · rw [if_neg h2]
      simp only [sheetpilelaw02_VecDots.j0, if_true]
      rw [live_f _ (by omega)]
      rfl

end Go.Proofs.Ytidcbihdbkhhlaa.Gf
