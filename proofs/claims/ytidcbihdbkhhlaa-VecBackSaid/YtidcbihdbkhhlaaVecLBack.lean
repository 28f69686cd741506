/- Layer 2's law VecBack over the printed functions: it answers true, at every input. -/
import Derived.Test.YtidcbihdbkhhlaaVecPlain
import Derived.Test.YtidcbihdbkhhlaaPVec7
namespace Go.Proofs.Ytidcbihdbkhhlaa.Gf
open Go.RowKit Go.Proofs.Ytidcbihdbkhhlaa.PVec Go.Proofs.YtidcbihdbkhhlaaW.PrintWords Go.Proofs.YtidcbihdbkhhlaaW.PrintLast Go.Proofs.YtidcbihdbkhhlaaW.PrintMore

theorem gf_Inv_f (a : Nat) (ha : a < 256) : gf_Inv.f (a : Int) = some (if a = 0 then (0, 1) else (((inv a : Nat) : Int), 0)) := by
  unfold gf_Inv.f gf_Div.f divF
  rw [if_pos ⟨by omega, by omega, by omega, by omega⟩]
  by_cases h : a = 0
  · subst h; rfl
  · rw [if_neg (by omega), if_neg (by decide), if_neg h, Int.toNat_natCast]
    have := divT_eq (a := 1) (b := a) (by decide) (by decide)
    rw [one_mul (inv_lt a)] at this
    rw [show (1 : Int).toNat = 1 from rfl, this]
    rfl
theorem back_true (a b : ByteArray) (c : Nat) (hc : c < 256) : ∃ k, sheetpilelaw02_VecBack.f k a b (c : Int) = some true := by
  refine ⟨3000, ?_⟩
  unfold sheetpilelaw02_VecBack.f
  by_cases h1 : (a.size : Int) > 1000
  · rw [if_pos h1]
    simp only [sheetpilelaw02_VecBack.j0, if_true]
    rw [live_f _ (by omega)]
    rfl
  rw [if_neg h1]
  by_cases h2 : a.size = b.size
  · rw [show ((a.size : Int) != (b.size : Int)) = false from bne_no h2]
    simp only [sheetpilelaw02_VecBack.j0]
    rw [if_neg (by decide), vec_Add_f a b (by omega) h2, live_f _ (by omega)]
    simp only [Option.bind_some]
    rw [vec_Add_f _ b (by rw [sumB_size]; omega) (by rw [sumB_size]; exact h2), gf_Inv_f c hc, vec_Scale_f a c (by omega) hc, sumB_size, sum_back]
    simp only [Option.bind_some, if_true]
    by_cases h0 : c = 0
    · rw [if_pos h0]
      rfl
    · rw [if_neg h0, if_pos rfl, vec_Scale_f _ (inv c) (by rw [scaleB_size]; omega) (inv_lt c), scale_back a c hc h0]
      simp only [Option.bind_some, if_true]
  · rw [show ((a.size : Int) != (b.size : Int)) = true from bne_yes h2]
    simp only [sheetpilelaw02_VecBack.j0, if_true]
    rw [live_f _ (by omega)]
    rfl

end Go.Proofs.Ytidcbihdbkhhlaa.Gf
