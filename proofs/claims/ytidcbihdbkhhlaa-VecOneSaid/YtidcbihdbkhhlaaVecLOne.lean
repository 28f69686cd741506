/- Layer 2's law VecOne over the printed functions: it answers true, at every input. -/
import Derived.Test.YtidcbihdbkhhlaaVecPlain
import Derived.Test.YtidcbihdbkhhlaaPVec7
namespace Go.Proofs.Ytidcbihdbkhhlaa.Gf
open Go.RowKit Go.Proofs.Ytidcbihdbkhhlaa.PVec Go.Proofs.YtidcbihdbkhhlaaW.PrintWords Go.Proofs.YtidcbihdbkhhlaaW.PrintLast Go.Proofs.YtidcbihdbkhhlaaW.PrintMore

theorem one_true (a b : ByteArray) (c : Nat) (hc : c < 256) : ∃ k, sheetpilelaw02_VecOne.f k a b (c : Int) = some true := by
  refine ⟨3000, ?_⟩
  unfold sheetpilelaw02_VecOne.f
  by_cases h1 : (a.size : Int) > 1000
  · rw [if_pos h1]
    simp only [sheetpilelaw02_VecOne.j0, if_true]
    rw [live_f _ (by omega)]
    rfl
  rw [if_neg h1]
  by_cases h2 : a.size = b.size
  · rw [show ((a.size : Int) != (b.size : Int)) = false from bne_no h2]
    simp only [sheetpilelaw02_VecOne.j0]
    have ev : even [a, b] 2 := by
      intro i hi
      match i, hi with
      | 0, _ => rfl
      | 1, _ => exact h2.symm
    have g1 := vec_Gather_f 2999 [c] [a] (by simpa using hc) rfl (by simp) (by simp) (by show a.size ≤ _; omega) (fun i hi => by obtain rfl : i = 0 := (by simpa using hi); rfl) (by simp)
    have g2 := vec_Gather_f 2999 [c, 0] [a, b] (by simpa using hc) rfl (by simp) (by simp) (by show a.size ≤ _; omega) ev (by simp)
    have g3 := vec_Gather_f 2999 [1, 1] [a, b] (by decide) rfl (by simp) (by simp) (by show a.size ≤ _; omega) ev (by simp)
    have z1 : sumB a.size [scaleB a c] = scaleB a c := by
      refine bytes_ext (by rw [sumB_size, scaleB_size]) (fun i hi => ?_)
      rw [sumB_size] at hi
      rw [sumB_at _ _ _ hi]
      simp [accR]
    have z2 : sumB a.size [scaleB a c, scaleB b 0] = scaleB a c := by
      refine bytes_ext (by rw [sumB_size, scaleB_size]) (fun i hi => ?_)
      rw [sumB_size] at hi
      rw [sumB_at _ _ _ hi, acc_two, scaleB_at b _ _ (by omega), mul_zero_right _ (byteAt_lt b i), Nat.xor_zero]
    have z3 : sumB a.size [scaleB a 1, scaleB b 1] = sumB a.size [a, b] := by rw [scale_one, scale_one]
    have f1 : vec_Gather.f 2999 [(c : Int)] [a] = some (scaleB a c, 0) := g1.trans (by rw [← z1]; rfl)
    have f2 : vec_Gather.f 2999 [(c : Int), 0] [a, b] = some (scaleB a c, 0) := g2.trans (by rw [← z2]; rfl)
    have f3 : vec_Gather.f 2999 [1, 1] [a, b] = some (sumB a.size [a, b], 0) := g3.trans (by rw [← z3]; rfl)
    rw [if_neg (by decide), f1, f2, f3, vec_Add_f a b (by omega) h2, vec_Scale_f a c (by omega) hc, live_f _ (by omega)]
    simp only [Option.bind_some, if_true]
  · rw [show ((a.size : Int) != (b.size : Int)) = true from bne_yes h2]
    simp only [sheetpilelaw02_VecOne.j0, if_true]
    rw [live_f _ (by omega)]
    rfl

end Go.Proofs.Ytidcbihdbkhhlaa.Gf
