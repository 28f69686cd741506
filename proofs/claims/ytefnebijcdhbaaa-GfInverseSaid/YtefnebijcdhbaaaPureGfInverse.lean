/- What is turned twice is itself, and a number and its turn make 1: proved for every input, without a condition. -/
import Derived.Test.YtefnebijcdhbaaaPGf3
import Derived.Test.YtefnebijcdhbaaaGfSpec
namespace Go.Proofs.Ytefnebijcdhbaaa.Pure
open Go.RowKit Go.Proofs.Ytefnebijcdhbaaa.PGf Go.Proofs.Ytefnebijcdhbaaa.Gf Go.Proofs.YtefnebijcdhbaaaW.PrintWords Go.Proofs.YtefnebijcdhbaaaW.PrintLast Go.Proofs.YtefnebijcdhbaaaW.PrintMore

theorem GfInverse : sheetpilelaw01_GfInverse.Pure := by
  intro a0 w0
  obtain ⟨a, ha, rfl⟩ := nat_u8 w0
  refine ⟨20, ?_⟩
  unfold sheetpilelaw01_GfInverse.f
  rw [gf_Inv_f a ha, live_f 20 (by omega)]
  by_cases h : a = 0
  · subst h
    rfl
  · rw [if_neg h]
    simp only [Option.bind_some]
    rw [if_neg (by omega), gf_Inv_f (inv a) (inv_lt a), if_neg (inv_ne a), inv_inv ha h, gf_Mul_f 20 a (inv a) (by omega) ha (inv_lt a), mul_inv ha h]
    simp only [Option.bind_some, if_true]
    rfl

end Go.Proofs.Ytefnebijcdhbaaa.Pure
