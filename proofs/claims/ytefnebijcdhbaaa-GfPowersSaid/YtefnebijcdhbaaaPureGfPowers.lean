/- Any power of 2, the logarithm of any number, and any power of any number are as the reference tells: proved for every input, without a condition. -/
import Derived.Test.YtefnebijcdhbaaaPGf2
import Derived.Test.YtefnebijcdhbaaaGfSpec
namespace Go.Proofs.Ytefnebijcdhbaaa.Pure
open Go.RowKit Go.Proofs.Ytefnebijcdhbaaa.PGf Go.Proofs.Ytefnebijcdhbaaa.Gf Go.Proofs.YtefnebijcdhbaaaW.PrintWords Go.Proofs.YtefnebijcdhbaaaW.PrintLast Go.Proofs.YtefnebijcdhbaaaW.PrintMore

theorem GfPowers : sheetpilelaw01_GfPowers.Pure := by
  intro a0 n w0 w1
  obtain ⟨a, ha, rfl⟩ := nat_u8 w0
  refine ⟨600, ?_⟩
  unfold sheetpilelaw01_GfPowers.f
  rw [gf_Log_f a ha, ref_Log_f 600 a (by omega) ha, gf_Exp_f, ref_Exp_f 600 n (by omega), gf_Pow_f a n ha, ref_Pow_f 600 a n (by omega) ha, live_f 600 (by omega)]
  simp only [Option.bind_some, if_true]

end Go.Proofs.Ytefnebijcdhbaaa.Pure
