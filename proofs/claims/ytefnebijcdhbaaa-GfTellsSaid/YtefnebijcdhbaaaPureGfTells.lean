/- Any two numbers are added, multiplied and divided, and turned, as the reference tells: proved for every input, without a condition. -/
import Derived.Test.YtefnebijcdhbaaaPGf1
import Derived.Test.YtefnebijcdhbaaaGfSpec
namespace Go.Proofs.Ytefnebijcdhbaaa.Pure
open Go.RowKit Go.Proofs.Ytefnebijcdhbaaa.PGf Go.Proofs.Ytefnebijcdhbaaa.Gf Go.Proofs.YtefnebijcdhbaaaW.PrintWords Go.Proofs.YtefnebijcdhbaaaW.PrintLast Go.Proofs.YtefnebijcdhbaaaW.PrintMore

theorem GfTells : sheetpilelaw01_GfTells.Pure := by
  intro a0 a1 w0 w1
  obtain ⟨a, ha, rfl⟩ := nat_u8 w0
  obtain ⟨b, hb, rfl⟩ := nat_u8 w1
  refine ⟨300, ?_⟩
  unfold sheetpilelaw01_GfTells.f
  rw [gf_Div_f a b ha hb, ref_Div_f 300 a b (by omega) ha hb, gf_Inv_f a ha, ref_Inv_f 300 a (by omega) ha, gf_Add_f a b ha hb, gf_Mul_f 300 a b (by omega) ha hb, ref_Mul_f 300 a b (by omega) ha hb, live_f 300 (by omega), u8_xor_nat a b ha hb]
  simp only [Option.bind_some, if_true]

end Go.Proofs.Ytefnebijcdhbaaa.Pure
