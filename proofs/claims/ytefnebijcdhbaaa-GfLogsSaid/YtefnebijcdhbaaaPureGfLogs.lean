/- A product's logarithm is the sum of its factors', modulo 255, and nothing but 0 makes 0: proved for every input, without a condition. -/
import Derived.Test.YtefnebijcdhbaaaPGf2
import Derived.Test.YtefnebijcdhbaaaGfSpec
namespace Go.Proofs.Ytefnebijcdhbaaa.Pure
open Go.RowKit Go.Proofs.Ytefnebijcdhbaaa.PGf Go.Proofs.Ytefnebijcdhbaaa.Gf Go.Proofs.YtefnebijcdhbaaaW.PrintWords Go.Proofs.YtefnebijcdhbaaaW.PrintLast Go.Proofs.YtefnebijcdhbaaaW.PrintMore

theorem GfLogs : sheetpilelaw01_GfLogs.Pure := by
  intro a0 a1 w0 w1
  obtain ⟨a, ha, rfl⟩ := nat_u8 w0
  obtain ⟨b, hb, rfl⟩ := nat_u8 w1
  refine ⟨20, ?_⟩
  unfold sheetpilelaw01_GfLogs.f
  rw [gf_Mul_f 20 a b (by omega) ha hb]
  simp only [Option.bind_some]
  by_cases h1 : a = 0
  · subst h1
    rw [if_pos (by omega), mul_zero_left b hb]
    simp only [sheetpilelaw01_GfLogs.j0, if_true]
    rw [if_pos (by omega), live_f 19 (by omega)]
    rfl
  · rw [if_neg (by omega)]
    by_cases h2 : b = 0
    · subst h2
      rw [mul_zero_right a ha, show (((0 : Nat) : Int) == 0) = true from rfl]
      simp only [sheetpilelaw01_GfLogs.j0, if_true]
      rw [if_pos (by omega), live_f 19 (by omega)]
      rfl
    · rw [show ((b : Int) == 0) = false by simpa using h2]
      have hm := mul_ne ha hb h1 h2
      have hla := lg_lt a
      have hlb := lg_lt b
      simp only [sheetpilelaw01_GfLogs.j0]
      rw [if_neg (by decide), gf_Log_f a ha, gf_Log_f b hb, gf_Log_f (mul a b) (mul_lt b ha), if_neg h1, if_neg h2, if_neg hm, live_f 19 (by omega), lg_mul ha hb h1 h2]
      simp only [Option.bind_some]
      simp only [if_true]
      rw [if_neg (by omega), w64 (by omega) (by omega), Int.tmod_eq_emod_of_nonneg (by omega), if_pos (by omega), gf_Exp_f]
      simp only [Option.bind_some]
      rw [show ((lg a : Int) % 255).toNat = lg a by omega, ex_lg h1 ha, if_pos rfl, if_pos (by omega), if_pos (by omega)]

end Go.Proofs.Ytefnebijcdhbaaa.Pure
