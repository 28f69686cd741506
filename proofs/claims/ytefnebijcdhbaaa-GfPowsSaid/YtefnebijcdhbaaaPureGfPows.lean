/- A number's powers are multiplied by adding, and of a product they are the products: proved for every input, without a condition. -/
import Derived.Test.YtefnebijcdhbaaaPGf3
import Derived.Test.YtefnebijcdhbaaaGfSpec
namespace Go.Proofs.Ytefnebijcdhbaaa.Pure
open Go.RowKit Go.Proofs.Ytefnebijcdhbaaa.PGf Go.Proofs.Ytefnebijcdhbaaa.Gf Go.Proofs.YtefnebijcdhbaaaW.PrintWords Go.Proofs.YtefnebijcdhbaaaW.PrintLast Go.Proofs.YtefnebijcdhbaaaW.PrintMore

theorem GfPows : sheetpilelaw01_GfPows.Pure := by
  intro a0 a1 n w0 w1 _
  obtain ⟨a, ha, rfl⟩ := nat_u8 w0
  obtain ⟨b, hb, rfl⟩ := nat_u8 w1
  refine ⟨20, ?_⟩
  unfold sheetpilelaw01_GfPows.f
  by_cases h : n < 0
  · rw [if_pos h]
    simp only [sheetpilelaw01_GfPows.j0, if_true]
    rw [live_f 19 (by omega)]
    rfl
  · rw [if_neg h]
    by_cases h1 : n > 10000
    · rw [decide_eq_true h1]
      simp only [sheetpilelaw01_GfPows.j0, if_true]
      rw [live_f 19 (by omega)]
      rfl
    · rw [decide_eq_false h1]
      simp only [sheetpilelaw01_GfPows.j0]
      obtain ⟨n, rfl⟩ := Int.eq_ofNat_of_zero_le (by omega : 0 ≤ n)
      have hp : ∀ (a m : Nat), powZ a (m : Int) = pw a m := by
        intro a m
        unfold powZ
        by_cases hm : m = 0
        · subst hm; rfl
        · rw [if_neg (by omega), Int.toNat_natCast]
      rw [if_neg (by decide), w64 (by omega) (by omega), show (n : Int) + 1 = ((n + 1 : Nat) : Int) by omega, gf_Pow_f a _ ha, gf_Pow_f a _ ha, hp, hp]
      simp only [Option.bind_some]
      rw [gf_Mul_f 19 _ a (by omega) (pw_lt ha n) ha]
      simp only [Option.bind_some]
      rw [if_pos (by rfl), gf_Mul_f 19 a b (by omega) ha hb]
      simp only [Option.bind_some]
      rw [gf_Pow_f _ _ (mul_lt b ha), gf_Pow_f b _ hb, hp, hp]
      simp only [Option.bind_some]
      rw [gf_Mul_f 19 _ _ (by omega) (pw_lt ha n) (pw_lt hb n)]
      simp only [Option.bind_some]
      rw [if_pos (by rw [pw_mul ha hb]), live_f 19 (by omega)]
      rfl

end Go.Proofs.Ytefnebijcdhbaaa.Pure
