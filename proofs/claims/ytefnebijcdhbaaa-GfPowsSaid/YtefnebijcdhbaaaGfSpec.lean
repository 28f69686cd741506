/- What the printed functions of layer 1 and of its reference answer, in plain arithmetic. -/
import Derived.Test.YtefnebijcdhbaaaPGf1
import Derived.Test.YtefnebijcdhbaaaPGf2
namespace Go.Proofs.Ytefnebijcdhbaaa.Gf
open Go.RowKit Go.Proofs.Ytefnebijcdhbaaa.PGf Go.Proofs.YtefnebijcdhbaaaW.PrintWords Go.Proofs.YtefnebijcdhbaaaW.PrintLast Go.Proofs.YtefnebijcdhbaaaW.PrintMore

theorem nat_u8 {a : Int} (h : (Lit.int .u8 a).wf = true) : ∃ n : Nat, n < 256 ∧ a = (n : Int) := by
  have hmin : IntKind.u8.min = 0 := rfl
  have hmax : IntKind.u8.max = 255 := rfl
  simp only [Lit.wf, Bool.and_eq_true, decide_eq_true_eq, hmin, hmax] at h
  exact ⟨a.toNat, by omega, by omega⟩
theorem i64_bounds {a : Int} (h : (Lit.int .i64 a).wf = true) : -9223372036854775808 ≤ a ∧ a ≤ 9223372036854775807 := by
  have hmin : IntKind.i64.min = -9223372036854775808 := rfl
  have hmax : IntKind.i64.max = 9223372036854775807 := rfl
  simp only [Lit.wf, Bool.and_eq_true, decide_eq_true_eq, hmin, hmax] at h
  exact h
theorem w64 {n : Int} (h0 : -9223372036854775808 ≤ n) (h1 : n ≤ 9223372036854775807) : wrap64 n = n := by unfold wrap64; omega

theorem twice_f (a : Nat) (h : a < 256) : sheetpileref01_Twice.f (a : Int) = some ((tw a : Nat) : Int) := by
  unfold sheetpileref01_Twice.f
  rw [w64 (n := (a : Int)) (by omega) (by omega), w64 (by omega) (by omega), show (2 : Int) * a = (a : Int) * 2 by omega]
  have ht := tw_lt h
  by_cases h2 : 255 < a * 2
  · rw [if_pos (by omega), tw_hi a h2 h]
    congr 1
    omega
  · rw [if_neg (by omega), tw_lo a h2]
    congr 1
    omega

theorem gf_Mul_l0 : ∀ (n k b p x : Nat), n < k → b < 2 ^ n → b < 256 → p < 256 → x < 256 → gf_Mul.l0 k (b : Int) (p : Int) (x : Int) = some ((mulL n b p x : Nat) : Int)
  | 0, k, b, p, x, hk, hb, _, _, _ => by
    obtain ⟨k, rfl⟩ : ∃ m, k = m + 1 := ⟨k - 1, by omega⟩
    have : b = 0 := by simpa using hb
    subst this
    simp only [gf_Mul.l0]
    rfl
  | n + 1, k, b, p, x, hk, hb, hb8, hp, hx => by
    obtain ⟨k, rfl⟩ : ∃ m, k = m + 1 := ⟨k - 1, by omega⟩
    simp only [gf_Mul.l0]
    by_cases h0 : b = 0
    · subst h0
      rw [if_pos (by omega), mulL_zero (n + 1) p x]
    · rw [if_neg (by omega)]
      have hb2 : b / 2 < 2 ^ n := by rw [Nat.pow_succ] at hb; omega
      have hd : ((b : Int) / 2) = ((b / 2 : Nat) : Int) := by omega
      have hw : wrap64 ((x : Int) * 2) = (x : Int) * 2 := w64 (by omega) (by omega)
      have ht := tw_lt hx
      have hm : (x : Int) % 256 = (x : Int) := by omega
      rw [hw, hd, hm]
      have hand : Go.bits .and .u8 (b : Int) 1 = ((b % 2 : Nat) : Int) := by
        have := u8_and_nat b 1 hb8 (by decide)
        rw [nat_mask1] at this
        exact this
      have hxr := u8_xor_nat p x hp hx
      rw [hand]
      simp only [mulL]
      by_cases hbit : b % 2 = 1
      · rw [if_neg (by omega), if_pos hbit, hxr]
        by_cases h2 : 255 < x * 2
        · rw [if_pos (by omega), tw_hi x h2 hx]
          exact gf_Mul_l0 n k _ _ _ (by omega) hb2 (by omega) (xor_lt hp hx) ht
        · rw [if_neg (by omega), tw_lo x h2]
          exact gf_Mul_l0 n k _ _ _ (by omega) hb2 (by omega) (xor_lt hp hx) ht
      · rw [if_pos (by omega), if_neg hbit]
        by_cases h2 : 255 < x * 2
        · rw [if_pos (by omega), tw_hi x h2 hx]
          exact gf_Mul_l0 n k _ _ _ (by omega) hb2 (by omega) hp ht
        · rw [if_neg (by omega), tw_lo x h2]
          exact gf_Mul_l0 n k _ _ _ (by omega) hb2 (by omega) hp ht

theorem gf_Mul_f (k a b : Nat) (hk : 8 < k) (ha : a < 256) (hb : b < 256) : gf_Mul.f k (a : Int) (b : Int) = some ((mul a b : Nat) : Int) := by
  unfold gf_Mul.f
  rw [w64 (by omega) (by omega)]
  exact gf_Mul_l0 8 k b 0 a hk hb hb (by decide) ha
theorem gf_Add_f (a b : Nat) (ha : a < 256) (hb : b < 256) : gf_Add.f (a : Int) (b : Int) = some ((a ^^^ b : Nat) : Int) := by
  unfold gf_Add.f
  rw [u8_xor_nat a b ha hb]

theorem ref_Mul_l0 (b : Nat) (hb : b < 256) : ∀ (n i k p x : Nat), n + i = 8 → n < k → p < 256 → x < 256 →
    sheetpileref01_Mul.l0 k (x : Int) (b : Int) (p : Int) (i : Int) = some ((mulL n (b / 2 ^ i) p x : Nat) : Int)
  | 0, i, k, p, x, hi, hk, _, _ => by
    obtain ⟨k, rfl⟩ : ∃ m, k = m + 1 := ⟨k - 1, by omega⟩
    simp only [sheetpileref01_Mul.l0]
    rw [if_neg (by omega)]
    rfl
  | n + 1, i, k, p, x, hi, hk, hp, hx => by
    obtain ⟨k, rfl⟩ : ∃ m, k = m + 1 := ⟨k - 1, by omega⟩
    simp only [sheetpileref01_Mul.l0]
    have hw : IntKind.u64.wrap (i : Int) = (i : Int) := by rw [IntKind.wrap_u64]; omega
    have hs : shr .u8 (b : Int) (i : Int) = ((b / 2 ^ i : Nat) : Int) := by
      unfold shr
      rw [Int.toNat_natCast, show min i IntKind.u8.bits = i from Nat.min_eq_left (by show i ≤ 8; omega)]
      simp
    have hnext : b / 2 ^ i / 2 = b / 2 ^ (i + 1) := by rw [Nat.div_div_eq_div_mul, Nat.pow_succ]
    have ht := tw_lt hx
    rw [if_pos (by omega), hw, if_pos (by omega), hs, twice_f x hx, w64 (n := (i : Int) + 1) (by omega) (by omega)]
    rw [u8_xor_nat p x hp hx]
    simp only [Option.bind_some, mulL]
    have hmod : Int.tmod ((b / 2 ^ i : Nat) : Int) 2 = ((b / 2 ^ i % 2 : Nat) : Int) := by
      obtain ⟨z, hz⟩ : ∃ z, b / 2 ^ i = z := ⟨_, rfl⟩
      rw [hz, Int.tmod_eq_emod_of_nonneg (Int.natCast_nonneg _)]
      omega
    rw [hmod, hnext]
    have hcast : (i : Int) + 1 = ((i + 1 : Nat) : Int) := by omega
    rw [hcast]
    by_cases h : b / 2 ^ i % 2 = 1
    · rw [if_pos (by omega), if_pos h]
      exact ref_Mul_l0 b hb n (i + 1) k _ _ (by omega) (by omega) (xor_lt hp hx) ht
    · rw [if_neg (by omega), if_neg h]
      exact ref_Mul_l0 b hb n (i + 1) k _ _ (by omega) (by omega) hp ht
theorem ref_Mul_f (k a b : Nat) (hk : 8 < k) (ha : a < 256) (hb : b < 256) : sheetpileref01_Mul.f k (a : Int) (b : Int) = some ((mul a b : Nat) : Int) := by
  have := ref_Mul_l0 b hb 8 0 k 0 a (by omega) hk (by decide) ha
  rw [Nat.pow_zero, Nat.div_one] at this
  exact this

theorem gf_Div_f (a b : Nat) (ha : a < 256) (hb : b < 256) :
    gf_Div.f (a : Int) (b : Int) = some (if b = 0 then (0, 1) else (((mul a (inv b) : Nat) : Int), 0)) := by
  unfold gf_Div.f divF
  rw [if_pos ⟨by omega, by omega, by omega, by omega⟩]
  by_cases h : b = 0
  · subst h; rfl
  · rw [if_neg (by omega), if_neg h]
    by_cases h1 : a = 0
    · subst h1
      rw [if_pos (by omega), mul_zero_left _ (inv_lt b)]
      rfl
    · rw [if_neg (by omega), Int.toNat_natCast, Int.toNat_natCast, divT_eq ha h1]
theorem gf_Inv_f (a : Nat) (ha : a < 256) : gf_Inv.f (a : Int) = some (if a = 0 then (0, 1) else (((inv a : Nat) : Int), 0)) := by
  unfold gf_Inv.f
  have := gf_Div_f 1 a (by decide) ha
  rw [one_mul (inv_lt a)] at this
  rw [show (1 : Int) = ((1 : Nat) : Int) from rfl, this]
  rfl

theorem ref_Inv_l0 (a : Nat) (ha : a < 256) : ∀ (d x k : Nat), d + x = 256 → d + 10 < k → 1 ≤ x → (a ≠ 0 → x ≤ inv a) →
    sheetpileref01_Inv.l0 k (a : Int) (x : Int) = some (if a = 0 then (0, 1) else (((inv a : Nat) : Int), 0))
  | 0, x, k, hd, hk, _, hx => by
    obtain ⟨k, rfl⟩ : ∃ m, k = m + 1 := ⟨k - 1, by omega⟩
    simp only [sheetpileref01_Inv.l0]
    rw [if_neg (by omega)]
    have hi := inv_lt a
    by_cases h : a = 0
    · rw [if_pos h]
    · have := hx h; omega
  | d + 1, x, k, hd, hk, h1, hx => by
    obtain ⟨k, rfl⟩ : ∃ m, k = m + 1 := ⟨k - 1, by omega⟩
    simp only [sheetpileref01_Inv.l0]
    have hm : (x : Int) % 256 = (x : Int) := by omega
    rw [if_pos (by omega), hm, ref_Mul_f k a x (by omega) ha (by omega)]
    simp only [Option.bind_some]
    by_cases h : mul a x = 1
    · have hi := inv_unique ha (by omega : x < 256) h
      have h0 : a ≠ 0 := by
        intro e; subst e
        rw [mul_zero_left x (by omega)] at h
        exact absurd h (by decide)
      rw [if_pos (by omega), if_neg h0, hi]
    · rw [if_neg (by omega), w64 (by omega) (by omega), show (x : Int) + 1 = ((x + 1 : Nat) : Int) by omega]
      refine ref_Inv_l0 a ha d (x + 1) k (by omega) (by omega) (by omega) (fun h0 => ?_)
      have := hx h0
      have hne : x ≠ inv a := by
        intro e
        rw [e, mul_inv ha h0] at h
        exact h rfl
      omega
theorem ref_Inv_f (k a : Nat) (hk : 300 ≤ k) (ha : a < 256) : sheetpileref01_Inv.f k (a : Int) = some (if a = 0 then (0, 1) else (((inv a : Nat) : Int), 0)) :=
  ref_Inv_l0 a ha 255 1 k (by omega) (by omega) (by omega) (fun _ => by have := inv_ne a; omega)
theorem ref_Div_f (k a b : Nat) (hk : 300 ≤ k) (ha : a < 256) (hb : b < 256) :
    sheetpileref01_Div.f k (a : Int) (b : Int) = some (if b = 0 then (0, 1) else (((mul a (inv b) : Nat) : Int), 0)) := by
  unfold sheetpileref01_Div.f
  rw [ref_Inv_f k b hk hb]
  by_cases h : b = 0
  · rw [if_pos h, if_pos h]; rfl
  · rw [if_neg h, if_neg h]
    simp only [Option.bind_some, if_true]
    rw [ref_Mul_f k a (inv b) (by omega) ha (inv_lt b)]
    rfl

theorem ref_Exp_l0 (x : Nat) (hx : x < 255) : ∀ (d i k : Nat), d + i = x → d < k → sheetpileref01_Exp.l0 k (x : Int) ((ex i : Nat) : Int) (i : Int) = some ((ex x : Nat) : Int)
  | 0, i, k, hd, hk => by
    obtain ⟨k, rfl⟩ : ∃ m, k = m + 1 := ⟨k - 1, by omega⟩
    simp only [sheetpileref01_Exp.l0]
    obtain rfl : i = x := by omega
    rw [if_neg (by omega)]
  | d + 1, i, k, hd, hk => by
    obtain ⟨k, rfl⟩ : ∃ m, k = m + 1 := ⟨k - 1, by omega⟩
    simp only [sheetpileref01_Exp.l0]
    rw [if_pos (by omega), twice_f _ (ex_lt i), w64 (by omega) (by omega), show (i : Int) + 1 = ((i + 1 : Nat) : Int) by omega]
    exact ref_Exp_l0 x hx d (i + 1) k (by omega) (by omega)
theorem ref_Exp_f (k : Nat) (n : Int) (hk : 300 ≤ k) : sheetpileref01_Exp.f k n = some ((ex (n % 255).toNat : Nat) : Int) := by
  unfold sheetpileref01_Exp.f
  obtain ⟨h1, h2, h3⟩ := tmod255 n
  obtain ⟨r, hr⟩ : ∃ r : Nat, n % 255 = r := ⟨(n % 255).toNat, by omega⟩
  have hr1 : r < 255 := by omega
  obtain ⟨k, rfl⟩ : ∃ m, k = m + 1 := ⟨k - 1, by omega⟩
  rw [hr, Int.toNat_natCast]
  split
  · rw [w64 (by omega) (by omega)]
    simp only [sheetpileref01_Exp.j0]
    rw [show n.tmod 255 + 255 = (r : Int) by omega]
    exact ref_Exp_l0 r hr1 r 0 k (by omega) (by omega)
  · simp only [sheetpileref01_Exp.j0]
    rw [show n.tmod 255 = (r : Int) by omega]
    exact ref_Exp_l0 r hr1 r 0 k (by omega) (by omega)

theorem gf_Log_f (a : Nat) (ha : a < 256) : gf_Log.f (a : Int) = some (if a = 0 then (0, 1) else (((lg a : Nat) : Int), 0)) := by
  unfold gf_Log.f logF
  rw [if_pos ⟨by omega, by omega⟩]
  by_cases h : a = 0
  · subst h; rfl
  · rw [if_neg (by omega), if_neg h, Int.toNat_natCast]
theorem gf_Exp_f (n : Int) : gf_Exp.f n = some ((ex (n % 255).toNat : Nat) : Int) := rfl
theorem ref_Log_l0 (a : Nat) (ha : a < 256) : ∀ (d x k : Nat), d + x = 255 → d + 310 < k → (a ≠ 0 → x ≤ lg a) →
    sheetpileref01_Log.l0 k (a : Int) (x : Int) = some (if a = 0 then (0, 1) else (((lg a : Nat) : Int), 0))
  | 0, x, k, hd, hk, hx => by
    obtain ⟨k, rfl⟩ : ∃ m, k = m + 1 := ⟨k - 1, by omega⟩
    simp only [sheetpileref01_Log.l0]
    rw [if_neg (by omega)]
    have hi := lg_lt a
    by_cases h : a = 0
    · rw [if_pos h]
    · have := hx h; omega
  | d + 1, x, k, hd, hk, hx => by
    obtain ⟨k, rfl⟩ : ∃ m, k = m + 1 := ⟨k - 1, by omega⟩
    simp only [sheetpileref01_Log.l0]
    rw [if_pos (by omega), ref_Exp_f k x (by omega), show ((x : Int) % 255).toNat = x by omega]
    simp only [Option.bind_some]
    by_cases h : ex x = a
    · have h0 : a ≠ 0 := by rw [← h]; exact ex_ne x
      have hl : lg a = x := by rw [← h, lg_ex (by omega)]
      rw [if_pos (by omega), if_neg h0, hl]
    · rw [if_neg (by omega), w64 (by omega) (by omega), show (x : Int) + 1 = ((x + 1 : Nat) : Int) by omega]
      refine ref_Log_l0 a ha d (x + 1) k (by omega) (by omega) (fun h0 => ?_)
      have := hx h0
      have hne : x ≠ lg a := by
        intro e
        rw [e, ex_lg h0 ha] at h
        exact h rfl
      omega
theorem ref_Log_f (k a : Nat) (hk : 600 ≤ k) (ha : a < 256) : sheetpileref01_Log.f k (a : Int) = some (if a = 0 then (0, 1) else (((lg a : Nat) : Int), 0)) :=
  ref_Log_l0 a ha 255 0 k (by omega) (by omega) (fun _ => by omega)

/-- Any power, as both texts tell it. -/
def powZ (a : Nat) (n : Int) : Nat := if n ≤ 0 then 1 else pw a n.toNat
theorem powZ_lt (a : Nat) (ha : a < 256) (n : Int) : powZ a n < 256 := by
  unfold powZ
  split
  · decide
  · exact pw_lt ha _
theorem gf_Pow_f (a : Nat) (n : Int) (ha : a < 256) : gf_Pow.f (a : Int) n = some ((powZ a n : Nat) : Int) := by
  unfold gf_Pow.f powF powZ
  rw [if_pos ⟨by omega, by omega⟩]
  by_cases h : n ≤ 0
  · rw [if_pos h, if_pos h]; rfl
  · rw [if_neg h, if_neg h]
    by_cases h0 : a = 0
    · subst h0
      rw [if_pos (by omega), pw_zero _ (by omega)]; rfl
    · rw [if_neg (by omega), pw_ex ha h0, Int.toNat_natCast]
theorem ref_Pow_l0 (a : Nat) (n : Int) (ha : a < 256) (m : Nat) (hm : n.tmod 255 = m) (hm1 : m < 255) : ∀ (d i k : Nat), d + i = m → d + 10 < k →
    sheetpileref01_Pow.l0 k (a : Int) n ((pw a i : Nat) : Int) (i : Int) = some ((pw a m : Nat) : Int)
  | 0, i, k, hd, hk => by
    obtain ⟨k, rfl⟩ : ∃ m, k = m + 1 := ⟨k - 1, by omega⟩
    simp only [sheetpileref01_Pow.l0]
    obtain rfl : i = m := by omega
    rw [if_neg (by omega)]
  | d + 1, i, k, hd, hk => by
    obtain ⟨k, rfl⟩ : ∃ m, k = m + 1 := ⟨k - 1, by omega⟩
    simp only [sheetpileref01_Pow.l0]
    rw [if_pos (by omega), ref_Mul_f k _ a (by omega) (pw_lt ha i) ha, w64 (by omega) (by omega), show (i : Int) + 1 = ((i + 1 : Nat) : Int) by omega]
    exact ref_Pow_l0 a n ha m hm hm1 d (i + 1) k (by omega) (by omega)
theorem ref_Pow_f (k a : Nat) (n : Int) (hk : 300 ≤ k) (ha : a < 256) : sheetpileref01_Pow.f k (a : Int) n = some ((powZ a n : Nat) : Int) := by
  unfold sheetpileref01_Pow.f powZ
  by_cases h : n ≤ 0
  · rw [if_pos h, if_pos h]; rfl
  · rw [if_neg h, if_neg h]
    by_cases h0 : a = 0
    · subst h0
      rw [if_pos (by omega), pw_zero _ (by omega)]; rfl
    · rw [if_neg (by omega)]
      have hm : n.tmod 255 = ((n.toNat % 255 : Nat) : Int) := by rw [Int.tmod_eq_emod_of_nonneg (by omega)]; omega
      have := ref_Pow_l0 a n ha (n.toNat % 255) hm (by omega) (n.toNat % 255) 0 k (by omega) (by omega)
      rw [pw_mod ha h0] at this
      exact this

theorem live_f (k : Nat) (hk : 8 < k) : sheetpilelaw01_live.f k = some true := by
  unfold sheetpilelaw01_live.f
  have h1 := gf_Mul_f k 2 128 hk (by decide) (by decide)
  have e1 : gf_Div.f 1 0 = some (0, 1) := by decide +kernel
  have e2 : gf_Log.f 0 = some (0, 1) := by decide +kernel
  have e3 : gf_Inv.f 2 = some (142, 0) := by decide +kernel
  have e4 : gf_Log.f 29 = some (8, 0) := by decide +kernel
  have e5 : gf_Mul.f k 2 128 = some 29 := by
    rw [show (2 : Int) = ((2 : Nat) : Int) from rfl, show (128 : Int) = ((128 : Nat) : Int) from rfl, h1]
    decide +kernel
  have e6 : gf_Add.f 5 3 = some 6 := by decide +kernel
  have e7 : gf_Exp.f 255 = some 1 := by decide +kernel
  have e8 : gf_Exp.f (-1) = some 142 := by decide +kernel
  have e9 : gf_Pow.f 2 8 = some 29 := by decide +kernel
  have e10 : gf_Pow.f 0 0 = some 1 := by decide +kernel
  have e11 : gf_Pow.f 0 5 = some 0 := by decide +kernel
  simp only [e1, e2, e3, e4, e5, e6, e7, e8, e9, e10, e11, Option.bind_some, if_true]
  rfl

/-- What is multiplied is divided again. -/
theorem div_back (a b : Nat) (ha : a < 256) (hb : b < 256) (h : b ≠ 0) : divF ((mul a b : Nat) : Int) (b : Int) = some ((a : Int), 0) := by
  have := gf_Div_f (mul a b) b (mul_lt b ha) hb
  rw [if_neg h, mul_div ha hb h] at this
  exact this

end Go.Proofs.Ytefnebijcdhbaaa.Gf
