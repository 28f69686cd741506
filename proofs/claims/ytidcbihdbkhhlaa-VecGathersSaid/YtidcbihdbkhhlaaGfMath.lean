/- Plain arithmetic of the numbers of 256 that layer 1 speaks of: doubling, products as sums of doubled numbers, powers of 2; no program in sight. -/
namespace Go.Proofs.Ytidcbihdbkhhlaa.Gf

/-- Twice a number. -/
def tw (x : Nat) : Nat := if 255 < x * 2 then (x * 2) ^^^ 285 else x * 2

/-- The product: of n bits of b. -/
def mulL : Nat → Nat → Nat → Nat → Nat
  | 0, _, p, _ => p
  | n + 1, b, p, x => mulL n (b / 2) (if b % 2 = 1 then p ^^^ x else p) (tw x)
def mul (a b : Nat) : Nat := mulL 8 b 0 a

/-- Powers of 2. -/
def ex : Nat → Nat
  | 0 => 1
  | n + 1 => tw (ex n)

theorem tw_lt {x : Nat} (h : x < 256) : tw x < 256 := by
  have : ∀ y, y < 256 → tw y < 256 := by decide +kernel
  exact this x h

theorem ex_lt : ∀ n, ex n < 256
  | 0 => by decide
  | n + 1 => tw_lt (ex_lt n)

theorem tw_xor {x y : Nat} (hx : x < 256) (hy : y < 256) : tw (x ^^^ y) = tw x ^^^ tw y := by
  have hx' : x < 2 ^ 8 := hx
  have hy' : y < 2 ^ 8 := hy
  have key : ∀ z, z < 256 → tw z = (z * 2 % 256) ^^^ (if z.testBit 7 then 29 else 0) := by decide +kernel
  rw [key _ (Nat.xor_lt_two_pow hx' hy'), key x hx, key y hy]
  have h1 : (x ^^^ y) * 2 % 256 = (x * 2 % 256) ^^^ (y * 2 % 256) := by
    apply Nat.eq_of_testBit_eq
    intro i
    simp [Nat.testBit_mod_two_pow _ 8, show (256 : Nat) = 2 ^ 8 from rfl, Nat.testBit_mul_two_pow, show ∀ z : Nat, z * 2 = z * 2 ^ 1 from fun z => by simp]
    cases decide (i < 8) <;> cases decide (1 ≤ i) <;> simp
  rw [h1, Nat.testBit_xor]
  cases x.testBit 7 <;> cases y.testBit 7 <;> simp <;> first | ac_rfl | skip
  rw [show x * 2 % 256 ^^^ 29 ^^^ (y * 2 % 256 ^^^ 29) = x * 2 % 256 ^^^ y * 2 % 256 ^^^ (29 ^^^ 29) by ac_rfl]
  simp


theorem xor4 (a b c d : Nat) : (a ^^^ b) ^^^ (c ^^^ d) = (a ^^^ c) ^^^ (b ^^^ d) := by ac_rfl

theorem xor_lt {x y : Nat} (hx : x < 256) (hy : y < 256) : x ^^^ y < 256 := Nat.xor_lt_two_pow (n := 8) hx hy

theorem mulL_p : ∀ (n b p q x : Nat), mulL n b (p ^^^ q) x = mulL n b p x ^^^ q
  | 0, _, _, _, _ => rfl
  | n + 1, b, p, q, x => by
    simp only [mulL]
    split
    · rw [show p ^^^ q ^^^ x = p ^^^ x ^^^ q by ac_rfl]; exact mulL_p n _ _ _ _
    · exact mulL_p n _ _ _ _

theorem mulL_x : ∀ (n b p q x y : Nat), x < 256 → y < 256 → mulL n b (p ^^^ q) (x ^^^ y) = mulL n b p x ^^^ mulL n b q y
  | 0, _, _, _, _, _, _, _ => rfl
  | n + 1, b, p, q, x, y, hx, hy => by
    simp only [mulL]
    rw [tw_xor hx hy]
    split
    · rw [xor4]; exact mulL_x n _ _ _ _ _ (tw_lt hx) (tw_lt hy)
    · exact mulL_x n _ _ _ _ _ (tw_lt hx) (tw_lt hy)

theorem xor_mod_two (b c : Nat) : (b ^^^ c) % 2 = 1 ↔ ¬ (b % 2 = 1 ↔ c % 2 = 1) := by
  have h := Nat.testBit_xor b c 0
  simp only [Nat.testBit_zero] at h
  by_cases h1 : b % 2 = 1 <;> by_cases h2 : c % 2 = 1 <;> simp_all

theorem xor_div_two (b c : Nat) : (b ^^^ c) / 2 = b / 2 ^^^ c / 2 := by
  apply Nat.eq_of_testBit_eq
  intro i
  simp [Nat.testBit_div_two, Nat.testBit_xor]

theorem mulL_b : ∀ (n b c p q x : Nat), mulL n (b ^^^ c) (p ^^^ q) x = mulL n b p x ^^^ mulL n c q x
  | 0, _, _, _, _, _ => rfl
  | n + 1, b, c, p, q, x => by
    simp only [mulL]
    rw [xor_div_two, ← mulL_b n]
    congr 1
    have h := xor_mod_two b c
    by_cases h1 : b % 2 = 1 <;> by_cases h2 : c % 2 = 1
    · rw [if_neg (by rw [h]; simp [h1, h2]), if_pos h1, if_pos h2, xor4, Nat.xor_self, Nat.xor_zero]
    · rw [if_pos (by rw [h]; simp [h1, h2]), if_pos h1, if_neg h2]; ac_rfl
    · rw [if_pos (by rw [h]; simp [h1, h2]), if_neg h1, if_pos h2]; ac_rfl
    · rw [if_neg (by rw [h]; simp [h1, h2]), if_neg h1, if_neg h2]

theorem mul_xor_left {x y : Nat} (b : Nat) (hx : x < 256) (hy : y < 256) : mul (x ^^^ y) b = mul x b ^^^ mul y b :=
  mulL_x 8 b 0 0 x y hx hy
theorem mul_xor_right (a b c : Nat) : mul a (b ^^^ c) = mul a b ^^^ mul a c := mulL_b 8 b c 0 0 a

theorem mulL_zero : ∀ (n p x : Nat), mulL n 0 p x = p
  | 0, _, _ => rfl
  | n + 1, p, x => mulL_zero n p (tw x)

theorem mulL_lt : ∀ (n b p x : Nat), p < 256 → x < 256 → mulL n b p x < 256
  | 0, _, _, _, hp, _ => hp
  | n + 1, b, p, x, hp, hx => by
    simp only [mulL]
    refine mulL_lt n _ _ _ ?_ (tw_lt hx)
    split
    · exact xor_lt hp hx
    · exact hp
theorem mul_lt {a : Nat} (b : Nat) (ha : a < 256) : mul a b < 256 := mulL_lt 8 b 0 a (by decide) ha

/-- What holds of 0 and of the single bits, and of the xor of two numbers of which it holds, holds of all numbers of 256. -/
theorem bits_ind (P : Nat → Prop) (h0 : P 0) (hb : ∀ i, i < 8 → P (2 ^ i)) (hx : ∀ a b, a < 256 → b < 256 → P a → P b → P (a ^^^ b)) : ∀ a, a < 256 → P a := by
  have step : ∀ n, n ≤ 8 → ∀ a, a < 2 ^ n → P a := by
    intro n
    induction n with
    | zero =>
      intro _ a ha
      have : a = 0 := by simpa using ha
      subst this
      exact h0
    | succ n ih =>
      intro hn a ha
      by_cases h : a < 2 ^ n
      · exact ih (by omega) a h
      · have hp : 2 ^ (n + 1) = 2 * 2 ^ n := by rw [Nat.pow_succ, Nat.mul_comm]
        have hr : a - 2 ^ n < 2 ^ n := by omega
        have h8 : 2 ^ n ≤ 2 ^ 7 := Nat.pow_le_pow_right (by decide) (by omega)
        have he : a = 2 ^ n ^^^ (a - 2 ^ n) := by
          have h1 := Nat.two_pow_add_eq_or_of_lt hr 1
          have h2 : 2 ^ n * 1 + (a - 2 ^ n) = a := by omega
          rw [h2] at h1
          rw [h1]
          apply Nat.eq_of_testBit_eq
          intro i
          simp only [Nat.mul_one, Nat.testBit_or, Nat.testBit_xor, Nat.testBit_two_pow]
          by_cases hi : n = i
          · subst hi
            have h3 : (2 ^ n ||| (a - 2 ^ n)) - 2 ^ n = a - 2 ^ n := by rw [Nat.mul_one] at h1; rw [← h1]
            rw [h3]
            simp [Nat.testBit_lt_two_pow hr]
          · have h3 : (2 ^ n ||| (a - 2 ^ n)) - 2 ^ n = a - 2 ^ n := by rw [Nat.mul_one] at h1; rw [← h1]
            rw [h3]
            simp [hi]
        rw [he]
        exact hx _ _ (by omega) (by omega) (hb n (by omega)) (ih (by omega) _ hr)
  exact fun a ha => step 8 (Nat.le_refl _) a ha

theorem mul_zero_right (a : Nat) (ha : a < 256) : mul a 0 = 0 := by
  have : ∀ a, a < 256 → mul a 0 = 0 := by decide +kernel
  exact this a ha
theorem mul_zero_left (b : Nat) (hb : b < 256) : mul 0 b = 0 := by
  have : ∀ a, a < 256 → mul 0 a = 0 := by decide +kernel
  exact this b hb

theorem mul_comm {a b : Nat} (ha : a < 256) (hb : b < 256) : mul a b = mul b a := by
  have base : ∀ i, i < 8 → ∀ j, j < 8 → mul (2 ^ i) (2 ^ j) = mul (2 ^ j) (2 ^ i) := by decide +kernel
  have p256 : ∀ i, i < 8 → 2 ^ i < 256 := by decide
  refine bits_ind (fun a => ∀ b, b < 256 → mul a b = mul b a) ?_ ?_ ?_ a ha b hb
  · intro b hb; rw [mul_zero_left b hb, mul_zero_right b hb]
  · intro i hi b hb
    refine bits_ind (fun b => mul (2 ^ i) b = mul b (2 ^ i)) ?_ (fun j hj => base i hi j hj) ?_ b hb
    · show mul (2 ^ i) 0 = mul 0 (2 ^ i)
      rw [mul_zero_left _ (p256 i hi), mul_zero_right _ (p256 i hi)]
    · intro x y hx hy h1 h2
      show mul (2 ^ i) (x ^^^ y) = mul (x ^^^ y) (2 ^ i)
      rw [mul_xor_right, mul_xor_left _ hx hy, h1, h2]
  · intro x y hx hy h1 h2 b hb
    rw [mul_xor_left _ hx hy, mul_xor_right, h1 b hb, h2 b hb]

theorem mul_assoc {a b c : Nat} (ha : a < 256) (hb : b < 256) (hc : c < 256) : mul a (mul b c) = mul (mul a b) c := by
  have base : ∀ i, i < 8 → ∀ j, j < 8 → ∀ k, k < 8 → mul (2 ^ i) (mul (2 ^ j) (2 ^ k)) = mul (mul (2 ^ i) (2 ^ j)) (2 ^ k) := by decide +kernel
  have p256 : ∀ i, i < 8 → 2 ^ i < 256 := by decide
  refine bits_ind (fun a => ∀ b, b < 256 → ∀ c, c < 256 → mul a (mul b c) = mul (mul a b) c) ?_ ?_ ?_ a ha b hb c hc
  · intro b hb c hc
    show mul 0 (mul b c) = mul (mul 0 b) c
    rw [mul_zero_left b hb, mul_zero_left c hc, mul_zero_left _ (mul_lt c hb)]
  · intro i hi b hb
    refine bits_ind (fun b => ∀ c, c < 256 → mul (2 ^ i) (mul b c) = mul (mul (2 ^ i) b) c) ?_ ?_ ?_ b hb
    · intro c hc
      show mul (2 ^ i) (mul 0 c) = mul (mul (2 ^ i) 0) c
      rw [mul_zero_left c hc, mul_zero_right _ (p256 i hi), mul_zero_left c hc]
    · intro j hj c hc
      refine bits_ind (fun c => mul (2 ^ i) (mul (2 ^ j) c) = mul (mul (2 ^ i) (2 ^ j)) c) ?_ (fun k hk => base i hi j hj k hk) ?_ c hc
      · show mul (2 ^ i) (mul (2 ^ j) 0) = mul (mul (2 ^ i) (2 ^ j)) 0
        rw [mul_zero_right _ (p256 j hj), mul_zero_right _ (p256 i hi), mul_zero_right _ (mul_lt _ (p256 i hi))]
      · intro x y hx hy h1 h2
        show mul (2 ^ i) (mul (2 ^ j) (x ^^^ y)) = mul (mul (2 ^ i) (2 ^ j)) (x ^^^ y)
        rw [mul_xor_right, mul_xor_right, mul_xor_right, h1, h2]
    · intro x y hx hy h1 h2 c hc
      rw [mul_xor_left _ hx hy, mul_xor_right, mul_xor_right, mul_xor_left _ (mul_lt _ (p256 i hi)) (mul_lt _ (p256 i hi)), h1 c hc, h2 c hc]
  · intro x y hx hy h1 h2 b hb c hc
    rw [mul_xor_left _ hx hy, mul_xor_left _ hx hy, mul_xor_left _ (mul_lt _ hx) (mul_lt _ hy), h1 b hb c hc, h2 b hb c hc]

theorem mul_one {a : Nat} (ha : a < 256) : mul a 1 = a := by
  have : ∀ a, a < 256 → mul a 1 = a := by decide +kernel
  exact this a ha
theorem one_mul {a : Nat} (ha : a < 256) : mul 1 a = a := by rw [mul_comm (by decide) ha, mul_one ha]
theorem two_mul {a : Nat} (ha : a < 256) : mul 2 a = tw a := by
  have : ∀ a, a < 256 → mul 2 a = tw a := by decide +kernel
  exact this a ha

theorem ex_add (i : Nat) : ∀ j, mul (ex i) (ex j) = ex (i + j)
  | 0 => mul_one (ex_lt i)
  | j + 1 => by
    show mul (ex i) (tw (ex j)) = tw (ex (i + j))
    rw [← two_mul (ex_lt j), ← ex_add i j, ← two_mul (mul_lt _ (ex_lt i)), mul_assoc (ex_lt i) (by decide) (ex_lt j), mul_comm (ex_lt i) (by decide : 2 < 256), ← mul_assoc (by decide) (ex_lt i) (ex_lt j)]

theorem ex_255 : ex 255 = 1 := by decide +kernel
theorem ex_period (i : Nat) : ex (i + 255) = ex i := by rw [← ex_add i 255, ex_255, mul_one (ex_lt i)]
theorem ex_mod (i : Nat) : ex (i % 255) = ex i := by
  have h : ∀ q r, ex (r + 255 * q) = ex r := by
    intro q
    induction q with
    | zero => intro r; rfl
    | succ q ih => intro r; rw [show r + 255 * (q + 1) = (r + 255 * q) + 255 by omega, ex_period, ih]
  have := h (i / 255) (i % 255)
  rw [Nat.mod_add_div] at this
  exact this.symm


/-- Which power of 2 a number is. -/
def lgT : List Nat := [
  0, 0, 1, 25, 2, 50, 26, 198, 3, 223, 51, 238, 27, 104, 199, 75, 4, 100, 224, 14, 52, 141, 239, 129, 28, 193, 105, 248, 200, 8, 76, 113,
  5, 138, 101, 47, 225, 36, 15, 33, 53, 147, 142, 218, 240, 18, 130, 69, 29, 181, 194, 125, 106, 39, 249, 185, 201, 154, 9, 120, 77, 228, 114, 166,
  6, 191, 139, 98, 102, 221, 48, 253, 226, 152, 37, 179, 16, 145, 34, 136, 54, 208, 148, 206, 143, 150, 219, 189, 241, 210, 19, 92, 131, 56, 70, 64,
  30, 66, 182, 163, 195, 72, 126, 110, 107, 58, 40, 84, 250, 133, 186, 61, 202, 94, 155, 159, 10, 21, 121, 43, 78, 212, 229, 172, 115, 243, 167, 87,
  7, 112, 192, 247, 140, 128, 99, 13, 103, 74, 222, 237, 49, 197, 254, 24, 227, 165, 153, 119, 38, 184, 180, 124, 17, 68, 146, 217, 35, 32, 137, 46,
  55, 63, 209, 91, 149, 188, 207, 205, 144, 135, 151, 178, 220, 252, 190, 97, 242, 86, 211, 171, 20, 42, 93, 158, 132, 60, 57, 83, 71, 109, 65, 162,
  31, 45, 67, 216, 183, 123, 164, 118, 196, 23, 73, 236, 127, 12, 111, 246, 108, 161, 59, 82, 41, 157, 85, 170, 251, 96, 134, 177, 187, 204, 62, 90,
  203, 89, 95, 176, 156, 169, 160, 81, 11, 245, 22, 235, 122, 117, 44, 215, 79, 174, 213, 233, 230, 231, 173, 232, 116, 214, 244, 234, 168, 80, 88, 175]
def lg (v : Nat) : Nat := lgT.getD v 0

theorem ex_lg {v : Nat} (h0 : v ≠ 0) (h : v < 256) : ex (lg v) = v := by
  have : ∀ v, v < 256 → v ≠ 0 → ex (lg v) = v := by decide +kernel
  exact this v h h0
theorem lg_lt (v : Nat) : lg v < 255 := by
  by_cases h : v < 256
  · have : ∀ v, v < 256 → lg v < 255 := by decide +kernel
    exact this v h
  · unfold lg
    rw [List.getD_eq_getElem?_getD, List.getElem?_eq_none (Nat.le_trans (by decide +kernel : lgT.length ≤ 256) (by omega))]
    decide
theorem lg_ex {i : Nat} (h : i < 255) : lg (ex i) = i := by
  have : ∀ i, i < 255 → lg (ex i) = i := by decide +kernel
  exact this i h
theorem ex_ne (i : Nat) : ex i ≠ 0 := by
  have : ∀ i, i < 255 → ex i ≠ 0 := by decide +kernel
  rw [← ex_mod]
  exact this _ (Nat.mod_lt _ (by decide))
theorem lg_ex_mod (i : Nat) : lg (ex i) = i % 255 := by rw [← ex_mod, lg_ex (Nat.mod_lt _ (by decide))]

theorem mul_ne {a b : Nat} (ha : a < 256) (hb : b < 256) (h1 : a ≠ 0) (h2 : b ≠ 0) : mul a b ≠ 0 := by
  rw [← ex_lg h1 ha, ← ex_lg h2 hb, ex_add]
  exact ex_ne _
theorem lg_mul {a b : Nat} (ha : a < 256) (hb : b < 256) (h1 : a ≠ 0) (h2 : b ≠ 0) : lg (mul a b) = (lg a + lg b) % 255 := by
  have : mul a b = ex (lg a + lg b) := by rw [← ex_add, ex_lg h1 ha, ex_lg h2 hb]
  rw [this, lg_ex_mod]
theorem mul_eq_ex {a b : Nat} (ha : a < 256) (hb : b < 256) (h1 : a ≠ 0) (h2 : b ≠ 0) : mul a b = ex (lg a + lg b) := by
  rw [← ex_add, ex_lg h1 ha, ex_lg h2 hb]

/-- The number by which another is divided. -/
def inv (a : Nat) : Nat := ex (255 - lg a)
theorem inv_lt (a : Nat) : inv a < 256 := ex_lt _
theorem inv_ne (a : Nat) : inv a ≠ 0 := ex_ne _
theorem mul_inv {a : Nat} (ha : a < 256) (h1 : a ≠ 0) : mul a (inv a) = 1 := by
  have h := lg_lt a
  rw [show mul a (inv a) = mul (ex (lg a)) (inv a) by rw [ex_lg h1 ha]]
  unfold inv
  rw [ex_add, show lg a + (255 - lg a) = 255 by omega, ex_255]
theorem inv_unique {a x : Nat} (ha : a < 256) (hx : x < 256) (h : mul a x = 1) : x = inv a := by
  have h1 : a ≠ 0 := by
    intro e; subst e
    rw [mul_zero_left x hx] at h; exact absurd h (by decide)
  have := congrArg (mul (inv a)) h
  rw [mul_assoc (inv_lt a) ha hx, mul_comm (inv_lt a) ha, mul_inv ha h1, one_mul hx, mul_one (inv_lt a)] at this
  exact this
theorem inv_inv {a : Nat} (ha : a < 256) (h1 : a ≠ 0) : inv (inv a) = a :=
  (inv_unique (inv_lt a) ha (by rw [mul_comm (inv_lt a) ha]; exact mul_inv ha h1)).symm
theorem mul_div {a b : Nat} (ha : a < 256) (hb : b < 256) (h1 : b ≠ 0) : mul (mul a b) (inv b) = a := by
  rw [← mul_assoc ha hb (inv_lt b), mul_inv hb h1, mul_one ha]

/-- The quotient, as the tables give it. -/
def divT (a b : Nat) : Nat := ex (lg a + 255 - lg b)
theorem divT_eq {a b : Nat} (ha : a < 256) (h1 : a ≠ 0) : divT a b = mul a (inv b) := by
  have h := lg_lt b
  rw [show mul a (inv b) = mul (ex (lg a)) (inv b) by rw [ex_lg h1 ha]]
  unfold divT inv
  rw [ex_add, show lg a + 255 - lg b = lg a + (255 - lg b) by omega]

/-- Powers. -/
def pw (a : Nat) : Nat → Nat
  | 0 => 1
  | n + 1 => mul (pw a n) a
theorem pw_lt {a : Nat} (ha : a < 256) : ∀ n, pw a n < 256
  | 0 => (by decide : (1 : Nat) < 256)
  | n + 1 => mul_lt _ (pw_lt ha n)
theorem pw_ex {a : Nat} (ha : a < 256) (h1 : a ≠ 0) : ∀ n, pw a n = ex (lg a * n)
  | 0 => rfl
  | n + 1 => by
    show mul (pw a n) a = _
    rw [pw_ex ha h1 n, show mul (ex (lg a * n)) a = mul (ex (lg a * n)) (ex (lg a)) by rw [ex_lg h1 ha], ex_add, Nat.mul_succ]
theorem ex_mul_mod (x n : Nat) : ex (x * (n % 255)) = ex (x * n) := by
  rw [← ex_mod, ← ex_mod (x * n)]
  congr 1
  rw [Nat.mul_mod, Nat.mod_mod, ← Nat.mul_mod]
theorem pw_mod {a : Nat} (ha : a < 256) (h1 : a ≠ 0) (n : Nat) : pw a (n % 255) = pw a n := by
  rw [pw_ex ha h1, pw_ex ha h1, ex_mul_mod]
theorem pw_zero : ∀ n, 0 < n → pw 0 n = 0
  | n + 1, _ => mul_zero_right _ (pw_lt (by decide) n)
theorem pw_mul {a b : Nat} (ha : a < 256) (hb : b < 256) : ∀ n, pw (mul a b) n = mul (pw a n) (pw b n)
  | 0 => (mul_one (by decide : (1 : Nat) < 256)).symm
  | n + 1 => by
    show mul (pw (mul a b) n) (mul a b) = mul (mul (pw a n) a) (mul (pw b n) b)
    have p := pw_lt ha n
    have q := pw_lt hb n
    rw [pw_mul ha hb n, mul_assoc (mul_lt _ p) ha hb, ← mul_assoc p q ha, mul_comm q ha, mul_assoc p ha q, ← mul_assoc (mul_lt _ p) q hb]

end Go.Proofs.Ytidcbihdbkhhlaa.Gf
