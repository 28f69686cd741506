/- What the printed functions of layer 2 and of its reference answer, in plain arithmetic, byte by byte. -/
import Derived.Test.YtidcbihdbkhhlaaPVec1
import Derived.Test.YtidcbihdbkhhlaaPVec2
import Derived.Test.YtidcbihdbkhhlaaPVec4
namespace Go.Proofs.Ytidcbihdbkhhlaa.Gf
open Go.RowKit Go.Proofs.Ytidcbihdbkhhlaa.PVec Go.Proofs.YtidcbihdbkhhlaaW.PrintWords Go.Proofs.YtidcbihdbkhhlaaW.PrintLast Go.Proofs.YtidcbihdbkhhlaaW.PrintMore

theorem nat_u8 {a : Int} (h : (Lit.int .u8 a).wf = true) : ∃ n : Nat, n < 256 ∧ a = (n : Int) := by
  have hmin : IntKind.u8.min = 0 := rfl
  have hmax : IntKind.u8.max = 255 := rfl
  simp only [Lit.wf, Bool.and_eq_true, decide_eq_true_eq, hmin, hmax] at h
  exact ⟨a.toNat, by omega, by omega⟩
theorem w64 {n : Int} (h0 : -9223372036854775808 ≤ n) (h1 : n ≤ 9223372036854775807) : wrap64 n = n := by unfold wrap64; omega

/-! Rows as functions of the place. -/

/-- The row of n bytes that tells f. -/
def mk (n : Nat) (f : Nat → Nat) : ByteArray := strOfNums ((List.range n).map fun i => ((f i : Nat) : Int))

theorem mk_data (n : Nat) (f : Nat → Nat) : (mk n f).data.toList = (List.range n).map fun i => UInt8.ofNat (f i) := by
  simp [mk, strOfNums, Function.comp_def]
theorem mk_size (n : Nat) (f : Nat → Nat) : (mk n f).size = n := by
  have : (mk n f).size = (mk n f).data.toList.length := by simp
  rw [this, mk_data]
  simp
theorem mk_at (n : Nat) (f : Nat → Nat) (i : Nat) (h : i < n) (h8 : f i < 256) : byteAt (mk n f) i = f i := by
  unfold byteAt
  rw [mk_data]
  simp [h]
  omega
theorem bytes_ext {s t : ByteArray} (h : s.size = t.size) (he : ∀ i, i < s.size → byteAt s i = byteAt t i) : s = t := by
  have hd : s.data.toList = t.data.toList := by
    apply List.ext_getElem
    · simpa using h
    · intro i h1 h2
      have hi : i < s.size := by simpa using h1
      have := he i hi
      unfold byteAt at this
      rw [List.getD_eq_getElem?_getD, List.getD_eq_getElem?_getD, List.getElem?_eq_getElem h1, List.getElem?_eq_getElem h2] at this
      exact UInt8.toNat_inj.1 (by simpa using this)
  cases s with
  | mk s => cases t with
    | mk t => congr 1; exact Array.toList_inj.1 hd
theorem eq_mk (s : ByteArray) (n : Nat) (f : Nat → Nat) (hs : s.size = n) (h : ∀ i, i < n → byteAt s i = f i) : s = mk n f := by
  refine bytes_ext (by rw [mk_size]; exact hs) (fun i hi => ?_)
  rw [mk_at n f i (by omega) (by rw [← h i (by omega)]; exact byteAt_lt s i), h i (by omega)]
theorem mk_congr {n : Nat} {f g : Nat → Nat} (h : ∀ i, i < n → f i = g i) : mk n f = mk n g := by
  unfold mk
  congr 1
  apply List.map_congr_left
  intro i hi
  rw [h i (List.mem_range.1 hi)]

theorem sumB_mk (n : Nat) (rs : List ByteArray) : sumB n rs = mk n (accR rs) := rfl
theorem scaleB_mk (s : ByteArray) (c : Nat) : scaleB s c = mk s.size fun i => mul (byteAt s i) c := by
  unfold scaleB mk sclRow
  congr 1
  apply List.map_congr_left
  intro i hi
  unfold scl
  rw [if_pos (List.mem_range.1 hi)]
  rfl
theorem scaleB_size (s : ByteArray) (c : Nat) : (scaleB s c).size = s.size := by rw [scaleB_mk, mk_size]
theorem scaleB_at (s : ByteArray) (c i : Nat) (h : i < s.size) : byteAt (scaleB s c) i = mul (byteAt s i) c := by
  rw [scaleB_mk, mk_at _ (fun i => mul (byteAt s i) c) i h (mul_lt _ (byteAt_lt s i))]
theorem sumB_size (n : Nat) (rs : List ByteArray) : (sumB n rs).size = n := mk_size _ _
theorem sumB_at (n : Nat) (rs : List ByteArray) (i : Nat) (h : i < n) : byteAt (sumB n rs) i = accR rs i := mk_at _ _ i h (accR_lt rs i)
theorem acc_two (a b : ByteArray) (i : Nat) : accR [a, b] i = byteAt a i ^^^ byteAt b i := by simp [accR]

theorem bt_nat (s : ByteArray) (i : Nat) (h : i < s.size) : bt s (i : Int) = ((byteAt s i : Nat) : Int) := by
  unfold bt
  rw [dif_pos (by simpa using h), byteAt_get s i h]
  rfl

/-! The functions. -/

theorem gf_Mul_l0 : ∀ (n k b p x : Nat), n < k → b < 2 ^ n → b < 256 → p < 256 → x < 256 → gf_Mul.l0 k (b : Int) (p : Int) (x : Int) = some ((mulL n b p x : Nat) : Int)
  | 0, k, b, p, x, hk, hb, _, _, _ => by
    obtain ⟨k, rfl⟩ : ∃ m, k = m + 1 := ⟨k - 1, by omega⟩
    have : b = 0 := by simpa using hb
    subst this
    simp only [gf_Mul.l0]
    rfl
  | n + 1, k, b, p, x, hk, hb, hb8, hp, hx => by
    obtain ⟨k, rfl⟩ : ∃ m, k = m + 1 := ⟨k - 1, by omega⟩
    simp only [gf_Mul.l0]
    by_cases h0 : b = 0
    · subst h0
      rw [if_pos (by omega), mulL_zero (n + 1) p x]
    · rw [if_neg (by omega)]
      have hb2 : b / 2 < 2 ^ n := by rw [Nat.pow_succ] at hb; omega
      have hd : ((b : Int) / 2) = ((b / 2 : Nat) : Int) := by omega
      have hw : wrap64 ((x : Int) * 2) = (x : Int) * 2 := w64 (by omega) (by omega)
      have ht := tw_lt hx
      have hm : (x : Int) % 256 = (x : Int) := by omega
      rw [hw, hd, hm]
      have hand : Go.bits .and .u8 (b : Int) 1 = ((b % 2 : Nat) : Int) := by
        have := u8_and_nat b 1 hb8 (by decide)
        rw [nat_mask1] at this
        exact this
      have hxr := u8_xor_nat p x hp hx
      rw [hand]
      simp only [mulL]
      by_cases hbit : b % 2 = 1
      · rw [if_neg (by omega), if_pos hbit, hxr]
        by_cases h2 : 255 < x * 2
        · rw [if_pos (by omega), tw_hi' x h2 hx]
          exact gf_Mul_l0 n k _ _ _ (by omega) hb2 (by omega) (xor_lt hp hx) ht
        · rw [if_neg (by omega), tw_lo' x h2]
          exact gf_Mul_l0 n k _ _ _ (by omega) hb2 (by omega) (xor_lt hp hx) ht
      · rw [if_pos (by omega), if_neg hbit]
        by_cases h2 : 255 < x * 2
        · rw [if_pos (by omega), tw_hi' x h2 hx]
          exact gf_Mul_l0 n k _ _ _ (by omega) hb2 (by omega) hp ht
        · rw [if_neg (by omega), tw_lo' x h2]
          exact gf_Mul_l0 n k _ _ _ (by omega) hb2 (by omega) hp ht
theorem gf_Mul_f (k a b : Nat) (hk : 8 < k) (ha : a < 256) (hb : b < 256) : gf_Mul.f k (a : Int) (b : Int) = some ((mul a b : Nat) : Int) := by
  unfold gf_Mul.f
  rw [w64 (by omega) (by omega)]
  exact gf_Mul_l0 8 k b 0 a hk hb hb (by decide) ha
theorem gf_Add_f (a b : Nat) (ha : a < 256) (hb : b < 256) : gf_Add.f (a : Int) (b : Int) = some ((a ^^^ b : Nat) : Int) := by
  unfold gf_Add.f
  rw [u8_xor_nat a b ha hb]
theorem twice_f (a : Nat) (h : a < 256) : sheetpileref01_Twice.f (a : Int) = some ((tw a : Nat) : Int) := by
  unfold sheetpileref01_Twice.f
  rw [w64 (n := (a : Int)) (by omega) (by omega), w64 (by omega) (by omega), show (2 : Int) * a = (a : Int) * 2 by omega]
  have ht := tw_lt h
  by_cases h2 : 255 < a * 2
  · rw [if_pos (by omega), tw_hi' a h2 h]
    congr 1
    omega
  · rw [if_neg (by omega), tw_lo' a h2]
    congr 1
    omega
theorem ref_Mul_l0 (b : Nat) (hb : b < 256) : ∀ (n i k p x : Nat), n + i = 8 → n < k → p < 256 → x < 256 →
    sheetpileref01_Mul.l0 k (x : Int) (b : Int) (p : Int) (i : Int) = some ((mulL n (b / 2 ^ i) p x : Nat) : Int)
  | 0, i, k, p, x, hi, hk, _, _ => by
    obtain ⟨k, rfl⟩ : ∃ m, k = m + 1 := ⟨k - 1, by omega⟩
    simp only [sheetpileref01_Mul.l0]
    rw [if_neg (by omega)]
    rfl
  | n + 1, i, k, p, x, hi, hk, hp, hx => by
    obtain ⟨k, rfl⟩ : ∃ m, k = m + 1 := ⟨k - 1, by omega⟩
    simp only [sheetpileref01_Mul.l0]
    have hw : IntKind.u64.wrap (i : Int) = (i : Int) := by rw [IntKind.wrap_u64]; omega
    have hs : shr .u8 (b : Int) (i : Int) = ((b / 2 ^ i : Nat) : Int) := by
      unfold shr
      rw [Int.toNat_natCast, show min i IntKind.u8.bits = i from Nat.min_eq_left (by show i ≤ 8; omega)]
      simp
    have hnext : b / 2 ^ i / 2 = b / 2 ^ (i + 1) := by rw [Nat.div_div_eq_div_mul, Nat.pow_succ]
    have ht := tw_lt hx
    rw [if_pos (by omega), hw, if_pos (by omega), hs, twice_f x hx, w64 (n := (i : Int) + 1) (by omega) (by omega)]
    rw [u8_xor_nat p x hp hx]
    simp only [Option.bind_some, mulL]
    have hmod : Int.tmod ((b / 2 ^ i : Nat) : Int) 2 = ((b / 2 ^ i % 2 : Nat) : Int) := by
      obtain ⟨z, hz⟩ : ∃ z, b / 2 ^ i = z := ⟨_, rfl⟩
      rw [hz, Int.tmod_eq_emod_of_nonneg (Int.natCast_nonneg _)]
      omega
    rw [hmod, hnext]
    have hcast : (i : Int) + 1 = ((i + 1 : Nat) : Int) := by omega
    rw [hcast]
    by_cases h : b / 2 ^ i % 2 = 1
    · rw [if_pos (by omega), if_pos h]
      exact ref_Mul_l0 b hb n (i + 1) k _ _ (by omega) (by omega) (xor_lt hp hx) ht
    · rw [if_neg (by omega), if_neg h]
      exact ref_Mul_l0 b hb n (i + 1) k _ _ (by omega) (by omega) hp ht
theorem ref_Mul_f (k a b : Nat) (hk : 8 < k) (ha : a < 256) (hb : b < 256) : sheetpileref01_Mul.f k (a : Int) (b : Int) = some ((mul a b : Nat) : Int) := by
  have := ref_Mul_l0 b hb 8 0 k 0 a (by omega) hk (by decide) ha
  rw [Nat.pow_zero, Nat.div_one] at this
  exact this

theorem vec_Scale_f (s : ByteArray) (c : Nat) (hs : s.size ≤ 140737488351232) (hc : c < 256) : vec_Scale.f s (c : Int) = some (scaleB s c) := by
  unfold vec_Scale.f scaleF
  rw [if_pos ⟨hs, by omega, by omega⟩, Int.toNat_natCast]
theorem vec_Add_f (a b : ByteArray) (hs : a.size ≤ 140737488351232) (h : a.size = b.size) : vec_Add.f a b = some (sumB a.size [a, b], 0) := by
  unfold vec_Add.f vec_sum.f sumF
  rw [if_pos (by omega), if_pos ⟨by omega, by omega, by simp, by simp, by simp; omega⟩, Int.toNat_natCast]
  rfl
theorem vec_Add_ne (a b : ByteArray) (h : a.size ≠ b.size) : vec_Add.f a b = some (⟨#[]⟩, 1) := by
  unfold vec_Add.f
  rw [if_neg (by omega)]

/-- A row's product with another, of the first n places. -/
def dotN (a b : ByteArray) : Nat → Nat
  | 0 => 0
  | n + 1 => dotN a b n ^^^ mul (byteAt a n) (byteAt b n)
theorem dotN_lt (a b : ByteArray) : ∀ n, dotN a b n < 256
  | 0 => (by decide : 0 < 256)
  | n + 1 => xor_lt (dotN_lt a b n) (mul_lt _ (byteAt_lt a n))
theorem vec_Dot_l0 (a b : ByteArray) (hs : a.size ≤ 140737488351232) (h : a.size = b.size) : ∀ (d i k : Nat), d + i = a.size → d + 10 < k →
    vec_Dot.l0 k a b ((dotN a b i : Nat) : Int) (a.size : Int) (i : Int) = some (((dotN a b a.size : Nat) : Int), 0)
  | 0, i, k, hd, hk => by
    obtain ⟨k, rfl⟩ : ∃ m, k = m + 1 := ⟨k - 1, by omega⟩
    simp only [vec_Dot.l0]
    obtain rfl : i = a.size := by omega
    rw [if_neg (by omega)]
  | d + 1, i, k, hd, hk => by
    obtain ⟨k, rfl⟩ : ∃ m, k = m + 1 := ⟨k - 1, by omega⟩
    simp only [vec_Dot.l0]
    rw [if_pos (by omega), if_pos (by omega), if_pos (by omega), if_pos (by omega), bt_nat a i (by omega), bt_nat b i (by omega), gf_Mul_f k _ _ (by omega) (byteAt_lt a i) (byteAt_lt b i)]
    simp only [Option.bind_some]
    rw [gf_Add_f _ _ (dotN_lt a b i) (mul_lt _ (byteAt_lt a i)), w64 (by omega) (by omega), show (i : Int) + 1 = ((i + 1 : Nat) : Int) by omega]
    exact vec_Dot_l0 a b hs h d (i + 1) k (by omega) (by omega)
theorem vec_Dot_f (k : Nat) (a b : ByteArray) (hs : a.size ≤ 140737488351232) (h : a.size = b.size) (hk : a.size + 10 < k) :
    vec_Dot.f k a b = some (((dotN a b a.size : Nat) : Int), 0) := by
  unfold vec_Dot.f
  rw [if_pos (by omega)]
  exact vec_Dot_l0 a b hs h a.size 0 k (by omega) hk
theorem vec_Dot_ne (k : Nat) (a b : ByteArray) (h : a.size ≠ b.size) : vec_Dot.f k a b = some (0, 1) := by
  unfold vec_Dot.f
  rw [if_neg (by omega)]
theorem vec_Zero_f (n : Nat) (h : n ≤ 65536) : vec_Zero.f (n : Int) = some (mk n fun _ => 0, 0) := by
  unfold vec_Zero.f
  rw [if_neg (by omega), if_neg (by omega), if_pos (by omega), if_pos (by omega), Int.toNat_natCast]
  congr 2
  unfold mk
  congr 1
  rw [List.map_const', List.length_range]
  rfl

/-! The reference. -/

theorem ref_Add_l0 (a b : ByteArray) (hs : a.size ≤ 140737488351232) (h : a.size = b.size) : ∀ (d i k : Nat), d + i = a.size → d < k →
    sheetpileref02_Add.l0 k a b ((List.range i).map fun j => ((byteAt a j ^^^ byteAt b j : Nat) : Int)) (i : Int) = some (mk a.size fun j => byteAt a j ^^^ byteAt b j, 0)
  | 0, i, k, hd, hk => by
    obtain ⟨k, rfl⟩ : ∃ m, k = m + 1 := ⟨k - 1, by omega⟩
    simp only [sheetpileref02_Add.l0]
    obtain rfl : i = a.size := by omega
    rw [if_neg (by omega)]
    rfl
  | d + 1, i, k, hd, hk => by
    obtain ⟨k, rfl⟩ : ∃ m, k = m + 1 := ⟨k - 1, by omega⟩
    simp only [sheetpileref02_Add.l0]
    rw [if_pos (by omega), if_pos (by omega), if_pos (by omega), if_pos (by simp; omega), bt_nat a i (by omega), bt_nat b i (by omega), u8_xor_nat _ _ (byteAt_lt a i) (byteAt_lt b i), w64 (by omega) (by omega), show (i : Int) + 1 = ((i + 1 : Nat) : Int) by omega]
    have := ref_Add_l0 a b hs h d (i + 1) k (by omega) (by omega)
    rw [List.range_succ, List.map_append] at this
    exact this
theorem ref_Add_f (k : Nat) (a b : ByteArray) (hs : a.size ≤ 140737488351232) (h : a.size = b.size) (hk : a.size + 10 < k) : sheetpileref02_Add.f k a b = some (sumB a.size [a, b], 0) := by
  unfold sheetpileref02_Add.f
  rw [if_pos (by omega)]
  have := ref_Add_l0 a b hs h a.size 0 k (by omega) (by omega)
  rw [sumB_mk, mk_congr (fun i _ => acc_two a b i)]
  exact this
theorem ref_Add_ne (k : Nat) (a b : ByteArray) (h : a.size ≠ b.size) : sheetpileref02_Add.f k a b = some (⟨#[]⟩, 1) := by
  unfold sheetpileref02_Add.f
  rw [if_neg (by omega)]

theorem ref_Scale_l0 (a : ByteArray) (c : Nat) (hc : c < 256) (hs : a.size ≤ 140737488351232) : ∀ (d i k : Nat), d + i = a.size → d + 10 < k →
    sheetpileref02_Scale.l0 k a (c : Int) ((List.range i).map fun j => ((mul (byteAt a j) c : Nat) : Int)) (i : Int) = some (mk a.size fun j => mul (byteAt a j) c)
  | 0, i, k, hd, hk => by
    obtain ⟨k, rfl⟩ : ∃ m, k = m + 1 := ⟨k - 1, by omega⟩
    simp only [sheetpileref02_Scale.l0]
    obtain rfl : i = a.size := by omega
    rw [if_neg (by omega)]
    rfl
  | d + 1, i, k, hd, hk => by
    obtain ⟨k, rfl⟩ : ∃ m, k = m + 1 := ⟨k - 1, by omega⟩
    simp only [sheetpileref02_Scale.l0]
    rw [if_pos (by omega), if_pos (by omega), bt_nat a i (by omega), ref_Mul_f k _ c (by omega) (byteAt_lt a i) hc]
    simp only [Option.bind_some]
    rw [if_pos (by simp; omega), w64 (by omega) (by omega), show (i : Int) + 1 = ((i + 1 : Nat) : Int) by omega]
    have := ref_Scale_l0 a c hc hs d (i + 1) k (by omega) (by omega)
    rw [List.range_succ, List.map_append] at this
    exact this
theorem ref_Scale_f (k : Nat) (a : ByteArray) (c : Nat) (hs : a.size ≤ 140737488351232) (hc : c < 256) (hk : a.size + 10 < k) : sheetpileref02_Scale.f k a (c : Int) = some (scaleB a c) := by
  unfold sheetpileref02_Scale.f
  rw [scaleB_mk]
  exact ref_Scale_l0 a c hc hs a.size 0 k (by omega) hk

theorem ref_Dot_l0 (a b : ByteArray) (hs : a.size ≤ 140737488351232) (h : a.size = b.size) : ∀ (d i k : Nat), d + i = a.size → d + 10 < k →
    sheetpileref02_Dot.l0 k a b ((dotN a b i : Nat) : Int) (i : Int) = some (((dotN a b a.size : Nat) : Int), 0)
  | 0, i, k, hd, hk => by
    obtain ⟨k, rfl⟩ : ∃ m, k = m + 1 := ⟨k - 1, by omega⟩
    simp only [sheetpileref02_Dot.l0]
    obtain rfl : i = a.size := by omega
    rw [if_neg (by omega)]
  | d + 1, i, k, hd, hk => by
    obtain ⟨k, rfl⟩ : ∃ m, k = m + 1 := ⟨k - 1, by omega⟩
    simp only [sheetpileref02_Dot.l0]
    rw [if_pos (by omega), if_pos (by omega), if_pos (by omega), bt_nat a i (by omega), bt_nat b i (by omega), ref_Mul_f k _ _ (by omega) (byteAt_lt a i) (byteAt_lt b i)]
    simp only [Option.bind_some]
    rw [u8_xor_nat _ _ (dotN_lt a b i) (mul_lt _ (byteAt_lt a i)), w64 (by omega) (by omega), show (i : Int) + 1 = ((i + 1 : Nat) : Int) by omega]
    exact ref_Dot_l0 a b hs h d (i + 1) k (by omega) (by omega)
theorem ref_Dot_f (k : Nat) (a b : ByteArray) (hs : a.size ≤ 140737488351232) (h : a.size = b.size) (hk : a.size + 10 < k) :
    sheetpileref02_Dot.f k a b = some (((dotN a b a.size : Nat) : Int), 0) := by
  unfold sheetpileref02_Dot.f
  rw [if_pos (by omega)]
  exact ref_Dot_l0 a b hs h a.size 0 k (by omega) hk
theorem ref_Dot_ne (k : Nat) (a b : ByteArray) (h : a.size ≠ b.size) : sheetpileref02_Dot.f k a b = some (0, 1) := by
  unfold sheetpileref02_Dot.f
  rw [if_neg (by omega)]

/-! Gather. -/

/-- The numbers, as the machine holds them. -/
def nat8 (c : List Nat) : List Int := c.map fun n : Nat => (n : Int)
theorem nat8_len (c : List Nat) : (nat8 c).length = c.length := by simp [nat8]
theorem rd_nat8 (c : List Nat) (i : Nat) (h : i < c.length) : rd (nat8 c) (i : Int) = ((c.getD i 0 : Nat) : Int) := by
  unfold rd nat8
  rw [Int.toNat_natCast, List.getD_eq_getElem?_getD, List.getD_eq_getElem?_getD, List.getElem?_map, List.getElem?_eq_getElem h]
  rfl
theorem rdOf_nat (l : List ByteArray) (i : Nat) : rdOf ByteArray.empty l (i : Int) = l.getD i ByteArray.empty := by
  unfold rdOf
  rw [Int.toNat_natCast]

/-- The rows scaled, each by its number: of the first k. -/
def scaled (c : List Nat) (l : List ByteArray) (k : Nat) : List ByteArray := (List.range l.length).map fun i => if i < k then scaleB (l.getD i ByteArray.empty) (c.getD i 0) else ⟨#[]⟩
theorem scaled_zero (c : List Nat) (l : List ByteArray) : scaled c l 0 = List.replicate l.length ⟨#[]⟩ := by
  simp [scaled, List.map_const']
theorem scaled_len (c : List Nat) (l : List ByteArray) (k : Nat) : (scaled c l k).length = l.length := by simp [scaled]
theorem scaled_step (c : List Nat) (l : List ByteArray) (k : Nat) : (scaled c l k).set k (scaleB (l.getD k ByteArray.empty) (c.getD k 0)) = scaled c l (k + 1) := by
  apply List.ext_getElem?
  intro i
  unfold scaled
  rw [List.getElem?_set]
  by_cases hi : i < l.length
  · by_cases e : k = i
    · subst e
      simp [hi]
    · have : (i < k) = (i < k + 1) := by apply propext; omega
      simp [e, hi, this]
  · simp [hi]
    omega

theorem getD_lt (c : List Nat) (hc : ∀ x ∈ c, x < 256) (i : Nat) : c.getD i 0 < 256 := by
  rw [List.getD_eq_getElem?_getD]
  cases h : c[i]? with
  | none => simp
  | some x => simpa using hc x (List.mem_of_getElem? h)

/-- Of one length? -/
def even (l : List ByteArray) (k : Nat) : Prop := ∀ i, i < k → (l.getD i ByteArray.empty).size = (l.getD 0 ByteArray.empty).size

theorem vec_Gather_l0 (c : List Nat) (l : List ByteArray) (hc : ∀ x ∈ c, x < 256) (hlen : c.length = l.length) (hl : l.length ≤ 1000) (hn : 0 < l.length) (hs : (l.getD 0 ByteArray.empty).size ≤ 140737488351232) (he : even l l.length) :
    ∀ (d i k : Nat), d + i = l.length → d + 10 < k → vec_Gather.l0 k (nat8 c) l (scaled c l i) l (l.length : Int) (i : Int) = some (sumB (l.getD 0 ByteArray.empty).size (scaled c l l.length), 0)
  | 0, i, k, hd, hk => by
    obtain ⟨k, rfl⟩ : ∃ m, k = m + 1 := ⟨k - 1, by omega⟩
    simp only [vec_Gather.l0]
    obtain rfl : i = l.length := by omega
    rw [if_neg (by omega), if_pos (by omega), show (0 : Int) = ((0 : Nat) : Int) from rfl, rdOf_nat]
    unfold vec_sum.f sumF
    rw [if_pos ?_, Int.toNat_natCast]
    · rfl
    · refine ⟨by omega, by omega, by rw [scaled_len]; omega, ?_, ?_⟩
      · intro e
        have := congrArg List.length e
        rw [scaled_len, List.length_nil] at this
        omega
      · intro r hr
        unfold scaled at hr
        obtain ⟨j, hj, rfl⟩ := List.mem_map.1 hr
        have hj := List.mem_range.1 hj
        rw [if_pos hj, scaleB_size, he j hj, Int.toNat_natCast]
        exact Nat.le_refl _
  | d + 1, i, k, hd, hk => by
    obtain ⟨k, rfl⟩ : ∃ m, k = m + 1 := ⟨k - 1, by omega⟩
    simp only [vec_Gather.l0]
    have hei := he i (by omega)
    rw [if_pos (by omega), if_pos (by omega), if_pos (by omega), if_pos (by omega), rdOf_nat, show (0 : Int) = ((0 : Nat) : Int) from rfl, rdOf_nat, if_pos (by omega), nat8_len, if_pos (by omega), rd_nat8 c i (by omega), vec_Scale_f _ _ (by omega) (getD_lt c hc i)]
    simp only [Option.bind_some]
    rw [scaled_len, if_pos (by omega), Int.toNat_natCast, scaled_step, w64 (by omega) (by omega), show (i : Int) + 1 = ((i + 1 : Nat) : Int) by omega]
    exact vec_Gather_l0 c l hc hlen hl hn hs he d (i + 1) k (by omega) (by omega)
theorem vec_Gather_odd (c : List Nat) (l : List ByteArray) (hc : ∀ x ∈ c, x < 256) (hlen : c.length = l.length) (hl : l.length ≤ 1000) (hn : 0 < l.length) (hs : ∀ i, (l.getD i ByteArray.empty).size ≤ 140737488351232) (m : Nat) (hm : m < l.length) (he : even l m) (ho : (l.getD m ByteArray.empty).size ≠ (l.getD 0 ByteArray.empty).size) :
    ∀ (d i k : Nat), d + i = m → d + 10 < k → vec_Gather.l0 k (nat8 c) l (scaled c l i) l (l.length : Int) (i : Int) = some (⟨#[]⟩, 1)
  | 0, i, k, hd, hk => by
    obtain ⟨k, rfl⟩ : ∃ m, k = m + 1 := ⟨k - 1, by omega⟩
    simp only [vec_Gather.l0]
    obtain rfl : i = m := by omega
    rw [if_pos (by omega), if_pos (by omega), if_pos (by omega), if_pos (by omega), rdOf_nat, show (0 : Int) = ((0 : Nat) : Int) from rfl, rdOf_nat, if_neg (by omega)]
  | d + 1, i, k, hd, hk => by
    obtain ⟨k, rfl⟩ : ∃ m, k = m + 1 := ⟨k - 1, by omega⟩
    simp only [vec_Gather.l0]
    have hei := he i (by omega)
    rw [if_pos (by omega), if_pos (by omega), if_pos (by omega), if_pos (by omega), rdOf_nat, show (0 : Int) = ((0 : Nat) : Int) from rfl, rdOf_nat, if_pos (by omega), nat8_len, if_pos (by omega), rd_nat8 c i (by omega), vec_Scale_f _ _ (hs i) (getD_lt c hc i)]
    simp only [Option.bind_some]
    rw [scaled_len, if_pos (by omega), Int.toNat_natCast, scaled_step, w64 (by omega) (by omega), show (i : Int) + 1 = ((i + 1 : Nat) : Int) by omega]
    exact vec_Gather_odd c l hc hlen hl hn hs m hm he ho d (i + 1) k (by omega) (by omega)

theorem vec_Gather_start (k : Nat) (c : List Nat) (l : List ByteArray) (hlen : c.length = l.length) (hl : l.length ≤ 1000) (hn : 0 < l.length) (hk : 0 < k) :
    vec_Gather.f k (nat8 c) l = vec_Gather.l0 (k - 1) (nat8 c) l (scaled c l 0) l (l.length : Int) 0 := by
  obtain ⟨k, rfl⟩ : ∃ m, k = m + 1 := ⟨k - 1, by omega⟩
  unfold vec_Gather.f
  rw [nat8_len, if_pos (by omega), show ((l.length : Int) == 0) = false by simpa using fun e => by rw [e] at hn; simp at hn]
  simp only [vec_Gather.j0]
  rw [if_neg (by decide), if_pos (by omega), Int.toNat_natCast, if_pos (by omega), scaled_zero]
  rfl
theorem vec_Gather_f (k : Nat) (c : List Nat) (l : List ByteArray) (hc : ∀ x ∈ c, x < 256) (hlen : c.length = l.length) (hl : l.length ≤ 1000) (hn : 0 < l.length) (hs : (l.getD 0 ByteArray.empty).size ≤ 140737488351232) (he : even l l.length) (hk : l.length + 20 < k) :
    vec_Gather.f k (nat8 c) l = some (sumB (l.getD 0 ByteArray.empty).size (scaled c l l.length), 0) := by
  rw [vec_Gather_start k c l hlen hl hn (by omega)]
  exact vec_Gather_l0 c l hc hlen hl hn hs he l.length 0 (k - 1) (by omega) (by omega)
theorem vec_Gather_no (k : Nat) (c : List Nat) (l : List ByteArray) (h : c.length ≠ l.length ∨ l.length = 0) (hk : 0 < k) : vec_Gather.f k (nat8 c) l = some (⟨#[]⟩, 1) := by
  obtain ⟨k, rfl⟩ : ∃ m, k = m + 1 := ⟨k - 1, by omega⟩
  unfold vec_Gather.f
  rw [nat8_len]
  by_cases e : c.length = l.length
  · have h0 : l.length = 0 := h.resolve_left (fun h => h e)
    rw [if_pos (by omega), h0]
    rfl
  · rw [if_neg (by omega)]
    rfl

theorem ref_Gather_l0 (c : List Nat) (l : List ByteArray) (hc : ∀ x ∈ c, x < 256) (hlen : c.length = l.length) (hl : l.length ≤ 1000) (hs : (l.getD 0 ByteArray.empty).size ≤ 1000) (he : even l l.length) :
    ∀ (d i k : Nat), 0 < i → d + i = l.length → d + 1100 < k →
      sheetpileref02_Gather.l0 k (nat8 c) l (sumB (l.getD 0 ByteArray.empty).size ((scaled c l l.length).take i)) (i : Int) = some (sumB (l.getD 0 ByteArray.empty).size (scaled c l l.length), 0)
  | 0, i, k, hi, hd, hk => by
    obtain ⟨k, rfl⟩ : ∃ m, k = m + 1 := ⟨k - 1, by omega⟩
    simp only [sheetpileref02_Gather.l0]
    obtain rfl : i = l.length := by omega
    rw [if_neg (by omega), List.take_of_length_le (by rw [scaled_len]; exact Nat.le_refl _)]
  | d + 1, i, k, hi, hd, hk => by
    obtain ⟨k, rfl⟩ : ∃ m, k = m + 1 := ⟨k - 1, by omega⟩
    simp only [sheetpileref02_Gather.l0]
    have hei := he i (by omega)
    rw [if_pos (by omega), if_pos (by omega), nat8_len, if_pos (by omega), rdOf_nat, rd_nat8 c i (by omega), ref_Scale_f k _ _ (by omega) (getD_lt c hc i) (by omega)]
    simp only [Option.bind_some]
    have hsz : (sumB (l.getD 0 ByteArray.empty).size ((scaled c l l.length).take i)).size = (l.getD 0 ByteArray.empty).size := sumB_size _ _
    rw [ref_Add_f k _ _ (by omega) (by rw [sumB_size, scaleB_size, hei]) (by omega)]
    simp only [Option.bind_some, if_true]
    rw [w64 (by omega) (by omega), show (i : Int) + 1 = ((i + 1 : Nat) : Int) by omega]
    have hnext : sumB (sumB (l.getD 0 ByteArray.empty).size ((scaled c l l.length).take i)).size [sumB (l.getD 0 ByteArray.empty).size ((scaled c l l.length).take i), scaleB (l.getD i ByteArray.empty) (c.getD i 0)] = sumB (l.getD 0 ByteArray.empty).size ((scaled c l l.length).take (i + 1)) := by
      rw [hsz, sumB_mk, sumB_mk _ ((scaled c l l.length).take (i + 1))]
      apply mk_congr
      intro j hj
      have hget : (scaled c l l.length)[i]? = some (scaleB (l.getD i ByteArray.empty) (c.getD i 0)) := by
        unfold scaled
        simp [show i < l.length by omega]
      rw [acc_two, sumB_at _ _ _ hj, List.take_add_one, hget]
      exact (accR_snoc _ j _).symm
    rw [hnext]
    exact ref_Gather_l0 c l hc hlen hl hs he d (i + 1) k (by omega) (by omega) (by omega)

theorem ref_Gather_step (c : List Nat) (l : List ByteArray) (i : Nat) (hi : i < l.length) :
    sumB (l.getD 0 ByteArray.empty).size [sumB (l.getD 0 ByteArray.empty).size ((scaled c l l.length).take i), scaleB (l.getD i ByteArray.empty) (c.getD i 0)] = sumB (l.getD 0 ByteArray.empty).size ((scaled c l l.length).take (i + 1)) := by
  rw [sumB_mk, sumB_mk _ ((scaled c l l.length).take (i + 1))]
  apply mk_congr
  intro j hj
  have hget : (scaled c l l.length)[i]? = some (scaleB (l.getD i ByteArray.empty) (c.getD i 0)) := by
    unfold scaled
    simp [hi]
  rw [acc_two, sumB_at _ _ _ hj, List.take_add_one, hget]
  exact (accR_snoc _ j _).symm
theorem ref_Gather_odd (c : List Nat) (l : List ByteArray) (hc : ∀ x ∈ c, x < 256) (hlen : c.length = l.length) (hl : l.length ≤ 1000) (hs : ∀ i, (l.getD i ByteArray.empty).size ≤ 1000) (m : Nat) (hm : m < l.length) (he : even l m) (ho : (l.getD m ByteArray.empty).size ≠ (l.getD 0 ByteArray.empty).size) :
    ∀ (d i k : Nat), 0 < i → d + i = m → d + 1100 < k →
      sheetpileref02_Gather.l0 k (nat8 c) l (sumB (l.getD 0 ByteArray.empty).size ((scaled c l l.length).take i)) (i : Int) = some (⟨#[]⟩, 1)
  | 0, i, k, hi, hd, hk => by
    obtain ⟨k, rfl⟩ : ∃ m, k = m + 1 := ⟨k - 1, by omega⟩
    simp only [sheetpileref02_Gather.l0]
    obtain rfl : i = m := by omega
    have h1 := hs i
    rw [if_pos (by omega), if_pos (by omega), nat8_len, if_pos (by omega), rdOf_nat, rd_nat8 c i (by omega), ref_Scale_f k _ _ (by omega) (getD_lt c hc i) (by omega)]
    simp only [Option.bind_some]
    rw [ref_Add_ne k _ _ (by rw [sumB_size, scaleB_size]; omega)]
    rfl
  | d + 1, i, k, hi, hd, hk => by
    obtain ⟨k, rfl⟩ : ∃ m, k = m + 1 := ⟨k - 1, by omega⟩
    simp only [sheetpileref02_Gather.l0]
    have hei := he i (by omega)
    have h1 := hs i
    rw [if_pos (by omega), if_pos (by omega), nat8_len, if_pos (by omega), rdOf_nat, rd_nat8 c i (by omega), ref_Scale_f k _ _ (by omega) (getD_lt c hc i) (by omega)]
    simp only [Option.bind_some]
    have h0 := hs 0
    rw [ref_Add_f k _ _ (by rw [sumB_size]; omega) (by rw [sumB_size, scaleB_size, hei]) (by rw [sumB_size]; omega)]
    simp only [Option.bind_some, if_true]
    rw [w64 (by omega) (by omega), show (i : Int) + 1 = ((i + 1 : Nat) : Int) by omega, sumB_size, ref_Gather_step c l i (by omega)]
    exact ref_Gather_odd c l hc hlen hl hs m hm he ho d (i + 1) k (by omega) (by omega) (by omega)
theorem ref_Gather_start (k : Nat) (c : List Nat) (l : List ByteArray) (hc : ∀ x ∈ c, x < 256) (hlen : c.length = l.length) (hl : l.length ≤ 1000) (hn : 0 < l.length) (hs : (l.getD 0 ByteArray.empty).size ≤ 1000) (hk : 1100 < k) :
    sheetpileref02_Gather.f k (nat8 c) l = sheetpileref02_Gather.l0 (k - 1) (nat8 c) l (sumB (l.getD 0 ByteArray.empty).size ((scaled c l l.length).take 1)) 1 := by
  obtain ⟨k, rfl⟩ : ∃ m, k = m + 1 := ⟨k - 1, by omega⟩
  unfold sheetpileref02_Gather.f
  rw [nat8_len, if_pos (by omega), show ((l.length : Int) == 0) = false by simpa using fun e => by rw [e] at hn; simp at hn]
  simp only [sheetpileref02_Gather.j0]
  rw [if_neg (by decide), if_pos (by omega), nat8_len, if_pos (by omega), show (0 : Int) = ((0 : Nat) : Int) from rfl, rdOf_nat, rd_nat8 c 0 (by omega), ref_Scale_f k _ _ (by omega) (getD_lt c hc 0) (by omega)]
  simp only [Option.bind_some]
  have hone : scaleB (l.getD 0 ByteArray.empty) (c.getD 0 0) = sumB (l.getD 0 ByteArray.empty).size ((scaled c l l.length).take 1) := by
    have hget : (scaled c l l.length)[0]? = some (scaleB (l.getD 0 ByteArray.empty) (c.getD 0 0)) := by
      unfold scaled
      simp [hn]
    rw [sumB_mk]
    refine eq_mk _ _ _ (scaleB_size _ _) (fun i hi => ?_)
    rw [List.take_add_one, hget]
    simp [accR]
  rw [hone]
  rfl
theorem ref_Gather_f (k : Nat) (c : List Nat) (l : List ByteArray) (hc : ∀ x ∈ c, x < 256) (hlen : c.length = l.length) (hl : l.length ≤ 1000) (hn : 0 < l.length) (hs : (l.getD 0 ByteArray.empty).size ≤ 1000) (he : even l l.length) (hk : 2200 < k) :
    sheetpileref02_Gather.f k (nat8 c) l = some (sumB (l.getD 0 ByteArray.empty).size (scaled c l l.length), 0) := by
  rw [ref_Gather_start k c l hc hlen hl hn hs (by omega)]
  exact ref_Gather_l0 c l hc hlen hl hs he (l.length - 1) 1 (k - 1) (by omega) (by omega) (by omega)
theorem ref_Gather_no (k : Nat) (c : List Nat) (l : List ByteArray) (h : c.length ≠ l.length ∨ l.length = 0) (hk : 0 < k) : sheetpileref02_Gather.f k (nat8 c) l = some (⟨#[]⟩, 1) := by
  obtain ⟨k, rfl⟩ : ∃ m, k = m + 1 := ⟨k - 1, by omega⟩
  unfold sheetpileref02_Gather.f
  rw [nat8_len]
  by_cases e : c.length = l.length
  · have h0 : l.length = 0 := h.resolve_left (fun h => h e)
    rw [if_pos (by omega), h0]
    rfl
  · rw [if_neg (by omega)]
    rfl
theorem odd_first (l : List ByteArray) : ∀ n, ¬ even l n → ∃ m, m < n ∧ even l m ∧ (l.getD m ByteArray.empty).size ≠ (l.getD 0 ByteArray.empty).size
  | 0, h => absurd (fun i hi => absurd hi (Nat.not_lt_zero i)) h
  | n + 1, h => by
    by_cases e : even l n
    · refine ⟨n, Nat.lt_succ_self n, e, fun hn => h (fun i hi => ?_)⟩
      by_cases he : i = n
      · subst he; exact hn
      · exact e i (by omega)
    · obtain ⟨m, hm, h1, h2⟩ := odd_first l n e
      exact ⟨m, by omega, h1, h2⟩

/-- Both texts tell the same of any rows. -/
theorem gather_same (c : List Nat) (l : List ByteArray) (hc : ∀ x ∈ c, x < 256) (hl : l.length ≤ 1000) (hs : ∀ i, (l.getD i ByteArray.empty).size ≤ 1000) (k : Nat) (hk : 2300 < k) :
    ∃ r, vec_Gather.f k (nat8 c) l = some r ∧ sheetpileref02_Gather.f k (nat8 c) l = some r := by
  by_cases h : c.length ≠ l.length ∨ l.length = 0
  · exact ⟨_, vec_Gather_no k c l h (by omega), ref_Gather_no k c l h (by omega)⟩
  · have hlen : c.length = l.length := Classical.byContradiction fun e => h (.inl e)
    have hn : 0 < l.length := by
      rcases Nat.eq_zero_or_pos l.length with e | e
      · exact absurd (.inr e) h
      · exact e
    have h0 := hs 0
    by_cases he : even l l.length
    · exact ⟨_, vec_Gather_f k c l hc hlen hl hn (by omega) he (by omega), ref_Gather_f k c l hc hlen hl hn h0 he (by omega)⟩
    · obtain ⟨m, hm, h1, h2⟩ := odd_first l _ he
      refine ⟨(⟨#[]⟩, 1), ?_, ?_⟩
      · rw [vec_Gather_start k c l hlen hl hn (by omega)]
        exact vec_Gather_odd c l hc hlen hl hn (fun i => by have := hs i; omega) m hm h1 h2 m 0 (k - 1) (by omega) (by omega)
      · have hm0 : m ≠ 0 := fun e => h2 (by rw [e])
        rw [ref_Gather_start k c l hc hlen hl hn h0 (by omega)]
        exact ref_Gather_odd c l hc hlen hl hs m hm h1 h2 (m - 1) 1 (k - 1) (by omega) (by omega) (by omega)

theorem live_f (k : Nat) (hk : 100 < k) : sheetpilelaw02_live.f k = some true := by
  unfold sheetpilelaw02_live.f
  have e1 : vec_Gather.f k ([1, 2] : List Int) [⟨#[97]⟩, ⟨#[98]⟩] = some (⟨#[165]⟩, 0) := by
    have := vec_Gather_f k [1, 2] [⟨#[97]⟩, ⟨#[98]⟩] (by decide) rfl (by decide) (by decide) (by decide) (by unfold even; decide) (by show 2 + 20 < k; omega)
    rw [show ([1, 2] : List Int) = nat8 [1, 2] from rfl, this]
    decide +kernel
  have e2 : vec_Gather.f k ([] : List Int) [] = some (⟨#[]⟩, 1) := vec_Gather_no k [] [] (.inr rfl) (by omega)
  have e3 : vec_Add.f ⟨#[97]⟩ ⟨#[98, 99]⟩ = some (⟨#[]⟩, 1) := vec_Add_ne _ _ (by decide)
  have e4 : vec_Zero.f 3 = some (⟨#[0, 0, 0]⟩, 0) := by decide +kernel
  have e5 : vec_Zero.f 65537 = some (⟨#[]⟩, 1) := by decide +kernel
  have e6 : vec_Dot.f k ⟨#[2, 1]⟩ ⟨#[128, 5]⟩ = some (24, 0) := by
    rw [vec_Dot_f k _ _ (by decide) (by decide) (by show 2 + 10 < k; omega)]
    decide +kernel
  have e7 : vec_Scale.f ⟨#[128]⟩ 2 = some ⟨#[29]⟩ := by decide +kernel
  simp only [e1, e2, e3, e4, e5, e6, e7, Option.bind_some, if_true]
  rw [if_pos (by decide +kernel), if_pos (by decide +kernel)]
  decide +kernel

end Go.Proofs.Ytidcbihdbkhhlaa.Gf
