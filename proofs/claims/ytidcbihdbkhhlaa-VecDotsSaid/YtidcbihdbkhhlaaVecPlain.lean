/- Plain laws of rows: sums, products, scaling, of numbers of 256. -/
import Derived.Test.YtidcbihdbkhhlaaVecSpec
namespace Go.Proofs.Ytidcbihdbkhhlaa.Gf
open Go.RowKit Go.Proofs.Ytidcbihdbkhhlaa.PVec Go.Proofs.YtidcbihdbkhhlaaW.PrintWords Go.Proofs.YtidcbihdbkhhlaaW.PrintLast Go.Proofs.YtidcbihdbkhhlaaW.PrintMore

theorem bne_no {a b : Nat} (h : a = b) : ((a : Int) != (b : Int)) = false := by rw [h]; exact bne_self_eq_false _
theorem bne_yes {a b : Nat} (h : a ≠ b) : ((a : Int) != (b : Int)) = true := by rw [bne_iff_ne]; omega

theorem dot_sum (a b c : ByteArray) (n : Nat) : ∀ m, m ≤ n → dotN a (sumB n [b, c]) m = dotN a b m ^^^ dotN a c m
  | 0, _ => (Nat.xor_self 0).symm
  | m + 1, h => by
    show dotN a (sumB n [b, c]) m ^^^ mul (byteAt a m) (byteAt (sumB n [b, c]) m) = (dotN a b m ^^^ mul (byteAt a m) (byteAt b m)) ^^^ (dotN a c m ^^^ mul (byteAt a m) (byteAt c m))
    rw [dot_sum a b c n m (by omega), sumB_at _ _ _ (by omega), acc_two, mul_xor_right]
    ac_rfl
theorem dot_comm (a b : ByteArray) : ∀ m, dotN a b m = dotN b a m
  | 0 => rfl
  | m + 1 => by
    show dotN a b m ^^^ _ = dotN b a m ^^^ _
    rw [dot_comm a b m, mul_comm (byteAt_lt a m) (byteAt_lt b m)]
theorem scale_sum (a b : ByteArray) (c : Nat) (h : a.size = b.size) : scaleB (sumB a.size [a, b]) c = sumB a.size [scaleB a c, scaleB b c] := by
  refine bytes_ext (by rw [scaleB_size, sumB_size, sumB_size]) (fun i hi => ?_)
  rw [scaleB_size, sumB_size] at hi
  rw [scaleB_at _ _ _ (by rw [sumB_size]; exact hi), sumB_at _ _ _ hi, sumB_at _ _ _ hi, acc_two, acc_two, scaleB_at _ _ _ hi, scaleB_at _ _ _ (by omega), mul_xor_left _ (byteAt_lt a i) (byteAt_lt b i)]
theorem scale_scale (a : ByteArray) (c d : Nat) (hc : c < 256) (hd : d < 256) : scaleB (scaleB a c) d = scaleB a (mul c d) := by
  refine bytes_ext (by rw [scaleB_size, scaleB_size, scaleB_size]) (fun i hi => ?_)
  rw [scaleB_size, scaleB_size] at hi
  rw [scaleB_at _ _ _ (by rw [scaleB_size]; exact hi), scaleB_at _ _ _ hi, scaleB_at _ _ _ hi, mul_assoc (byteAt_lt a i) hc hd]
theorem sum_self (a : ByteArray) : sumB a.size [a, a] = mk a.size fun _ => 0 := by
  rw [sumB_mk]
  exact mk_congr fun i _ => by rw [acc_two, Nat.xor_self]
theorem scale_one (a : ByteArray) : scaleB a 1 = a := by
  refine bytes_ext (scaleB_size _ _) (fun i hi => ?_)
  rw [scaleB_size] at hi
  rw [scaleB_at _ _ _ hi, mul_one (byteAt_lt a i)]
theorem sum_back (a b : ByteArray) : sumB a.size [sumB a.size [a, b], b] = a := by
  refine bytes_ext (sumB_size _ _) (fun i hi => ?_)
  rw [sumB_size] at hi
  rw [sumB_at _ _ _ hi, acc_two, sumB_at _ _ _ hi, acc_two, Nat.xor_assoc, Nat.xor_self, Nat.xor_zero]
theorem scale_back (a : ByteArray) (c : Nat) (hc : c < 256) (h : c ≠ 0) : scaleB (scaleB a c) (inv c) = a := by
  rw [scale_scale a c _ hc (inv_lt c), mul_inv hc h, scale_one]

end Go.Proofs.Ytidcbihdbkhhlaa.Gf
