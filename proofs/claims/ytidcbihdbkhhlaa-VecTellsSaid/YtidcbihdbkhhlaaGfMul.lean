/- The walks of gf.Mul and gf.Add: they hand back the plain product and sum of numbers of 256, and leave the world alone. -/
import Derived.Test.YtidcbihdbkhhlaaProg
import Derived.Test.YtidcbihdbkhhlaaGfMath
import Derived.WalkKit
import Derived.KernelRfl
import Derived.Deep.LoopGhost
import Derived.Laws.BitsAllLaws
import Derived.Lib.Hide
namespace Go.Proofs.Ytidcbihdbkhhlaa.Gf
open Go.RowKit

theorem bits_i64' (a b : Nat) (ha : a < 65536) (hb : b < 65536) : bits .xor .i64 (a : Int) (b : Int) = ((a ^^^ b : Nat) : Int) := by
  have h : a ^^^ b < 65536 := Nat.xor_lt_two_pow (n := 16) ha hb
  simp only [bits, BitVec.ofInt_natCast, BitVec.toNat_xor, BitVec.toNat_ofNat]
  rw [Nat.mod_eq_of_lt (Nat.lt_of_lt_of_le ha (by decide)), Nat.mod_eq_of_lt (Nat.lt_of_lt_of_le hb (by decide)), IntKind.wrap_i64]
  omega

theorem tw_hi' (x : Nat) (h : 255 < x * 2) (hx : x < 256) : bits .xor .i64 ((x : Int) * 2) 285 = ((tw x : Nat) : Int) := by
  have := bits_i64' (x * 2) 285 (by omega) (by decide)
  rw [tw, if_pos h, ← this]
  rfl

theorem tw_lo' (x : Nat) (h : ¬ 255 < x * 2) : (x : Int) * 2 = ((tw x : Nat) : Int) := by
  rw [tw, if_neg h]
  rfl

theorem mulL_step (n b p x : Nat) : mulL (n + 1) b p x = mulL n (b / 2) (if b % 2 = 1 then p ^^^ x else p) (tw x) := rfl

set_option maxHeartbeats 1000000 in
theorem mul_any (a b : Nat) (ha : a < 256) (hb : b < 256) (w : World) :
    Calls Try.prog 21 #[.int .u8 (a : Int), .int .u8 (b : Int)] w fun e w' => e = .returned (.int .u8 (mul a b : Nat)) ∧ w = w' := by
  have HR := Lib.hid (show mul a b = mulL 8 b 0 a from rfl)
  have ha' : (a : Int) < 256 := by omega
  go_enter Try.func21, Try.ntmps21
  go_wp2
  go_loopg [1, 5, 6] 8 (fun g v1 v5 v6 wx => ∃ c p x : Nat, v1 = .int .u8 (c : Int) ∧ v5 = .int .u8 (p : Int) ∧ v6 = .int .i64 (x : Int) ∧ c < 2 ^ g ∧ c < 256 ∧ p < 256 ∧ x < 256 ∧ Aside (mulL g c p x = mul a b) ∧ w = wx)
  case atStart => exact ⟨b, 0, a, rfl, rfl, rfl, hb, hb, by omega, ha, HR.out.symm, rfl⟩
  case round =>
    obtain ⟨c, p, x, rfl, rfl, rfl, hc, hc8, hp, hx, HA, rfl⟩ := hrel
    have hp' : (p : Int) < 256 := by omega
    have hx' : (x : Int) < 256 := by omega
    have hc' : (c : Int) < 256 := by omega
    cases gk with
    | zero =>
      obtain rfl : c = 0 := by simpa using hc
      have hm := mulL_zero 0 p x
      rw [HA.out] at hm
      subst hm
      go_wp2
      go_ret
      exact ⟨rfl, rfl⟩
    | succ g =>
      have hc2 : c / 2 < 2 ^ g := by rw [Nat.pow_succ] at hc; omega
      clear hc
      have hstep := HA.out
      by_cases h0 : c = 0
      · subst h0
        have hm := mulL_zero (g + 1) p x
        rw [hstep] at hm
        clear hstep HA hc2
        subst hm
        go_wp2
        go_ret
        exact ⟨rfl, rfl⟩
      · rw [mulL_step] at hstep
        have ht := tw_lt hx
        have hx1 := u8_xor_nat p x hp hx
        have hxl := xor_lt hp hx
        have hand : bits .and .u8 (c : Int) 1 = ((c % 2 : Nat) : Int) := by
          have := u8_and_nat c 1 hc8 (by decide)
          rw [nat_mask1] at this
          exact this
        have h00 : ((c : Int) == 0) = false := by simpa using h0
        have h01 : ((c : Int) != 0) = true := by simpa using h0
        by_cases hbit : c % 2 = 1
        · rw [if_pos hbit] at hstep
          rw [hbit] at hand
          have HS := Lib.hid hstep
          have HX := Lib.hid hx1
          clear hstep hx1 hbit HA
          by_cases h2 : 255 < (x : Int) * 2
          · have HT := Lib.hid (tw_hi' x (by omega) hx)
            go_wp2
            go_roundg g
            case measure => omega
            case rel => exact ⟨c / 2, p ^^^ x, tw x, by go_num, by rw [HX.out], by rw [HT.out], hc2, by omega, hxl, ht, HS.out, rfl⟩
          · have HT := Lib.hid (tw_lo' x (by omega))
            go_wp2
            go_roundg g
            case measure => omega
            case rel => exact ⟨c / 2, p ^^^ x, tw x, by go_num, by rw [HX.out], by rw [HT.out], hc2, by omega, hxl, ht, HS.out, rfl⟩
        · rw [if_neg hbit] at hstep
          rw [show c % 2 = 0 by omega] at hand
          have HS := Lib.hid hstep
          clear hstep hx1 hbit HA
          by_cases h2 : 255 < (x : Int) * 2
          · have HT := Lib.hid (tw_hi' x (by omega) hx)
            go_wp2
            go_roundg g
            case measure => omega
            case rel => exact ⟨c / 2, p, tw x, by go_num, rfl, by rw [HT.out], hc2, by omega, hp, ht, HS.out, rfl⟩
          · have HT := Lib.hid (tw_lo' x (by omega))
            go_wp2
            go_roundg g
            case measure => omega
            case rel => exact ⟨c / 2, p, tw x, by go_num, rfl, by rw [HT.out], hc2, by omega, hp, ht, HS.out, rfl⟩

theorem add_any (a b : Nat) (ha : a < 256) (hb : b < 256) (w : World) :
    Calls Try.prog 22 #[.int .u8 (a : Int), .int .u8 (b : Int)] w fun e w' => e = .returned (.int .u8 (a ^^^ b : Nat)) ∧ w = w' := by
  have HX := Lib.hid (u8_xor_nat a b ha hb)
  go_enter Try.func22, Try.ntmps22
  go_wp2
  go_ret
  exact ⟨by rw [HX.out]; rfl, rfl⟩

end Go.Proofs.Ytidcbihdbkhhlaa.Gf
