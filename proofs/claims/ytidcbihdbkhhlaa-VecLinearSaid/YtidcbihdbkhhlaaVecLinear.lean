/- VecLinear's walk by hand: for all two rows and two numbers the law returns true. -/
import Derived.Test.YtidcbihdbkhhlaaVecPlain
import Derived.Deep.QuietTactic
import Derived.BigQuiet
import Derived.WalkSmall
namespace Go.Proofs.Ytidcbihdbkhhlaa.Gf
open Go.RowKit Go.Proofs.Ytidcbihdbkhhlaa.PVec Go.Proofs.YtidcbihdbkhhlaaW.PrintWords

theorem vaddc (a b s : ByteArray) (hs : a.size ≤ 140737488351232) (h : a.size = b.size) (he : sumB a.size [a, b] = s) (w : World) :
    Calls Try.prog 11 #[.string a, .string b] w fun e w' => e = .returned (.tuple #[.string s, .int .i64 0]) ∧ Below w.heap.size w w' := by
  subst he
  exact vec_Add.calls a b _ 0 w (vec_Add_f a b hs h)
theorem vscalec (a s : ByteArray) (c : Nat) (hs : a.size ≤ 140737488351232) (hc : c < 256) (he : scaleB a c = s) (w : World) :
    Calls Try.prog 17 #[.string a, .int .u8 (c : Int)] w fun e w' => e = .returned (.string s) ∧ Below w.heap.size w w' := by
  subst he
  exact scale_any a c hs hc w
theorem vzeroc (n : Nat) (s : ByteArray) (h : n ≤ 65536) (he : mk n (fun _ => 0) = s) (w : World) :
    Calls Try.prog 15 #[.int .i64 (n : Int)] w fun e w' => e = .returned (.tuple #[.string s, .int .i64 0]) ∧ Below w.heap.size w w' := by
  subst he
  exact vec_Zero.calls n _ 0 w (vec_Zero_f n h)
theorem vmulc (c d m : Nat) (hc : c < 256) (hd : d < 256) (he : mul c d = m) (w : World) :
    Calls Try.prog 21 #[.int .u8 (c : Int), .int .u8 (d : Int)] w fun e w' => e = .returned (.int .u8 (m : Int)) ∧ Below w.heap.size w w' := by
  subst he
  refine (mul_any c d hc hd w).mono ?_
  rintro e w' ⟨h, rfl⟩
  exact ⟨h, Below.refl _ _⟩
theorem vlivec (w : World) : Calls Try.prog 10 #[] w fun e w' => e = .returned (.bool true) ∧ Below w.heap.size w w' :=
  sheetpilelaw02_live.calls 200 true w (live_f 200 (by omega))

set_option maxHeartbeats 2000000 in
set_option maxRecDepth 100000 in
theorem linear_o1 (a b : ByteArray) (c d : Nat) (h1 : 1000 < (a.size : Int)) (w : World) :
    Calls Try.prog 5 #[.agg #[.string a, .string b, .int .u8 (c : Int), .int .u8 (d : Int)]] w fun e w' => e = .returned (.bool true) ∧ Below w.heap.size w w' := by
  have KL := Lib.hid (fun W => vlivec W)
  go_enter Try.func5, Try.ntmps5
  go_wp2_with fail
  go_quiet (fail)
  go_wp2_with fail
  refine (KL.out _).mono ?_
  rintro e w0 ⟨rfl, b0⟩
  go_wp2
  go_ret
  exact ⟨rfl, (below_drewN ((Below.refl w.heap.size w).alloc (Nat.le_refl _) (.cells #[.string a, .string b, .int .u8 (c : Int), .int .u8 (d : Int)] 38)) _).trans (b0.mono (by simp))⟩

set_option maxHeartbeats 2000000 in
set_option maxRecDepth 100000 in
theorem linear_o2 (a b : ByteArray) (c d : Nat) (h1 : (a.size : Int) ≤ 1000) (h2 : ((a.size : Int) != (b.size : Int)) = true) (w : World) :
    Calls Try.prog 5 #[.agg #[.string a, .string b, .int .u8 (c : Int), .int .u8 (d : Int)]] w fun e w' => e = .returned (.bool true) ∧ Below w.heap.size w w' := by
  have KL := Lib.hid (fun W => vlivec W)
  go_enter Try.func5, Try.ntmps5
  go_wp2_with fail
  go_quiet (fail)
  go_wp2_with fail
  refine (KL.out _).mono ?_
  rintro e w0 ⟨rfl, b0⟩
  go_wp2
  go_ret
  exact ⟨rfl, (below_drewN ((Below.refl w.heap.size w).alloc (Nat.le_refl _) (.cells #[.string a, .string b, .int .u8 (c : Int), .int .u8 (d : Int)] 38)) _).trans (b0.mono (by simp))⟩

set_option maxHeartbeats 2000000 in
set_option maxRecDepth 100000 in
theorem linear_yes (a b : ByteArray) (c d : Nat) (hc : c < 256) (hd : d < 256) (h1 : (a.size : Int) ≤ 1000) (h2 : a.size = b.size) (w : World) :
    Calls Try.prog 5 #[.agg #[.string a, .string b, .int .u8 (c : Int), .int .u8 (d : Int)]] w fun e w' => e = .returned (.bool true) ∧ Below w.heap.size w w' := by
  obtain ⟨s, hs⟩ : ∃ s, sumB a.size [a, b] = s := ⟨_, rfl⟩
  obtain ⟨x, hx⟩ : ∃ x, scaleB a c = x := ⟨_, rfl⟩
  obtain ⟨y, hy⟩ : ∃ y, scaleB b c = y := ⟨_, rfl⟩
  obtain ⟨t, ht⟩ : ∃ t, sumB a.size [x, y] = t := ⟨_, rfl⟩
  obtain ⟨z, hz⟩ : ∃ z, sumB a.size [a, a] = z := ⟨_, rfl⟩
  obtain ⟨m, hm⟩ : ∃ m, mul c d = m := ⟨_, rfl⟩
  obtain ⟨u, hu⟩ : ∃ u, scaleB x d = u := ⟨_, rfl⟩
  have sx : x.size = a.size := by rw [← hx, scaleB_size]
  have sy : y.size = a.size := by rw [← hy, scaleB_size, h2]
  have ss : s.size = a.size := by rw [← hs, sumB_size]
  have hm1 : m < 256 := by rw [← hm]; exact mul_lt _ hc
  have hst : scaleB s c = t := by rw [← ht, ← hs, ← hx, ← hy, scale_sum a b c h2]
  have hu2 : scaleB a m = u := by rw [← hu, ← hx, ← hm, scale_scale a c d hc hd]
  have hz2 : mk a.size (fun _ => 0) = z := by rw [← hz, sum_self]
  have K1 := Lib.hid (fun W => vaddc a b s (by omega) h2 hs W)
  have K2 := Lib.hid (fun W => vscalec a x c (by omega) hc hx W)
  have K3 := Lib.hid (fun W => vscalec b y c (by omega) hc hy W)
  have K4 := Lib.hid (fun W => vaddc x y t (by omega) (by omega) (by rw [sx]; exact ht) W)
  have K5 := Lib.hid (fun W => vaddc a a z (by omega) rfl hz W)
  have K6 := Lib.hid (fun W => vzeroc a.size z (by omega) hz2 W)
  have K7 := Lib.hid (fun W => vscalec s t c (by omega) hc hst W)
  have K8 := Lib.hid (fun W => vscalec x u d (by omega) hd hu W)
  have K9 := Lib.hid (fun W => vmulc c d m hc hd hm W)
  have K10 := Lib.hid (fun W => vscalec a u m (by omega) hm1 hu2 W)
  have K11 := Lib.hid (fun W => vscalec a a 1 (by omega) (by decide) (scale_one a) W)
  have KL := Lib.hid (fun W => vlivec W)
  have g1 : ¬ 1000 < (a.size : Int) := by omega
  have g2 : ((a.size : Int) != (b.size : Int)) = false := bne_no h2
  have g3 : ((a.size : Int) == (b.size : Int)) = true := by rw [beq_iff_eq]; omega
  clear hs hx hy ht hz hm hu sx sy ss hst hu2 hz2 h2
  go_enter Try.func5, Try.ntmps5
  go_wp2_with fail
  go_quiet (fail)
  go_wp2_with fail
  refine (K1.out _).mono ?_
  rintro e w0 ⟨rfl, b0⟩
  go_wp2_with fail
  refine (K2.out _).mono ?_
  rintro e w1 ⟨rfl, b1⟩
  go_wp2_with fail
  refine (K3.out _).mono ?_
  rintro e w2 ⟨rfl, b2⟩
  go_wp2_with fail
  refine (K4.out _).mono ?_
  rintro e w3 ⟨rfl, b3⟩
  go_wp2_with fail
  refine (K5.out _).mono ?_
  rintro e w4 ⟨rfl, b4⟩
  go_wp2_with fail
  refine (K6.out _).mono ?_
  rintro e w5 ⟨rfl, b5⟩
  go_wp2_with fail
  refine (K7.out _).mono ?_
  rintro e w6 ⟨rfl, b6⟩
  go_wp2_with fail
  refine (K2.out _).mono ?_
  rintro e w7 ⟨rfl, b7⟩
  go_wp2_with fail
  refine (K8.out _).mono ?_
  rintro e w8 ⟨rfl, b8⟩
  go_wp2_with fail
  refine (K9.out _).mono ?_
  rintro e w9 ⟨rfl, b9⟩
  go_wp2_with fail
  refine (K10.out _).mono ?_
  rintro e w10 ⟨rfl, b10⟩
  go_wp2_with fail
  refine (K11.out _).mono ?_
  rintro e w11 ⟨rfl, b11⟩
  go_wp2_with fail
  refine (KL.out _).mono ?_
  rintro e w12 ⟨rfl, b12⟩
  go_wp2
  go_ret
  refine ⟨rfl, ?_⟩
  have d0 := (below_drewN ((Below.refl w.heap.size w).alloc (Nat.le_refl _) (.cells #[.string a, .string b, .int .u8 (c : Int), .int .u8 (d : Int)] 38)) _).trans (b0.mono (by simp))
  have d1 := d0.trans (b1.mono d0.size)
  have d2 := d1.trans (b2.mono d1.size)
  have d3 := d2.trans (b3.mono d2.size)
  have d4 := d3.trans (b4.mono d3.size)
  have d5 := d4.trans (b5.mono d4.size)
  have d6 := d5.trans (b6.mono d5.size)
  have d7 := d6.trans (b7.mono d6.size)
  have d8 := d7.trans (b8.mono d7.size)
  have d9 := d8.trans (b9.mono d8.size)
  have d10 := d9.trans (b10.mono d9.size)
  have d11 := d10.trans (b11.mono d10.size)
  have d12 := d11.trans (b12.mono d11.size)
  exact d12

theorem linear_walk (a b : ByteArray) (c d : Int) (w : World) (_ : a.size ≤ maxLen) (_ : b.size ≤ maxLen) (w2 : (Lit.int .u8 c).wf = true) (w3 : (Lit.int .u8 d).wf = true) :
    Calls Try.prog 5 #[.agg #[.string a, .string b, .int .u8 c, .int .u8 d]] w fun e w' => e = .returned (.bool true) ∧ Below w.heap.size w w' := by
  obtain ⟨c, hc, rfl⟩ := nat_u8 w2
  obtain ⟨d, hd, rfl⟩ := nat_u8 w3
  by_cases h1 : 1000 < (a.size : Int)
  · exact linear_o1 a b c d h1 w
  by_cases h2 : a.size = b.size
  · exact linear_yes a b c d hc hd (by omega) h2 w
  · exact linear_o2 a b c d (by omega) (bne_yes h2) w

end Go.Proofs.Ytidcbihdbkhhlaa.Gf
