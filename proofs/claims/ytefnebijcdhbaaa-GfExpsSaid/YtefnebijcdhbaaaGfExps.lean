/- GfExps' walk by hand: for all whole numbers n and m the law returns true. -/
import Derived.Test.YtefnebijcdhbaaaGfField
namespace Go.Proofs.Ytefnebijcdhbaaa.Gf
open Go.RowKit Go.Proofs.Ytefnebijcdhbaaa.PGf Go.Proofs.YtefnebijcdhbaaaW.PrintWords

theorem expc (n : Int) (v : Nat) (h : ex (n % 255).toNat = v) (w : World) :
    Calls Try.prog 20 #[.int .i64 n] w fun e w' => e = .returned (.int .u8 (v : Int)) ∧ Below w.heap.size w w' := by
  subst h
  exact exp_calls n w

set_option maxHeartbeats 2000000 in
set_option maxRecDepth 100000 in
theorem exps_o1 (n m : Int) (h1 : n < -1152921504606846976) (w : World) :
    Calls Try.prog 8 #[.int .i64 n, .int .i64 m] w fun e w' => e = .returned (.bool true) ∧ Below w.heap.size w w' := by
  have C := fun W => livec W
  have K := Lib.hid C
  clear C
  go_enter Try.func8, Try.ntmps8
  go_wp2_with fail
  refine (K.out _).mono ?_
  rintro e w0 ⟨rfl, b0⟩
  go_wp2
  go_ret
  refine ⟨rfl, ?_⟩
  have d0 := b0
  exact d0

set_option maxHeartbeats 2000000 in
set_option maxRecDepth 100000 in
theorem exps_o2 (n m : Int) (h0 : -1152921504606846976 ≤ n) (h1 : 1152921504606846976 < n) (w : World) :
    Calls Try.prog 8 #[.int .i64 n, .int .i64 m] w fun e w' => e = .returned (.bool true) ∧ Below w.heap.size w w' := by
  have C := fun W => livec W
  have K := Lib.hid C
  clear C
  go_enter Try.func8, Try.ntmps8
  go_wp2_with fail
  refine (K.out _).mono ?_
  rintro e w0 ⟨rfl, b0⟩
  go_wp2
  go_ret
  refine ⟨rfl, ?_⟩
  have d0 := b0
  exact d0

set_option maxHeartbeats 2000000 in
set_option maxRecDepth 100000 in
theorem exps_o3 (n m : Int) (h0 : -1152921504606846976 ≤ n) (h1 : n ≤ 1152921504606846976) (h2 : m < -1152921504606846976) (w : World) :
    Calls Try.prog 8 #[.int .i64 n, .int .i64 m] w fun e w' => e = .returned (.bool true) ∧ Below w.heap.size w w' := by
  have C := fun W => livec W
  have K := Lib.hid C
  clear C
  go_enter Try.func8, Try.ntmps8
  go_wp2_with fail
  refine (K.out _).mono ?_
  rintro e w0 ⟨rfl, b0⟩
  go_wp2
  go_ret
  refine ⟨rfl, ?_⟩
  have d0 := b0
  exact d0

set_option maxHeartbeats 2000000 in
set_option maxRecDepth 100000 in
theorem exps_o4 (n m : Int) (h0 : -1152921504606846976 ≤ n) (h1 : n ≤ 1152921504606846976) (h2 : -1152921504606846976 ≤ m) (h3 : 1152921504606846976 < m) (w : World) :
    Calls Try.prog 8 #[.int .i64 n, .int .i64 m] w fun e w' => e = .returned (.bool true) ∧ Below w.heap.size w w' := by
  have C := fun W => livec W
  have K := Lib.hid C
  clear C
  go_enter Try.func8, Try.ntmps8
  go_wp2_with fail
  refine (K.out _).mono ?_
  rintro e w0 ⟨rfl, b0⟩
  go_wp2
  go_ret
  refine ⟨rfl, ?_⟩
  have d0 := b0
  exact d0

set_option maxHeartbeats 2000000 in
set_option maxRecDepth 100000 in
theorem exps_yes (n m : Int) (h0 : -1152921504606846976 ≤ n) (h1 : n ≤ 1152921504606846976) (h2 : -1152921504606846976 ≤ m) (h3 : m ≤ 1152921504606846976) (w : World) :
    Calls Try.prog 8 #[.int .i64 n, .int .i64 m] w fun e w' => e = .returned (.bool true) ∧ Below w.heap.size w w' := by
  obtain ⟨x, hx⟩ : ∃ x, ex (n % 255).toNat = x := ⟨_, rfl⟩
  obtain ⟨y, hy⟩ : ∃ y, ex (m % 255).toNat = y := ⟨_, rfl⟩
  obtain ⟨z, hz⟩ : ∃ z, ex ((n + m) % 255).toNat = z := ⟨_, rfl⟩
  have hx1 : x < 256 := by rw [← hx]; exact ex_lt _
  have hy1 : y < 256 := by rw [← hy]; exact ex_lt _
  have hx0 : ((x : Int) == 0) = false := by have := ex_ne (n % 255).toNat; rw [hx] at this; simpa using this
  have hx2 : ((x : Int) != 0) = true := by have := ex_ne (n % 255).toNat; rw [hx] at this; simpa using this
  have hxy : mul x y = z := by
    rw [← hx, ← hy, ← hz, ex_add, ← ex_mod]
    congr 1
    omega
  have hx5 : ex ((n + 255) % 255).toNat = x := by
    rw [← hx]
    congr 2
    omega
  have K1 := Lib.hid (fun W => expc n x hx W)
  have K2 := Lib.hid (fun W => expc m y hy W)
  have K3 := Lib.hid (fun W => mulc x y z hx1 hy1 hxy W)
  have K4 := Lib.hid (fun W => expc (n + m) z hz W)
  have K5 := Lib.hid (fun W => expc (n + 255) x hx5 W)
  have K6 := Lib.hid (fun W => livec W)
  clear hx hy hz hxy hx5
  have g1 : ¬ n < -1152921504606846976 := by omega
  have g2 : ¬ 1152921504606846976 < n := by omega
  have g3 : ¬ m < -1152921504606846976 := by omega
  have g4 : ¬ 1152921504606846976 < m := by omega
  go_enter Try.func8, Try.ntmps8
  go_wp2_with fail
  refine (K1.out _).mono ?_
  rintro e w0 ⟨rfl, b0⟩
  go_wp2_with fail
  refine (K2.out _).mono ?_
  rintro e w1 ⟨rfl, b1⟩
  go_wp2_with fail
  refine (K3.out _).mono ?_
  rintro e w2 ⟨rfl, b2⟩
  go_wp2_with fail
  refine (K4.out _).mono ?_
  rintro e w3 ⟨rfl, b3⟩
  go_wp2_with fail
  refine (K5.out _).mono ?_
  rintro e w4 ⟨rfl, b4⟩
  go_wp2_with fail
  refine (K1.out _).mono ?_
  rintro e w5 ⟨rfl, b5⟩
  go_wp2_with fail
  refine (K1.out _).mono ?_
  rintro e w6 ⟨rfl, b6⟩
  go_wp2_with fail
  refine (K6.out _).mono ?_
  rintro e w7 ⟨rfl, b7⟩
  go_wp2
  go_ret
  refine ⟨rfl, ?_⟩
  have d0 := b0
  have d1 := d0.trans (b1.mono d0.size)
  have d2 := d1.trans (b2.mono d1.size)
  have d3 := d2.trans (b3.mono d2.size)
  have d4 := d3.trans (b4.mono d3.size)
  have d5 := d4.trans (b5.mono d4.size)
  have d6 := d5.trans (b6.mono d5.size)
  have d7 := d6.trans (b7.mono d6.size)
  exact d7

theorem exps_walk (n m : Int) (w : World) (w0 : (Lit.int .i64 n).wf = true) (w1 : (Lit.int .i64 m).wf = true) :
    Calls Try.prog 8 #[.int .i64 n, .int .i64 m] w fun e w' => e = .returned (.bool true) ∧ Below w.heap.size w w' := by
  by_cases h1 : n < -1152921504606846976
  · exact exps_o1 n m h1 w
  by_cases h2 : 1152921504606846976 < n
  · exact exps_o2 n m (by omega) h2 w
  by_cases h3 : m < -1152921504606846976
  · exact exps_o3 n m (by omega) (by omega) h3 w
  by_cases h4 : 1152921504606846976 < m
  · exact exps_o4 n m (by omega) (by omega) (by omega) h4 w
  exact exps_yes n m (by omega) (by omega) (by omega) (by omega) w

end Go.Proofs.Ytefnebijcdhbaaa.Gf
