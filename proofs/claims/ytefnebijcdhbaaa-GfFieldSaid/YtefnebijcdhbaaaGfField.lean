/- GfField's walk by hand: for all numbers a, b, c of 256 the law returns true. -/
import Derived.Test.YtefnebijcdhbaaaGfSpec
namespace Go.Proofs.Ytefnebijcdhbaaa.Gf
open Go.RowKit Go.Proofs.Ytefnebijcdhbaaa.PGf Go.Proofs.YtefnebijcdhbaaaW.PrintWords

theorem mulc (x y v : Nat) (hx : x < 256) (hy : y < 256) (hv : mul x y = v) (w : World) :
    Calls Try.prog 15 #[.int .u8 (x : Int), .int .u8 (y : Int)] w fun e w' => e = .returned (.int .u8 (v : Int)) ∧ Below w.heap.size w w' := by
  subst hv
  refine (gf_Mul.calls 20 x y (mul x y : Nat) w (gf_Mul_f 20 x y (by omega) hx hy)).mono ?_
  rintro e w' ⟨rfl, hd⟩
  exact ⟨rfl, hd.below⟩
theorem mulc1 (x : Nat) (hx : x < 256) (w : World) :
    Calls Try.prog 15 #[.int .u8 (x : Int), .int .u8 1] w fun e w' => e = .returned (.int .u8 (x : Int)) ∧ Below w.heap.size w w' :=
  mulc x 1 x hx (by decide) (mul_one hx) w
theorem addc (x y v : Nat) (hx : x < 256) (hy : y < 256) (hv : x ^^^ y = v) (w : World) :
    Calls Try.prog 14 #[.int .u8 (x : Int), .int .u8 (y : Int)] w fun e w' => e = .returned (.int .u8 (v : Int)) ∧ Below w.heap.size w w' := by
  subst hv
  refine (gf_Add.calls x y (x ^^^ y : Nat) w (gf_Add_f x y hx hy)).mono ?_
  rintro e w' ⟨rfl, hd⟩
  exact ⟨rfl, hd.below⟩
theorem addc0 (x : Nat) (hx : x < 256) (w : World) :
    Calls Try.prog 14 #[.int .u8 (x : Int), .int .u8 (x : Int)] w fun e w' => e = .returned (.int .u8 0) ∧ Below w.heap.size w w' :=
  addc x x 0 hx hx (Nat.xor_self x) w
theorem livec (w : World) : Calls Try.prog 17 #[] w fun e w' => e = .returned (.bool true) ∧ Below w.heap.size w w' :=
  sheetpilelaw01_live.calls 20 true w (live_f 20 (by omega))

set_option maxHeartbeats 2000000 in
set_option maxRecDepth 100000 in
theorem field_yes (a b c : Nat) (ha : a < 256) (hb : b < 256) (hc : c < 256) (hb0 : b ≠ 0) (w : World) :
    Calls Try.prog 5 #[.int .u8 (a : Int), .int .u8 (b : Int), .int .u8 (c : Int)] w fun e w' => e = .returned (.bool true) ∧ Below w.heap.size w w' := by
  obtain ⟨p, hp⟩ : ∃ p, mul a b = p := ⟨_, rfl⟩
  obtain ⟨q, hq⟩ : ∃ q, mul b c = q := ⟨_, rfl⟩
  obtain ⟨t, ht⟩ : ∃ t, mul a q = t := ⟨_, rfl⟩
  obtain ⟨s, hs⟩ : ∃ s, b ^^^ c = s := ⟨_, rfl⟩
  obtain ⟨m, hm⟩ : ∃ m, mul a s = m := ⟨_, rfl⟩
  obtain ⟨n, hn⟩ : ∃ n, mul a c = n := ⟨_, rfl⟩
  have hp1 : p < 256 := by rw [← hp]; exact mul_lt _ ha
  have hq1 : q < 256 := by rw [← hq]; exact mul_lt _ hb
  have hs1 : s < 256 := by rw [← hs]; exact xor_lt hb hc
  have hn1 : n < 256 := by rw [← hn]; exact mul_lt _ ha
  have hba : mul b a = p := by rw [← hp, mul_comm hb ha]
  have hpc : mul p c = t := by rw [← ht, ← hp, ← hq, mul_assoc ha hb hc]
  have hpn : p ^^^ n = m := by rw [← hm, ← hs, mul_xor_right, hp, hn]
  have D : ∀ W, Calls Try.prog 10 #[.int .u8 (p : Int), .int .u8 (b : Int)] W fun e w' => e = .returned (.tuple #[.int .u8 (a : Int), .int .i64 0]) ∧ Below W.heap.size W w' :=
    fun W => divF_calls p b a 0 W (by rw [← hp]; exact div_back a b ha hb hb0)
  have hb1 : ((b : Int) != 0) = true := by simpa using hb0
  have hb2 : ((b : Int) == 0) = false := by simpa using hb0
  have C1 := fun W => mulc a b p ha hb hp W
  have C2 := fun W => mulc b a p hb ha hba W
  have C3 := fun W => mulc b c q hb hc hq W
  have C4 := fun W => mulc a q t ha hq1 ht W
  have C5 := fun W => mulc p c t hp1 hc hpc W
  have C6 := fun W => addc b c s hb hc hs W
  have C7 := fun W => mulc a s m ha hs1 hm W
  have C8 := fun W => mulc a c n ha hc hn W
  have C9 := fun W => addc p n m hp1 hn1 hpn W
  have C10 := fun W => mulc1 a ha W
  have C11 := fun W => addc0 a ha W
  have K1 := Lib.hid C1
  have K2 := Lib.hid C2
  have K3 := Lib.hid C3
  have K4 := Lib.hid C4
  have K5 := Lib.hid C5
  have K6 := Lib.hid C6
  have K7 := Lib.hid C7
  have K8 := Lib.hid C8
  have K9 := Lib.hid C9
  have K10 := Lib.hid C10
  have K11 := Lib.hid C11
  have KD := Lib.hid D
  clear C1 C2 C3 C4 C5 C6 C7 C8 C9 C10 C11 D hp hq ht hs hm hn hba hpc hpn
  go_enter Try.func5, Try.ntmps5
  go_wp2_with fail
  refine (K1.out _).mono ?_
  rintro e w0 ⟨rfl, b0⟩
  go_wp2_with fail
  refine (KD.out _).mono ?_
  rintro e w1 ⟨rfl, b1⟩
  go_wp2_with fail
  refine (K1.out _).mono ?_
  rintro e w2 ⟨rfl, b2⟩
  go_wp2_with fail
  refine (K2.out _).mono ?_
  rintro e w3 ⟨rfl, b3⟩
  go_wp2_with fail
  refine (K3.out _).mono ?_
  rintro e w4 ⟨rfl, b4⟩
  go_wp2_with fail
  refine (K4.out _).mono ?_
  rintro e w5 ⟨rfl, b5⟩
  go_wp2_with fail
  refine (K1.out _).mono ?_
  rintro e w6 ⟨rfl, b6⟩
  go_wp2_with fail
  refine (K5.out _).mono ?_
  rintro e w7 ⟨rfl, b7⟩
  go_wp2_with fail
  refine (K6.out _).mono ?_
  rintro e w8 ⟨rfl, b8⟩
  go_wp2_with fail
  refine (K7.out _).mono ?_
  rintro e w9 ⟨rfl, b9⟩
  go_wp2_with fail
  refine (K1.out _).mono ?_
  rintro e w10 ⟨rfl, b10⟩
  go_wp2_with fail
  refine (K8.out _).mono ?_
  rintro e w11 ⟨rfl, b11⟩
  go_wp2_with fail
  refine (K9.out _).mono ?_
  rintro e w12 ⟨rfl, b12⟩
  go_wp2_with fail
  refine (K10.out _).mono ?_
  rintro e w13 ⟨rfl, b13⟩
  go_wp2_with fail
  refine (K11.out _).mono ?_
  rintro e w14 ⟨rfl, b14⟩
  go_wp2_with fail
  refine (livec _).mono ?_
  rintro e wl ⟨rfl, bl⟩
  go_wp2
  go_ret
  refine ⟨rfl, ?_⟩
  have d0 := b0
  have d1 := d0.trans (b1.mono d0.size)
  have d2 := d1.trans (b2.mono d1.size)
  have d3 := d2.trans (b3.mono d2.size)
  have d4 := d3.trans (b4.mono d3.size)
  have d5 := d4.trans (b5.mono d4.size)
  have d6 := d5.trans (b6.mono d5.size)
  have d7 := d6.trans (b7.mono d6.size)
  have d8 := d7.trans (b8.mono d7.size)
  have d9 := d8.trans (b9.mono d8.size)
  have d10 := d9.trans (b10.mono d9.size)
  have d11 := d10.trans (b11.mono d10.size)
  have d12 := d11.trans (b12.mono d11.size)
  have d13 := d12.trans (b13.mono d12.size)
  have d14 := d13.trans (b14.mono d13.size)
  exact d14.trans (bl.mono d14.size)

set_option maxHeartbeats 2000000 in
set_option maxRecDepth 100000 in
theorem field_no (a b c : Nat) (ha : a < 256) (hb : b < 256) (hc : c < 256) (hb0 : b = 0) (w : World) :
    Calls Try.prog 5 #[.int .u8 (a : Int), .int .u8 (b : Int), .int .u8 (c : Int)] w fun e w' => e = .returned (.bool true) ∧ Below w.heap.size w w' := by
  obtain ⟨p, hp⟩ : ∃ p, mul a b = p := ⟨_, rfl⟩
  obtain ⟨q, hq⟩ : ∃ q, mul b c = q := ⟨_, rfl⟩
  obtain ⟨t, ht⟩ : ∃ t, mul a q = t := ⟨_, rfl⟩
  obtain ⟨s, hs⟩ : ∃ s, b ^^^ c = s := ⟨_, rfl⟩
  obtain ⟨m, hm⟩ : ∃ m, mul a s = m := ⟨_, rfl⟩
  obtain ⟨n, hn⟩ : ∃ n, mul a c = n := ⟨_, rfl⟩
  have hp1 : p < 256 := by rw [← hp]; exact mul_lt _ ha
  have hq1 : q < 256 := by rw [← hq]; exact mul_lt _ hb
  have hs1 : s < 256 := by rw [← hs]; exact xor_lt hb hc
  have hn1 : n < 256 := by rw [← hn]; exact mul_lt _ ha
  have hba : mul b a = p := by rw [← hp, mul_comm hb ha]
  have hpc : mul p c = t := by rw [← ht, ← hp, ← hq, mul_assoc ha hb hc]
  have hpn : p ^^^ n = m := by rw [← hm, ← hs, mul_xor_right, hp, hn]
  have D : ∀ W, Calls Try.prog 10 #[.int .u8 (p : Int), .int .u8 (b : Int)] W fun e w' => e = .returned (.tuple #[.int .u8 0, .int .i64 1]) ∧ Below W.heap.size W w' :=
    fun W => divF_calls p b 0 1 W (by subst hb0; unfold divF; rw [if_pos ⟨by omega, by omega, by omega, by omega⟩, if_pos (by omega)])
  have hb1 : ((b : Int) != 0) = false := by simpa using hb0
  have hb2 : ((b : Int) == 0) = true := by simpa using hb0
  clear hb0
  have C1 := fun W => mulc a b p ha hb hp W
  have C2 := fun W => mulc b a p hb ha hba W
  have C3 := fun W => mulc b c q hb hc hq W
  have C4 := fun W => mulc a q t ha hq1 ht W
  have C5 := fun W => mulc p c t hp1 hc hpc W
  have C6 := fun W => addc b c s hb hc hs W
  have C7 := fun W => mulc a s m ha hs1 hm W
  have C8 := fun W => mulc a c n ha hc hn W
  have C9 := fun W => addc p n m hp1 hn1 hpn W
  have C10 := fun W => mulc1 a ha W
  have C11 := fun W => addc0 a ha W
  have K1 := Lib.hid C1
  have K2 := Lib.hid C2
  have K3 := Lib.hid C3
  have K4 := Lib.hid C4
  have K5 := Lib.hid C5
  have K6 := Lib.hid C6
  have K7 := Lib.hid C7
  have K8 := Lib.hid C8
  have K9 := Lib.hid C9
  have K10 := Lib.hid C10
  have K11 := Lib.hid C11
  have KD := Lib.hid D
  clear C1 C2 C3 C4 C5 C6 C7 C8 C9 C10 C11 D hp hq ht hs hm hn hba hpc hpn
  go_enter Try.func5, Try.ntmps5
  go_wp2_with fail
  refine (K1.out _).mono ?_
  rintro e w0 ⟨rfl, b0⟩
  go_wp2_with fail
  refine (KD.out _).mono ?_
  rintro e w1 ⟨rfl, b1⟩
  go_wp2_with fail
  refine (K1.out _).mono ?_
  rintro e w2 ⟨rfl, b2⟩
  go_wp2_with fail
  refine (K2.out _).mono ?_
  rintro e w3 ⟨rfl, b3⟩
  go_wp2_with fail
  refine (K3.out _).mono ?_
  rintro e w4 ⟨rfl, b4⟩
  go_wp2_with fail
  refine (K4.out _).mono ?_
  rintro e w5 ⟨rfl, b5⟩
  go_wp2_with fail
  refine (K1.out _).mono ?_
  rintro e w6 ⟨rfl, b6⟩
  go_wp2_with fail
  refine (K5.out _).mono ?_
  rintro e w7 ⟨rfl, b7⟩
  go_wp2_with fail
  refine (K6.out _).mono ?_
  rintro e w8 ⟨rfl, b8⟩
  go_wp2_with fail
  refine (K7.out _).mono ?_
  rintro e w9 ⟨rfl, b9⟩
  go_wp2_with fail
  refine (K1.out _).mono ?_
  rintro e w10 ⟨rfl, b10⟩
  go_wp2_with fail
  refine (K8.out _).mono ?_
  rintro e w11 ⟨rfl, b11⟩
  go_wp2_with fail
  refine (K9.out _).mono ?_
  rintro e w12 ⟨rfl, b12⟩
  go_wp2_with fail
  refine (K10.out _).mono ?_
  rintro e w13 ⟨rfl, b13⟩
  go_wp2_with fail
  refine (K11.out _).mono ?_
  rintro e w14 ⟨rfl, b14⟩
  go_wp2_with fail
  refine (livec _).mono ?_
  rintro e wl ⟨rfl, bl⟩
  go_wp2
  go_ret
  refine ⟨rfl, ?_⟩
  have d0 := b0
  have d1 := d0.trans (b1.mono d0.size)
  have d2 := d1.trans (b2.mono d1.size)
  have d3 := d2.trans (b3.mono d2.size)
  have d4 := d3.trans (b4.mono d3.size)
  have d5 := d4.trans (b5.mono d4.size)
  have d6 := d5.trans (b6.mono d5.size)
  have d7 := d6.trans (b7.mono d6.size)
  have d8 := d7.trans (b8.mono d7.size)
  have d9 := d8.trans (b9.mono d8.size)
  have d10 := d9.trans (b10.mono d9.size)
  have d11 := d10.trans (b11.mono d10.size)
  have d12 := d11.trans (b12.mono d11.size)
  have d13 := d12.trans (b13.mono d12.size)
  have d14 := d13.trans (b14.mono d13.size)
  exact d14.trans (bl.mono d14.size)

theorem field_walk (a0 a1 a2 : Int) (w : World) (w0 : (Lit.int .u8 a0).wf = true) (w1 : (Lit.int .u8 a1).wf = true) (w2 : (Lit.int .u8 a2).wf = true) :
    Calls Try.prog 5 #[.int .u8 a0, .int .u8 a1, .int .u8 a2] w fun e w' => e = .returned (.bool true) ∧ Below w.heap.size w w' := by
  obtain ⟨a, ha, rfl⟩ := nat_u8 w0
  obtain ⟨b, hb, rfl⟩ := nat_u8 w1
  obtain ⟨c, hc, rfl⟩ := nat_u8 w2
  by_cases h : b = 0
  · exact field_no a b c ha hb hc h w
  · exact field_yes a b c ha hb hc h w

end Go.Proofs.Ytefnebijcdhbaaa.Gf
