/- ArrayLost's walk. -/
import Derived.Test.YtpmhjagmgjolmaaArSm
namespace Go.Proofs.Ytpmhjagmgjolmaa.Dk
open Go.RowKit

set_option maxRecDepth 100000 in
set_option maxHeartbeats 8000000 in
theorem lost_main (d n : Nat) (h1 : 1 ≤ d) (h2 : d ≤ 8) (h3 : 1 ≤ n) (h4 : n ≤ 10) (B : Option Addr) (c : Nat) (os : List Op) (h5 : os.length ≤ 20) (w : World) (ho : RowOps w B os) :
    Calls Try.prog 4 #[.int .i64 (d : Int), .int .i64 (n : Int), .slice B os.length c] w fun e w' => e = .returned (.bool true) ∧ Below w.heap.size w w' := by
  have KL := Lib.hid (fun w => live_true w)
  have HO := Lib.hid ho
  have KN := Lib.hid (anew_yes d n 8 h1 (by omega) h3 (by omega) (by decide) (by decide) w)
  clear ho
  have g1 : ¬ (d : Int) < 1 := by omega
  have g2 : ¬ 8 < (d : Int) := by omega
  have g3 : ¬ (n : Int) < 1 := by omega
  have g4 : ¬ 10 < (n : Int) := by omega
  have g5 : ¬ 20 < (os.length : Int) := by omega
  go_enter Try.func4, Try.ntmps4
  go_wp2_with fail
  refine KN.out.mono ?_
  rintro e w1 ⟨ga, sv, gs, rfl, hm⟩
  have H0 := Lib.hid (Law.made (Below.refl w.heap.size w) hm)
  clear hm KN
  go_wp2_with fail
  go_loopg [9] os.length (fun q v9 wx => ∃ (k : Nat) (a : Arr), k + q = os.length ∧ v9 = .int .i64 (k : Int) ∧ Aside (Law w wx (Pa ga sv gs a) ∧ Fresh d n a ∧ Small a k))
  case atStart => exact ⟨0, _, by omega, rfl, H0.out, Fresh.first d n, Small.blanks d n 8⟩
  case round =>
    obtain ⟨k, a, hkq, rfl, HI⟩ := hrel
    cases gk with
    | succ q =>
      have hm : k < os.length := by omega
      have hmi : (k : Int) < (os.length : Int) := by omega
      obtain ⟨o, ho⟩ : ∃ o, os[k]? = some o := ⟨_, List.getElem?_eq_getElem hm⟩
      obtain ⟨ad, rfl, e0, e1, e2, e3, -⟩ := ops_at HO.out HI.out.1.below.drew ho
      clear ho
      have K2 := Lib.hid ((HI.out.1.drew (Pa.res _ _ _ _)).op (awrite_at o.d o.n o.s (Nat.le_trans (HI.out.2.2.dk _) (by omega)) HI.out.2.2.left))
      have HP := Lib.hid (And.intro (HI.out.2.1.write o.d o.n o.s) (HI.out.2.2.write o.d o.n o.s))
      clear HI
      go_wp2_with fail
      go_still_tail 16, (by kernel_rfl)
      change wpList _ _ _ _ _ wr.drew
      go_wp2_with fail
      refine K2.out.mono ?_
      rintro e w3 ⟨rfl, hl⟩
      have HL := Lib.hid hl
      clear hl K2
      go_wp2_with fail
      go_roundg q
      case measure => omega
      case rel => exact ⟨k + 1, _, by omega, by go_num, HL.out, HP.out.1, HP.out.2⟩
    | zero =>
      obtain rfl : k = os.length := by omega
      have hcr := (HI.out.1).op (acrash_at none 0 [] (by decide) (by decide) (by simp) · (by intro j b hj; simp at hj))
      rw [HI.out.2.1.crash] at hcr
      have K2 := Lib.hid hcr
      clear HI hcr
      go_wp2_with fail
      refine K2.out.mono ?_
      rintro e w3 ⟨rfl, hl⟩
      have HL := Lib.hid hl
      clear hl K2
      go_wp2_with fail
      go_loopg [10] d (fun q v10 wx => ∃ j : Nat, j + q = d ∧ v10 = .int .i64 (j : Int) ∧ Aside (Law w wx (Pa ga sv gs (blanks d n 8))))
      case atStart => exact ⟨0, by omega, rfl, HL.out⟩
      case round =>
        obtain ⟨j, hjq, rfl, HJ⟩ := hrel
        cases gk with
        | zero =>
          obtain rfl : j = d := by omega
          go_wp2_with fail
          refine (KL.out _).mono ?_
          rintro e w8 ⟨rfl, b8⟩
          go_wp2_with fail
          go_ret
          exact ⟨rfl, HJ.out.below.trans (b8.mono HJ.out.below.size)⟩
        | succ q =>
          have hj : j < d := by omega
          have hji : (j : Int) < (d : Int) := by omega
          go_wp2_with fail
          go_loopg [11] n (fun p v11 wx => ∃ i : Nat, i + p = n ∧ v11 = .int .i64 (i : Int) ∧ Aside (Law w wx (Pa ga sv gs (blanks d n 8))))
          case atStart => exact ⟨0, by omega, rfl, HJ.out⟩
          case round =>
            obtain ⟨i, hip, rfl, HI⟩ := hrel
            cases gk with
            | zero =>
              obtain rfl : i = n := by omega
              go_wp2_with fail
              go_roundg q
              case measure => omega
              case rel => exact ⟨j + 1, by omega, by go_num, HI.out⟩
            | succ p =>
              have hi : i < n := by omega
              have hii : (i : Int) < (n : Int) := by omega
              have hR := HI.out.op (aread_at (j : Int) (i : Int))
              obtain ⟨e1, e2⟩ := blanks_read d n j i hj hi
              rw [e1, e2] at hR
              have K6 := Lib.hid hR
              clear hR e1 e2 HI
              go_wp2_with fail
              refine K6.out.mono ?_
              rintro e w8 ⟨rfl, h8⟩
              have H8 := Lib.hid h8
              clear h8
              go_wp2_with fail
              go_roundg p
              case measure => omega
              case rel => exact ⟨i + 1, by omega, by go_num, H8.out⟩

set_option maxRecDepth 100000 in
set_option maxHeartbeats 4000000 in
theorem lost_else (d n : Int) (B : Option Addr) (l c : Nat) (w : World) (h : d < 1 ∨ 8 < d ∨ n < 1 ∨ 10 < n ∨ 20 < (l : Int)) : Calls Try.prog 4 #[.int .i64 d, .int .i64 n, .slice B l c] w fun e w' => e = .returned (.bool true) ∧ Below w.heap.size w w' := by
  have KL := Lib.hid (live_true w)
  by_cases h0 : d < 1
  · clear h
    go_enter Try.func4, Try.ntmps4
    go_wp2_with fail
    refine KL.out.mono ?_
    rintro e w1 ⟨rfl, b⟩
    go_wp2_with fail
    go_ret
    exact ⟨rfl, b⟩
  by_cases h1 : 8 < d
  · clear h
    go_enter Try.func4, Try.ntmps4
    go_wp2_with fail
    refine KL.out.mono ?_
    rintro e w1 ⟨rfl, b⟩
    go_wp2_with fail
    go_ret
    exact ⟨rfl, b⟩
  by_cases h2 : n < 1
  · clear h
    go_enter Try.func4, Try.ntmps4
    go_wp2_with fail
    refine KL.out.mono ?_
    rintro e w1 ⟨rfl, b⟩
    go_wp2_with fail
    go_ret
    exact ⟨rfl, b⟩
  by_cases h3 : 10 < n
  · clear h
    go_enter Try.func4, Try.ntmps4
    go_wp2_with fail
    refine KL.out.mono ?_
    rintro e w1 ⟨rfl, b⟩
    go_wp2_with fail
    go_ret
    exact ⟨rfl, b⟩
  have h4 : 20 < (l : Int) := by omega
  clear h
  go_enter Try.func4, Try.ntmps4
  go_wp2_with fail
  refine KL.out.mono ?_
  rintro e w1 ⟨rfl, b⟩
  go_wp2_with fail
  go_ret
  exact ⟨rfl, b⟩

set_option maxRecDepth 100000 in
theorem lost_of (d n : Int) (B : Option Addr) (l c : Nat) (os : List Op) (W : World) (_ : (Lit.int .i64 d).wf = true) (_ : (Lit.int .i64 n).wf = true) (h : os.length = l ∧ RowOps W B os) :
    Calls Try.prog 4 #[.int .i64 d, .int .i64 n, .slice B l c] W fun e w' => e = .returned (.bool true) ∧ Below W.heap.size W w' := by
  obtain ⟨rfl, hr⟩ := h
  by_cases hg : d < 1 ∨ 8 < d ∨ n < 1 ∨ 10 < n ∨ 20 < (os.length : Int)
  · exact lost_else d n B _ c W hg
  · obtain ⟨a, rfl⟩ := Int.eq_ofNat_of_zero_le (show 0 ≤ d by omega)
    obtain ⟨b, rfl⟩ := Int.eq_ofNat_of_zero_le (show 0 ≤ n by omega)
    exact lost_main a b (by omega) (by omega) (by omega) (by omega) B c os (by omega) W hr

end Go.Proofs.Ytpmhjagmgjolmaa.Dk
