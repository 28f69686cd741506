/- ArrayAlone's walk. -/
import Derived.Test.YtpmhjagmgjolmaaArAlone
namespace Go.Proofs.Ytpmhjagmgjolmaa.Dk
open Go.RowKit

set_option maxRecDepth 100000 in
set_option maxHeartbeats 8000000 in
theorem alone_main (d n : Nat) (h1 : 2 ≤ d) (h2 : d ≤ 8) (h3 : 1 ≤ n) (h4 : n ≤ 10) (B : Option Addr) (c : Nat) (os : List Op) (h5 : os.length ≤ 20) (w : World) (ho : RowOps w B os) :
    Calls Try.prog 6 #[.int .i64 (d : Int), .int .i64 (n : Int), .slice B os.length c] w fun e w' => e = .returned (.bool true) ∧ Below w.heap.size w w' := by
  have KL := Lib.hid (fun w => live_true w)
  have HO := Lib.hid ho
  have KN := Lib.hid (anew_yes d n 8 (by omega) (by omega) h3 (by omega) (by decide) (by decide) w)
  clear ho
  have g1 : ¬ (d : Int) < 2 := by omega
  have g2 : ¬ 8 < (d : Int) := by omega
  have g3 : ¬ (n : Int) < 1 := by omega
  have g4 : ¬ 10 < (n : Int) := by omega
  have g5 : ¬ 20 < (os.length : Int) := by omega
  go_enter Try.func6, Try.ntmps6
  go_wp2_with fail
  refine KN.out.mono ?_
  rintro e w1 ⟨ga, sv, gs, rfl, hm⟩
  have H0 := Lib.hid (Law.made (Below.refl w.heap.size w) hm)
  clear hm KN
  go_wp2_with fail
  go_loopg [9] n (fun q v9 wx => ∃ (k : Nat) (a : Arr), k + q = n ∧ v9 = .int .i64 (k : Int) ∧ Aside (Law w wx (Pa ga sv gs a) ∧ One d (kd n k) a ∧ Small a k))
  case atStart => exact ⟨0, _, by omega, rfl, H0.out, One.first d n h1, Small.blanks d n 8⟩
  case round =>
    obtain ⟨k, a, hkq, rfl, HI⟩ := hrel
    cases gk with
    | succ q =>
      have hm : k < n := by omega
      have hmi : (k : Int) < (n : Int) := by omega
      have hw := (HI.out.1).op (awrite_at 1 (k : Int) bK (Nat.le_trans (HI.out.2.2.dk _) (by omega)) HI.out.2.2.left)
      rw [(HI.out.2.1.write1 hm).1] at hw
      have K2 := Lib.hid (show Calls Try.prog 12 #[.pointer (some ⟨ga, 0, none⟩), .int .i64 1, .int .i64 (k : Int), .string ⟨#[107, 101, 112, 116]⟩] wr (fun e w' => e = .returned (.int .i64 0) ∧ Law w w' (Pa ga sv gs (awrote a 1 k bK))) from hw)
      have HP := Lib.hid (And.intro (HI.out.2.1.write1 hm).2 (HI.out.2.2.write 1 k bK))
      clear HI hw
      go_wp2_with fail
      refine K2.out.mono ?_
      rintro e w3 ⟨rfl, hl⟩
      have HL := Lib.hid hl
      clear hl K2
      go_wp2_with fail
      go_roundg q
      case measure => omega
      case rel => exact ⟨k + 1, _, by omega, by go_num, HL.out, HP.out.1, HP.out.2⟩
    | zero =>
      obtain rfl : n = k := by omega
      go_wp2_with fail
      go_loopg [10] os.length (fun q v10 wx => ∃ (k : Nat) (a : Arr), k + q = os.length ∧ v10 = .int .i64 (k : Int) ∧ Aside (Law w wx (Pa ga sv gs a) ∧ One d (kd n n) a ∧ Small a (n + k)))
      case atStart => exact ⟨0, _, by omega, rfl, HI.out.1, HI.out.2.1, HI.out.2.2⟩
      case round =>
        clear HI
        obtain ⟨k, a, hkq, rfl, HI⟩ := hrel
        cases gk with
        | zero =>
          obtain rfl : k = os.length := by omega
          go_wp2_with fail
          go_loopg [11] n (fun p v11 wx => ∃ i : Nat, i + p = n ∧ v11 = .int .i64 (i : Int) ∧ Aside (Law w wx (Pa ga sv gs a)))
          case atStart => exact ⟨0, by omega, rfl, HI.out.1⟩
          case round =>
            obtain ⟨i, hip, rfl, HJ⟩ := hrel
            cases gk with
            | zero =>
              obtain rfl : n = i := by omega
              have hR := HJ.out.op (aalive_at 1)
              rw [HI.out.2.1.alive] at hR
              have K6 := Lib.hid hR
              clear hR
              go_wp2_with fail
              refine K6.out.mono ?_
              rintro e w7 ⟨rfl, h8⟩
              have H8 := Lib.hid h8
              clear h8
              go_wp2_with fail
              refine (KL.out _).mono ?_
              rintro e w8 ⟨rfl, b8⟩
              go_wp2_with fail
              go_ret
              exact ⟨rfl, H8.out.below.trans (b8.mono H8.out.below.size)⟩
            | succ p =>
              have hi : i < n := by omega
              have hii : (i : Int) < (n : Int) := by omega
              have hR := HJ.out.op (aread_at 1 (i : Int))
              obtain ⟨e1, e2⟩ := HI.out.2.1.tells i hi
              rw [e1, e2] at hR
              have K6 := Lib.hid hR
              clear hR e1 e2 HJ
              go_wp2_with fail
              refine K6.out.mono ?_
              rintro e w8 ⟨rfl, h8⟩
              have H8 := Lib.hid h8
              clear h8
              go_wp2_with fail
              go_roundg p
              case measure => omega
              case rel => exact ⟨i + 1, by omega, by go_num, H8.out⟩
        | succ q =>
          have hm : k < os.length := by omega
          have hmi : (k : Int) < (os.length : Int) := by omega
          obtain ⟨o, ho⟩ : ∃ o, os[k]? = some o := ⟨_, List.getElem?_eq_getElem hm⟩
          obtain ⟨ad, rfl, e0, e1, e2, e3, -⟩ := ops_at HO.out HI.out.1.below.drew ho
          obtain ⟨ad', e', f0, f1, f2, f3, -⟩ := ops_at HO.out HI.out.1.below ho
          obtain rfl : ad = ad' := Option.some.inj e'
          clear ho e'
          by_cases r0 : o.what.tmod 4 = 0
          · skip
            obtain ⟨z, hz⟩ : ∃ z : Int, awriteE a 0 o.n o.s.size = z := ⟨_, rfl⟩
            have hop := (HI.out.1.drew (Pa.res _ _ _ _)).op (awrite_at 0 o.n o.s (Nat.le_trans (HI.out.2.2.dk _) (by omega)) HI.out.2.2.left)
            rw [hz] at hop
            have K2 := Lib.hid hop
            have HP := Lib.hid (And.intro (HI.out.2.1.write0 o.n o.s) ((HI.out.2.2.write 0 o.n o.s).mono (C := n + (k + 1)) (by omega)))
            clear HI hop hz
            go_wp2_with fail
            go_still_tail 11, (by kernel_rfl)
            change wpList _ _ _ _ _ wr.drew
            go_wp2_with fail
            refine K2.out.mono ?_
            rintro e w3 ⟨rfl, hl⟩
            have HL := Lib.hid hl
            clear hl K2
            go_wp2_with fail
            go_roundg q
            case measure => omega
            case rel => exact ⟨k + 1, _, by omega, by go_num, HL.out, HP.out.1, HP.out.2⟩
          by_cases r1 : o.what.tmod 4 = 1
          · skip
            obtain ⟨z, hz⟩ : ∃ z : Int, (if noDisk a 0 then (1 : Int) else 0) = z := ⟨_, rfl⟩
            have hop := HI.out.1.op (afail_at 0)
            rw [hz] at hop
            have K2 := Lib.hid hop
            have HP := Lib.hid (And.intro (HI.out.2.1.fail0) ((HI.out.2.2.fail 0).mono (C := n + (k + 1)) (by omega)))
            clear HI hop hz
            go_wp2_with fail
            refine K2.out.mono ?_
            rintro e w3 ⟨rfl, hl⟩
            have HL := Lib.hid hl
            clear hl K2
            go_wp2_with fail
            go_roundg q
            case measure => omega
            case rel => exact ⟨k + 1, _, by omega, by go_num, HL.out, HP.out.1, HP.out.2⟩
          by_cases r2 : o.what.tmod 4 = 2
          · skip
            obtain ⟨z, hz⟩ : ∃ z : Int, (if noDisk a 0 then (1 : Int) else 0) = z := ⟨_, rfl⟩
            have hop := HI.out.1.op (areplace_at 0)
            rw [hz] at hop
            have K2 := Lib.hid hop
            have HP := Lib.hid (And.intro (HI.out.2.1.replace0) ((HI.out.2.2.replace 0).mono (C := n + (k + 1)) (by omega)))
            clear HI hop hz
            go_wp2_with fail
            refine K2.out.mono ?_
            rintro e w3 ⟨rfl, hl⟩
            have HL := Lib.hid hl
            clear hl K2
            go_wp2_with fail
            go_roundg q
            case measure => omega
            case rel => exact ⟨k + 1, _, by omega, by go_num, HL.out, HP.out.1, HP.out.2⟩
          · skip
            obtain ⟨z, hz⟩ : ∃ z : Int, acorruptE a 0 o.n o.s.size = z := ⟨_, rfl⟩
            have hop := (HI.out.1.drew (Pa.res _ _ _ _)).op (acorrupt_at 0 o.n o.s (Nat.le_trans (HI.out.2.2.dk _) (by omega)))
            rw [hz] at hop
            have K2 := Lib.hid hop
            have HP := Lib.hid (And.intro (HI.out.2.1.corrupt0 o.n o.s) ((HI.out.2.2.corrupt 0 o.n o.s).mono (C := n + (k + 1)) (by omega)))
            clear HI hop hz
            go_wp2_with fail
            go_still_tail 11, (by kernel_rfl)
            change wpList _ _ _ _ _ wr.drew
            go_wp2_with fail
            refine K2.out.mono ?_
            rintro e w3 ⟨rfl, hl⟩
            have HL := Lib.hid hl
            clear hl K2
            go_wp2_with fail
            go_roundg q
            case measure => omega
            case rel => exact ⟨k + 1, _, by omega, by go_num, HL.out, HP.out.1, HP.out.2⟩

set_option maxRecDepth 100000 in
set_option maxHeartbeats 4000000 in
theorem alone_else (d n : Int) (B : Option Addr) (l c : Nat) (w : World) (h : d < 2 ∨ 8 < d ∨ n < 1 ∨ 10 < n ∨ 20 < (l : Int)) : Calls Try.prog 6 #[.int .i64 d, .int .i64 n, .slice B l c] w fun e w' => e = .returned (.bool true) ∧ Below w.heap.size w w' := by
  have KL := Lib.hid (live_true w)
  by_cases h0 : d < 2
  · clear h
    go_enter Try.func6, Try.ntmps6
    go_wp2_with fail
    refine KL.out.mono ?_
    rintro e w1 ⟨rfl, b⟩
    go_wp2_with fail
    go_ret
    exact ⟨rfl, b⟩
  by_cases h1 : 8 < d
  · clear h
    go_enter Try.func6, Try.ntmps6
    go_wp2_with fail
    refine KL.out.mono ?_
    rintro e w1 ⟨rfl, b⟩
    go_wp2_with fail
    go_ret
    exact ⟨rfl, b⟩
  by_cases h2 : n < 1
  · clear h
    go_enter Try.func6, Try.ntmps6
    go_wp2_with fail
    refine KL.out.mono ?_
    rintro e w1 ⟨rfl, b⟩
    go_wp2_with fail
    go_ret
    exact ⟨rfl, b⟩
  by_cases h3 : 10 < n
  · clear h
    go_enter Try.func6, Try.ntmps6
    go_wp2_with fail
    refine KL.out.mono ?_
    rintro e w1 ⟨rfl, b⟩
    go_wp2_with fail
    go_ret
    exact ⟨rfl, b⟩
  have h4 : 20 < (l : Int) := by omega
  clear h
  go_enter Try.func6, Try.ntmps6
  go_wp2_with fail
  refine KL.out.mono ?_
  rintro e w1 ⟨rfl, b⟩
  go_wp2_with fail
  go_ret
  exact ⟨rfl, b⟩

set_option maxRecDepth 100000 in
theorem alone_of (d n : Int) (B : Option Addr) (l c : Nat) (os : List Op) (W : World) (_ : (Lit.int .i64 d).wf = true) (_ : (Lit.int .i64 n).wf = true) (h : os.length = l ∧ RowOps W B os) :
    Calls Try.prog 6 #[.int .i64 d, .int .i64 n, .slice B l c] W fun e w' => e = .returned (.bool true) ∧ Below W.heap.size W w' := by
  obtain ⟨rfl, hr⟩ := h
  by_cases hg : d < 2 ∨ 8 < d ∨ n < 1 ∨ 10 < n ∨ 20 < (os.length : Int)
  · exact alone_else d n B _ c W hg
  · obtain ⟨a, rfl⟩ := Int.eq_ofNat_of_zero_le (show 0 ≤ d by omega)
    obtain ⟨b, rfl⟩ := Int.eq_ofNat_of_zero_le (show 0 ≤ n by omega)
    exact alone_main a b (by omega) (by omega) (by omega) (by omega) B c os (by omega) W hr

end Go.Proofs.Ytpmhjagmgjolmaa.Dk
