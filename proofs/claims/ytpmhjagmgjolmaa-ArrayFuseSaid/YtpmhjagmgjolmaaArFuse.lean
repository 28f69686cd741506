/- ArrayFuse's walk. -/
import Derived.Test.YtpmhjagmgjolmaaArFz
namespace Go.Proofs.Ytpmhjagmgjolmaa.Dk
open Go.RowKit

set_option maxRecDepth 100000 in
theorem boolInfo10 : (Try.prog.info? 4).map (fun i => (i.zero, i.size, i.bytes)) = some (some (.bool false), 1, 1) := by kernel_rfl

section
variable {w0 w : World} {ga : Nat} {sv : Value} {gs : List Nat} {f i : Nat}
set_option maxRecDepth 100000 in
theorem fz_fuse (h : Law w0 w (Pa ga sv gs (blanks 2 100 8))) : Calls Try.prog 11 #[.pointer (some ⟨ga, 0, none⟩), .int .i64 (f : Int)] w fun e w' => e = .returned (.int .i64 0) ∧ Law w0 w' (Pa ga sv gs (fz f 0)) := by
  have := h.op (fuse_at (f : Int))
  rwa [fz_zero, if_neg (by omega)] at this
set_option maxRecDepth 100000 in
theorem fz_write (h : Law w0 w (Pa ga sv gs (fz f i))) (hi : i < 100) (hf : (f : Int) ≤ 9223372036854775807) : Calls Try.prog 12 #[.pointer (some ⟨ga, 0, none⟩), .int .i64 ((i % 2 : Nat) : Int), .int .i64 (i : Int), .string ⟨#[120]⟩] w fun e w' => e = .returned (.int .i64 (if i < f then 0 else 9)) ∧ Law w0 w' (Pa ga sv gs (fz f (i + 1))) := by
  have := h.op (awrite_at ((i % 2 : Nat) : Int) (i : Int) bX (by rw [fz_dk]; exact Nat.le_trans (wq_len _ _) (by omega)) (by simp only [fz]; omega))
  rwa [fz_next f i hi, show bX.size = 1 from rfl, fz_E f i hi] at this
end

set_option maxRecDepth 100000 in
set_option maxHeartbeats 8000000 in
theorem fuse_main (n f : Nat) (hn : n ≤ 100) (hf : (f : Int) ≤ 9223372036854775807) (w : World) :
    Calls Try.prog 3 #[.int .i64 (n : Int), .int .i64 (f : Int)] w fun e w' => e = .returned (.bool true) ∧ Below w.heap.size w w' := by
  have KL := Lib.hid (fun w => live_true w)
  have KN := Lib.hid (anew_yes 2 100 8 (by decide) (by decide) (by decide) (by decide) (by decide) (by decide) w)
  have hmk := run_make_row' (P := Try.prog) 29 4 (.bool false) 1 Try.underlying29 boolInfo10 rfl .i64 .i64 200 (by omega) (by omega)
  simp only [show ((200 : Nat) : Int) = 200 from rfl] at hmk
  have g1 : ¬ (n : Int) < 0 := by omega
  have g2 : ¬ 100 < (n : Int) := by omega
  have g3 : ¬ (f : Int) < 0 := by omega
  go_enter Try.func3, Try.ntmps3
  go_wp2_with fail
  refine KN.out.mono ?_
  rintro e w1 ⟨ga, sv, gs, rfl, hm⟩
  have H0 := Lib.hid (Law.made (Below.refl w.heap.size w) hm)
  clear hm KN
  go_wp2_with fail
  refine (fz_fuse H0.out).mono ?_
  rintro e w2 ⟨rfl, hl⟩
  have H1 := Lib.hid hl
  clear hl H0
  go_wp2_with fail
  go_loopg [7] n (fun q v7 wx => ∃ k : Nat, k + q = n ∧ v7 = .int .i64 (k : Int) ∧ Aside (Law w wx (Pa ga sv gs (fz f k))))
  case atStart => exact ⟨0, by omega, rfl, H1.out⟩
  case round =>
    obtain ⟨k, hkq, rfl, HI⟩ := hrel
    cases gk with
    | succ q =>
      have hm : k < n := by omega
      have hmi : (k : Int) < (n : Int) := by omega
      have hrem : (k : Int).tmod 2 = ((k % 2 : Nat) : Int) := rfl
      by_cases hkf : k < f
      · have hkfi : (k : Int) < (f : Int) := by omega
        have K2 := Lib.hid (fz_write HI.out (by omega) hf)
        rw [if_pos hkf] at K2
        clear HI
        go_wp2_with fail
        refine K2.out.mono ?_
        rintro e w3 ⟨rfl, hl⟩
        have H3 := Lib.hid hl
        clear hl
        go_wp2_with fail
        go_roundg q
        case measure => omega
        case rel => exact ⟨k + 1, by omega, by go_num, H3.out⟩
      · have hkfi : ¬ (k : Int) < (f : Int) := by omega
        have K2 := Lib.hid (fz_write HI.out (by omega) hf)
        rw [if_neg hkf] at K2
        clear HI
        go_wp2_with fail
        refine K2.out.mono ?_
        rintro e w3 ⟨rfl, hl⟩
        have H3 := Lib.hid hl
        clear hl
        go_wp2_with fail
        go_roundg q
        case measure => omega
        case rel => exact ⟨k + 1, by omega, by go_num, H3.out⟩
    | zero =>
      obtain rfl : k = n := by omega
      have hdown : (fz f k).down = decide (f < k) := rfl
      have K2 := Lib.hid (HI.out.op down_at)
      rw [hdown] at K2
      clear hdown HI
      by_cases hfk : (f : Int) < (k : Int)
      · skip
        have hd : decide (f < k) = true := by simp; omega
        rw [hd] at K2
        clear hd
        go_wp2_with fail
        refine K2.out.mono ?_
        rintro e w3 ⟨rfl, hl⟩
        have H3 := Lib.hid hl
        clear hl K2
        go_wp2_with fail
        have H4 := Lib.hid (show Law w (w3.alloc (.cells (madeCells #[.bool false] 200) 4)) (Both (Pa ga sv gs (fz f k)) (RowT w3.heap.size 200 0)) from by
          obtain ⟨S, hA, hn, hb⟩ := H3.out
          exact Law.step hn hb (Made.with (Pa.res _ _ _ _) hA (RowT.made w3 200)))
        clear H3 hmk
        generalize w3.heap.size = b at H4 ⊢
        go_loopg [10] 200 (fun q v10 wx => ∃ j : Nat, j + q = 200 ∧ v10 = .int .i64 (j : Int) ∧ Aside (Law w wx (Both (Pa ga sv gs (fz f k)) (RowT b 200 j))))
        case atStart => exact ⟨0, by omega, rfl, H4.out⟩
        case round =>
          obtain ⟨j, hjq, rfl, HJ⟩ := hrel
          cases gk with
          | succ q =>
            have hkL : j < 200 := by omega
            have hki : (j : Int) < 200 := by omega
            have hrow := HJ.out.rowCells
            have hcb : wr.cell? ⟨b, j, none⟩ = some (.bool false) := by
              rw [cell_of_row _ b j _ _ _ hrow]
              have := upTo_at 200 j hkL
              simpa using this
            have hfz := frozen_of_row wr b j _ _ hrow
            have HP := Lib.hid (HJ.out.put (Pa.res _ _ _ _) hkL)
            clear hrow
            go_wp2_with fail
            go_roundg q
            case measure => omega
            case rel => exact ⟨j + 1, by omega, by go_num, HP.out⟩
          | zero =>
            obtain rfl : j = 200 := by omega
            have K5 := Lib.hid (HJ.out.acrashRow (by decide) (by decide))
            clear HJ
            go_wp2_with fail
            refine K5.out.mono ?_
            rintro e w7 ⟨rfl, h7'⟩
            have H7 := Lib.hid h7'.drop
            clear h7' K5
            go_wp2_with fail
            go_loopg [11] 100 (fun q v11 wx => ∃ j : Nat, j + q = 100 ∧ v11 = .int .i64 (j : Int) ∧ Aside (Law w wx (Pa ga sv gs (acrashed (fz f k) (List.replicate 200 true)))))
            case atStart => exact ⟨0, by omega, rfl, H7.out⟩
            case round =>
              obtain ⟨j, hjq, rfl, HJ⟩ := hrel
              cases gk with
              | zero =>
                obtain rfl : j = 100 := by omega
                go_wp2_with fail
                refine (KL.out _).mono ?_
                rintro e w8 ⟨rfl, b8⟩
                go_wp2_with fail
                go_ret
                exact ⟨rfl, HJ.out.below.trans (b8.mono HJ.out.below.size)⟩
              | succ q =>
                have hj : j < 100 := by omega
                have hji : (j : Int) < 100 := by omega
                have hrem : (j : Int).tmod 2 = ((j % 2 : Nat) : Int) := rfl
                have hR := HJ.out.op (aread_at ((j % 2 : Nat) : Int) (j : Int))
                obtain ⟨e1, e2⟩ := fz_crash f k (by omega) j hj
                rw [e1, e2] at hR
                by_cases hjf : j < f
                · have hjfi : (j : Int) < (f : Int) := by omega
                  by_cases hjk : j < k
                  · have hjki : (j : Int) < (k : Int) := by omega
                    rw [if_pos ⟨hjf, hjk⟩, show bX = ⟨#[120]⟩ from rfl] at hR
                    have K6 := Lib.hid hR
                    clear hR e1 e2 HJ
                    go_wp2_with fail
                    refine K6.out.mono ?_
                    rintro e w8 ⟨rfl, h8⟩
                    have H8 := Lib.hid h8
                    clear h8
                    go_wp2_with fail
                    go_roundg q
                    case measure => omega
                    case rel => exact ⟨j + 1, by omega, by go_num, H8.out⟩
                  · have hjki : ¬ (j : Int) < (k : Int) := by omega
                    rw [if_neg (fun h => hjk h.2)] at hR
                    have K6 := Lib.hid hR
                    clear hR e1 e2 HJ
                    go_wp2_with fail
                    refine K6.out.mono ?_
                    rintro e w8 ⟨rfl, h8⟩
                    have H8 := Lib.hid h8
                    clear h8
                    go_wp2_with fail
                    go_roundg q
                    case measure => omega
                    case rel => exact ⟨j + 1, by omega, by go_num, H8.out⟩
                · have hjfi : ¬ (j : Int) < (f : Int) := by omega
                  rw [if_neg (fun h => hjf h.1)] at hR
                  have K6 := Lib.hid hR
                  clear hR e1 e2 HJ
                  go_wp2_with fail
                  refine K6.out.mono ?_
                  rintro e w8 ⟨rfl, h8⟩
                  have H8 := Lib.hid h8
                  clear h8
                  go_wp2_with fail
                  go_roundg q
                  case measure => omega
                  case rel => exact ⟨j + 1, by omega, by go_num, H8.out⟩
      · skip
        have hd : decide (f < k) = false := by simp; omega
        rw [hd] at K2
        clear hd
        go_wp2_with fail
        refine K2.out.mono ?_
        rintro e w3 ⟨rfl, hl⟩
        have H3 := Lib.hid hl
        clear hl K2
        go_wp2_with fail
        have H4 := Lib.hid (show Law w (w3.alloc (.cells (madeCells #[.bool false] 200) 4)) (Both (Pa ga sv gs (fz f k)) (RowT w3.heap.size 200 0)) from by
          obtain ⟨S, hA, hn, hb⟩ := H3.out
          exact Law.step hn hb (Made.with (Pa.res _ _ _ _) hA (RowT.made w3 200)))
        clear H3 hmk
        generalize w3.heap.size = b at H4 ⊢
        go_loopg [10] 200 (fun q v10 wx => ∃ j : Nat, j + q = 200 ∧ v10 = .int .i64 (j : Int) ∧ Aside (Law w wx (Both (Pa ga sv gs (fz f k)) (RowT b 200 j))))
        case atStart => exact ⟨0, by omega, rfl, H4.out⟩
        case round =>
          obtain ⟨j, hjq, rfl, HJ⟩ := hrel
          cases gk with
          | succ q =>
            have hkL : j < 200 := by omega
            have hki : (j : Int) < 200 := by omega
            have hrow := HJ.out.rowCells
            have hcb : wr.cell? ⟨b, j, none⟩ = some (.bool false) := by
              rw [cell_of_row _ b j _ _ _ hrow]
              have := upTo_at 200 j hkL
              simpa using this
            have hfz := frozen_of_row wr b j _ _ hrow
            have HP := Lib.hid (HJ.out.put (Pa.res _ _ _ _) hkL)
            clear hrow
            go_wp2_with fail
            go_roundg q
            case measure => omega
            case rel => exact ⟨j + 1, by omega, by go_num, HP.out⟩
          | zero =>
            obtain rfl : j = 200 := by omega
            have K5 := Lib.hid (HJ.out.acrashRow (by decide) (by decide))
            clear HJ
            go_wp2_with fail
            refine K5.out.mono ?_
            rintro e w7 ⟨rfl, h7'⟩
            have H7 := Lib.hid h7'.drop
            clear h7' K5
            go_wp2_with fail
            go_loopg [11] 100 (fun q v11 wx => ∃ j : Nat, j + q = 100 ∧ v11 = .int .i64 (j : Int) ∧ Aside (Law w wx (Pa ga sv gs (acrashed (fz f k) (List.replicate 200 true)))))
            case atStart => exact ⟨0, by omega, rfl, H7.out⟩
            case round =>
              obtain ⟨j, hjq, rfl, HJ⟩ := hrel
              cases gk with
              | zero =>
                obtain rfl : j = 100 := by omega
                go_wp2_with fail
                refine (KL.out _).mono ?_
                rintro e w8 ⟨rfl, b8⟩
                go_wp2_with fail
                go_ret
                exact ⟨rfl, HJ.out.below.trans (b8.mono HJ.out.below.size)⟩
              | succ q =>
                have hj : j < 100 := by omega
                have hji : (j : Int) < 100 := by omega
                have hrem : (j : Int).tmod 2 = ((j % 2 : Nat) : Int) := rfl
                have hR := HJ.out.op (aread_at ((j % 2 : Nat) : Int) (j : Int))
                obtain ⟨e1, e2⟩ := fz_crash f k (by omega) j hj
                rw [e1, e2] at hR
                by_cases hjf : j < f
                · have hjfi : (j : Int) < (f : Int) := by omega
                  by_cases hjk : j < k
                  · have hjki : (j : Int) < (k : Int) := by omega
                    rw [if_pos ⟨hjf, hjk⟩, show bX = ⟨#[120]⟩ from rfl] at hR
                    have K6 := Lib.hid hR
                    clear hR e1 e2 HJ
                    go_wp2_with fail
                    refine K6.out.mono ?_
                    rintro e w8 ⟨rfl, h8⟩
                    have H8 := Lib.hid h8
                    clear h8
                    go_wp2_with fail
                    go_roundg q
                    case measure => omega
                    case rel => exact ⟨j + 1, by omega, by go_num, H8.out⟩
                  · have hjki : ¬ (j : Int) < (k : Int) := by omega
                    rw [if_neg (fun h => hjk h.2)] at hR
                    have K6 := Lib.hid hR
                    clear hR e1 e2 HJ
                    go_wp2_with fail
                    refine K6.out.mono ?_
                    rintro e w8 ⟨rfl, h8⟩
                    have H8 := Lib.hid h8
                    clear h8
                    go_wp2_with fail
                    go_roundg q
                    case measure => omega
                    case rel => exact ⟨j + 1, by omega, by go_num, H8.out⟩
                · have hjfi : ¬ (j : Int) < (f : Int) := by omega
                  rw [if_neg (fun h => hjf h.1)] at hR
                  have K6 := Lib.hid hR
                  clear hR e1 e2 HJ
                  go_wp2_with fail
                  refine K6.out.mono ?_
                  rintro e w8 ⟨rfl, h8⟩
                  have H8 := Lib.hid h8
                  clear h8
                  go_wp2_with fail
                  go_roundg q
                  case measure => omega
                  case rel => exact ⟨j + 1, by omega, by go_num, H8.out⟩

set_option maxRecDepth 100000 in
set_option maxHeartbeats 4000000 in
theorem fuse_else (n f : Int) (w : World) (h : n < 0 ∨ 100 < n ∨ f < 0) : Calls Try.prog 3 #[.int .i64 n, .int .i64 f] w fun e w' => e = .returned (.bool true) ∧ Below w.heap.size w w' := by
  have KL := Lib.hid (live_true w)
  by_cases h0 : n < 0
  · clear h
    go_enter Try.func3, Try.ntmps3
    go_wp2_with fail
    refine KL.out.mono ?_
    rintro e w1 ⟨rfl, b⟩
    go_wp2_with fail
    go_ret
    exact ⟨rfl, b⟩
  by_cases h1 : 100 < n
  · clear h
    go_enter Try.func3, Try.ntmps3
    go_wp2_with fail
    refine KL.out.mono ?_
    rintro e w1 ⟨rfl, b⟩
    go_wp2_with fail
    go_ret
    exact ⟨rfl, b⟩
  have h2 : f < 0 := by omega
  clear h
  go_enter Try.func3, Try.ntmps3
  go_wp2_with fail
  refine KL.out.mono ?_
  rintro e w1 ⟨rfl, b⟩
  go_wp2_with fail
  go_ret
  exact ⟨rfl, b⟩

set_option maxRecDepth 100000 in
theorem fuse_of (n f : Int) (W : World) (_ : (Lit.int .i64 n).wf = true) (hf : (Lit.int .i64 f).wf = true) :
    Calls Try.prog 3 #[.int .i64 n, .int .i64 f] W fun e w' => e = .returned (.bool true) ∧ Below W.heap.size W w' := by
  by_cases hg : n < 0 ∨ 100 < n ∨ f < 0
  · exact fuse_else n f W hg
  · obtain ⟨a, rfl⟩ := Int.eq_ofNat_of_zero_le (show 0 ≤ n by omega)
    obtain ⟨b, rfl⟩ := Int.eq_ofNat_of_zero_le (show 0 ≤ f by omega)
    exact fuse_main a b (by omega) (by
      simp only [Lit.wf, Bool.and_eq_true, decide_eq_true_eq] at hf
      have h2 := hf.2
      rw [show IntKind.i64.max = 9223372036854775807 by decide] at h2
      exact h2) W

end Go.Proofs.Ytpmhjagmgjolmaa.Dk
