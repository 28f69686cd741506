/- ArrayScripts: its other inputs. -/
import Derived.Test.YtpmhjagmgjolmaaArScr
namespace Go.Proofs.Ytpmhjagmgjolmaa.Dk
open Go.RowKit

set_option maxRecDepth 100000 in
set_option maxHeartbeats 8000000 in
theorem ascripts_else (d n : Int) (A : Option Addr) (l c : Nat) (w : World) (h : (8 < d ∧ d ≤ 255) ∨ (10 < n ∧ n ≤ 4096) ∨ 30 < (l : Int)) : Calls Try.prog 7 #[.int .i64 d, .int .i64 n, .slice A l c] w fun e w' => e = .returned (.bool true) ∧ Below w.heap.size w w' := by
  have KL := Lib.hid (fun w => live_true w)
  by_cases a1 : 8 < d
  · by_cases a2 : d ≤ 255
    · clear h
      skip
      go_enter Try.func7, Try.ntmps7
      go_wp2_with fail
      refine (KL.out _).mono ?_
      rintro e w1 ⟨rfl, b⟩
      go_wp2_with fail
      go_ret
      exact ⟨rfl, b⟩
    · have a3 : 255 < d := by omega
      by_cases b1 : 10 < n
      · by_cases b2 : n ≤ 4096
        · clear h
          skip
          go_enter Try.func7, Try.ntmps7
          go_wp2_with fail
          refine (KL.out _).mono ?_
          rintro e w1 ⟨rfl, b⟩
          go_wp2_with fail
          go_ret
          exact ⟨rfl, b⟩
        · have b3 : 4096 < n := by omega
          have l1 : 30 < (l : Int) := by omega
          clear h
          go_enter Try.func7, Try.ntmps7
          go_wp2_with fail
          refine (KL.out _).mono ?_
          rintro e w1 ⟨rfl, b⟩
          go_wp2_with fail
          go_ret
          exact ⟨rfl, b⟩
      · have l1 : 30 < (l : Int) := by omega
        clear h
        go_enter Try.func7, Try.ntmps7
        go_wp2_with fail
        refine (KL.out _).mono ?_
        rintro e w1 ⟨rfl, b⟩
        go_wp2_with fail
        go_ret
        exact ⟨rfl, b⟩
  · by_cases b1 : 10 < n
    · by_cases b2 : n ≤ 4096
      · clear h
        skip
        go_enter Try.func7, Try.ntmps7
        go_wp2_with fail
        refine (KL.out _).mono ?_
        rintro e w1 ⟨rfl, b⟩
        go_wp2_with fail
        go_ret
        exact ⟨rfl, b⟩
      · have b3 : 4096 < n := by omega
        have l1 : 30 < (l : Int) := by omega
        clear h
        go_enter Try.func7, Try.ntmps7
        go_wp2_with fail
        refine (KL.out _).mono ?_
        rintro e w1 ⟨rfl, b⟩
        go_wp2_with fail
        go_ret
        exact ⟨rfl, b⟩
    · have l1 : 30 < (l : Int) := by omega
      clear h
      go_enter Try.func7, Try.ntmps7
      go_wp2_with fail
      refine (KL.out _).mono ?_
      rintro e w1 ⟨rfl, b⟩
      go_wp2_with fail
      go_ret
      exact ⟨rfl, b⟩

set_option maxRecDepth 100000 in
set_option maxHeartbeats 8000000 in
theorem ascripts_none (d n : Int) (hno : ¬ anewOk d n 8) (A : Option Addr) (l c : Nat) (w : World) (h : ¬ ((8 < d ∧ d ≤ 255) ∨ (10 < n ∧ n ≤ 4096) ∨ 30 < (l : Int))) : Calls Try.prog 7 #[.int .i64 d, .int .i64 n, .slice A l c] w fun e w' => e = .returned (.bool true) ∧ Below w.heap.size w w' := by
  have KL := Lib.hid (fun w => live_true w)
  have K1 := Lib.hid (fun w => anew_no d n 8 hno w)
  have K2 := Lib.hid (fun w => ranew_no d n 8 hno w)
  have l1 : ¬ 30 < (l : Int) := by omega
  clear hno
  by_cases a1 : 8 < d
  · have a3 : 255 < d := by omega
    by_cases b1 : 10 < n
    · have b3 : 4096 < n := by omega
      clear h
      go_enter Try.func7, Try.ntmps7
      go_wp2_with fail
      refine (K1.out _).mono ?_
      rintro e w1 ⟨rfl, f1⟩
      have F1 := Lib.hid f1
      clear f1
      go_wp2_with fail
      refine (K2.out _).mono ?_
      rintro e w2 ⟨rfl, f2⟩
      have F2 := Lib.hid f2
      clear f2
      go_wp2_with fail
      refine (KL.out _).mono ?_
      rintro e w3 ⟨rfl, b⟩
      have B3 := Lib.hid b
      clear b
      go_wp2_with fail
      go_ret
      have hb : Below w.heap.size w w2 := (F1.out.trans F2.out).below (Nat.le_refl _) (fun _ h => h.elim)
      exact ⟨rfl, hb.trans (B3.out.mono hb.size)⟩
    · clear h
      skip
      go_enter Try.func7, Try.ntmps7
      go_wp2_with fail
      refine (K1.out _).mono ?_
      rintro e w1 ⟨rfl, f1⟩
      have F1 := Lib.hid f1
      clear f1
      go_wp2_with fail
      refine (K2.out _).mono ?_
      rintro e w2 ⟨rfl, f2⟩
      have F2 := Lib.hid f2
      clear f2
      go_wp2_with fail
      refine (KL.out _).mono ?_
      rintro e w3 ⟨rfl, b⟩
      have B3 := Lib.hid b
      clear b
      go_wp2_with fail
      go_ret
      have hb : Below w.heap.size w w2 := (F1.out.trans F2.out).below (Nat.le_refl _) (fun _ h => h.elim)
      exact ⟨rfl, hb.trans (B3.out.mono hb.size)⟩
  · by_cases b1 : 10 < n
    · have b3 : 4096 < n := by omega
      clear h
      go_enter Try.func7, Try.ntmps7
      go_wp2_with fail
      refine (K1.out _).mono ?_
      rintro e w1 ⟨rfl, f1⟩
      have F1 := Lib.hid f1
      clear f1
      go_wp2_with fail
      refine (K2.out _).mono ?_
      rintro e w2 ⟨rfl, f2⟩
      have F2 := Lib.hid f2
      clear f2
      go_wp2_with fail
      refine (KL.out _).mono ?_
      rintro e w3 ⟨rfl, b⟩
      have B3 := Lib.hid b
      clear b
      go_wp2_with fail
      go_ret
      have hb : Below w.heap.size w w2 := (F1.out.trans F2.out).below (Nat.le_refl _) (fun _ h => h.elim)
      exact ⟨rfl, hb.trans (B3.out.mono hb.size)⟩
    · clear h
      skip
      go_enter Try.func7, Try.ntmps7
      go_wp2_with fail
      refine (K1.out _).mono ?_
      rintro e w1 ⟨rfl, f1⟩
      have F1 := Lib.hid f1
      clear f1
      go_wp2_with fail
      refine (K2.out _).mono ?_
      rintro e w2 ⟨rfl, f2⟩
      have F2 := Lib.hid f2
      clear f2
      go_wp2_with fail
      refine (KL.out _).mono ?_
      rintro e w3 ⟨rfl, b⟩
      have B3 := Lib.hid b
      clear b
      go_wp2_with fail
      go_ret
      have hb : Below w.heap.size w w2 := (F1.out.trans F2.out).below (Nat.le_refl _) (fun _ h => h.elim)
      exact ⟨rfl, hb.trans (B3.out.mono hb.size)⟩

set_option maxRecDepth 100000 in
theorem ascripts_of (d n : Int) (A : Option Addr) (l c : Nat) (os : List Op) (W : World) (_ : (Lit.int .i64 d).wf = true) (_ : (Lit.int .i64 n).wf = true) (h : os.length = l ∧ RowOps2 W A os) :
    Calls Try.prog 7 #[.int .i64 d, .int .i64 n, .slice A l c] W fun e w' => e = .returned (.bool true) ∧ Below W.heap.size W w' := by
  obtain ⟨rfl, hr⟩ := h
  by_cases hg : (8 < d ∧ d ≤ 255) ∨ (10 < n ∧ n ≤ 4096) ∨ 30 < (os.length : Int)
  · exact ascripts_else d n A _ c W hg
  by_cases hk : anewOk d n 8
  · have hk' := hk
    unfold anewOk newOk at hk'
    obtain ⟨a, rfl⟩ := Int.eq_ofNat_of_zero_le (show 0 ≤ d by omega)
    obtain ⟨b, rfl⟩ := Int.eq_ofNat_of_zero_le (show 0 ≤ n by omega)
    exact ascripts_main a b (by omega) (by omega) (by omega) (by omega) A c os (by omega) W hr
  · exact ascripts_none d n hk A _ c W hg

end Go.Proofs.Ytpmhjagmgjolmaa.Dk
