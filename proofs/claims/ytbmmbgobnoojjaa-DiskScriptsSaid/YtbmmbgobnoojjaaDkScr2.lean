/- DiskScripts: its other inputs. -/
import Derived.Test.YtbmmbgobnoojjaaDkScr
namespace Go.Proofs.Ytbmmbgobnoojjaa.Dk
open Go.RowKit

set_option maxHeartbeats 4000000 in
theorem scripts_else (n z : Int) (A : Option Addr) (l c : Nat) (w : World) (h : (40 < n ∧ n ≤ 4096) ∨ 40 < (l : Int)) : Calls Try.prog 7 #[.int .i64 n, .int .i64 z, .slice A l c] w fun e w' => e = .returned (.bool true) ∧ Below w.heap.size w w' := by
  have KL := Lib.hid (fun w => live_true w)
  by_cases h1 : 40 < n ∧ n ≤ 4096
  · clear h
    obtain ⟨h1, h2⟩ := h1
    go_enter Try.func7, Try.ntmps7
    go_wp2_with fail
    refine (KL.out _).mono ?_
    rintro e w1 ⟨rfl, b⟩
    go_wp2_with fail
    go_ret
    exact ⟨rfl, b⟩
  have h3 : 40 < (l : Int) := by omega
  clear h
  by_cases h4 : 40 < n
  · have h5 : 4096 < n := by omega
    clear h1
    go_enter Try.func7, Try.ntmps7
    go_wp2_with fail
    refine (KL.out _).mono ?_
    rintro e w1 ⟨rfl, b⟩
    go_wp2_with fail
    go_ret
    exact ⟨rfl, b⟩
  · clear h1
    go_enter Try.func7, Try.ntmps7
    go_wp2_with fail
    refine (KL.out _).mono ?_
    rintro e w1 ⟨rfl, b⟩
    go_wp2_with fail
    go_ret
    exact ⟨rfl, b⟩

set_option maxHeartbeats 4000000 in
theorem scripts_none (n z : Int) (hno : ¬ newOk n z) (A : Option Addr) (l c : Nat) (w : World) (hg : ¬ (40 < n ∧ n ≤ 4096)) (hl : ¬ 40 < (l : Int)) : Calls Try.prog 7 #[.int .i64 n, .int .i64 z, .slice A l c] w fun e w' => e = .returned (.bool true) ∧ Below w.heap.size w w' := by
  have KL := Lib.hid (fun w => live_true w)
  have K1 := Lib.hid (fun w => new_no n z hno w)
  have K2 := Lib.hid (fun w => rnew_no n z hno w)
  clear hno
  by_cases h1 : 40 < n
  · have h2 : ¬ n ≤ 4096 := by omega
    clear hg
    go_enter Try.func7, Try.ntmps7
    go_wp2_with fail
    refine (K1.out _).mono ?_
    rintro e w1 ⟨rfl, rfl⟩
    go_wp2_with fail
    refine (K2.out _).mono ?_
    rintro e w1 ⟨rfl, rfl⟩
    go_wp2_with fail
    refine (KL.out _).mono ?_
    rintro e w1 ⟨rfl, b⟩
    go_wp2_with fail
    go_ret
    exact ⟨rfl, b⟩
  · clear hg
    go_enter Try.func7, Try.ntmps7
    go_wp2_with fail
    refine (K1.out _).mono ?_
    rintro e w1 ⟨rfl, rfl⟩
    go_wp2_with fail
    refine (K2.out _).mono ?_
    rintro e w1 ⟨rfl, rfl⟩
    go_wp2_with fail
    refine (KL.out _).mono ?_
    rintro e w1 ⟨rfl, b⟩
    go_wp2_with fail
    go_ret
    exact ⟨rfl, b⟩

theorem scripts_of (n z : Int) (A : Option Addr) (l c : Nat) (os : List Op) (W : World) (_ : (Lit.int .i64 n).wf = true) (_ : (Lit.int .i64 z).wf = true) (h : os.length = l ∧ RowOps W A os) :
    Calls Try.prog 7 #[.int .i64 n, .int .i64 z, .slice A l c] W fun e w' => e = .returned (.bool true) ∧ Below W.heap.size W w' := by
  obtain ⟨rfl, hr⟩ := h
  by_cases hg : (40 < n ∧ n ≤ 4096) ∨ 40 < (os.length : Int)
  · exact scripts_else n z A _ c W hg
  by_cases hk : newOk n z
  · have hk' := hk
    unfold newOk at hk'
    obtain ⟨a, rfl⟩ := Int.eq_ofNat_of_zero_le (show 0 ≤ n by omega)
    obtain ⟨b, rfl⟩ := Int.eq_ofNat_of_zero_le (show 0 ≤ z by omega)
    exact scripts_main a b (by omega) (by omega) (by omega) (by omega) A c os (by omega) W hr
  · exact scripts_none n z hk A _ c W (by omega) (by omega)

end Go.Proofs.Ytbmmbgobnoojjaa.Dk
