/- DiskNil's walk. -/
import Derived.Test.YtbmmbgobnoojjaaDk9
import Derived.Test.YtbmmbgobnoojjaaDkOps
namespace Go.Proofs.Ytbmmbgobnoojjaa.Dk
open Go.RowKit

theorem copy_nil (w : World) : Calls Try.prog 17 #[.pointer none] w fun e w' => e = .returned (.pointer none) ∧ w = w' := by
  go_enter Try.func17, Try.ntmps17
  go_wp2
  go_ret
  exact ⟨rfl, rfl⟩

theorem flush_nil (w : World) : Calls Try.prog 19 #[.pointer none] w fun e w' => e = .returned (.int .i64 1) ∧ w = w' := by
  go_enter Try.func19, Try.ntmps19
  go_wp2_with (go_at_call 27; refine (works_nil _).mono ?_; rintro e w1 ⟨rfl, rfl⟩)
  go_ret
  exact ⟨rfl, rfl⟩

set_option maxHeartbeats 1000000 in
theorem corrupt_nil (n : Int) (x : ByteArray) (w : World) : Calls Try.prog 23 #[.pointer none, .int .i64 n, .string x] w fun e w' => e = .returned (.int .i64 1) ∧ Below w.heap.size w w' := by
  have HC := Lib.hid (fun w => check_nil n x w)
  go_enter Try.func23, Try.ntmps23
  go_wp2_with (go_at_call 24; refine (HC.out _).mono ?_; rintro e w1 ⟨rfl, rfl⟩)
  go_ret
  exact ⟨rfl, (Below.refl _ w).alloc (Nat.le_refl _) _⟩

set_option maxHeartbeats 4000000 in
theorem nil_true (n : Int) (x : ByteArray) (A : Option Addr) (l c : Nat) (w : World) : Calls Try.prog 8 #[.int .i64 n, .string x, .slice A l c] w fun e w' => e = .returned (.bool true) ∧ Below w.heap.size w w' := by
  have K1 := Lib.hid (fun w => readNil w n)
  have K2 := Lib.hid (fun w => write_nil n x w)
  have K3 := Lib.hid (fun w => flush_nil w)
  have K4 := Lib.hid (fun w => crash_nil (.slice A l c) w)
  have K5 := Lib.hid (fun w => fail_nil w)
  have K6 := Lib.hid (fun w => replace_nil w)
  have K7 := Lib.hid (fun w => corrupt_nil n x w)
  have K8 := Lib.hid (fun w => pending_nil w)
  have K9 := Lib.hid (fun w => alive_nil w)
  have K10 := Lib.hid (fun w => copy_nil w)
  have K11 := Lib.hid (fun w => live_true w)
  go_enter Try.func8, Try.ntmps8
  go_wp2_with fail
  refine (K1.out _).mono ?_
  rintro e w1 ⟨rfl, b1⟩
  go_wp2_with fail
  refine (K2.out _).mono ?_
  rintro e w2 ⟨rfl, rfl⟩
  go_wp2_with fail
  refine (K3.out _).mono ?_
  rintro e w2 ⟨rfl, rfl⟩
  go_wp2_with fail
  refine (K4.out _).mono ?_
  rintro e w2 ⟨rfl, rfl⟩
  go_wp2_with fail
  refine (K5.out _).mono ?_
  rintro e w2 ⟨rfl, rfl⟩
  go_wp2_with fail
  refine (K6.out _).mono ?_
  rintro e w2 ⟨rfl, rfl⟩
  go_wp2_with fail
  refine (K7.out _).mono ?_
  rintro e w2 ⟨rfl, b2⟩
  go_wp2_with fail
  refine (K8.out _).mono ?_
  rintro e w3 ⟨rfl, rfl⟩
  go_wp2_with fail
  refine (K9.out _).mono ?_
  rintro e w3 ⟨rfl, rfl⟩
  go_wp2_with fail
  refine (K10.out _).mono ?_
  rintro e w3 ⟨rfl, rfl⟩
  go_wp2_with fail
  refine (K11.out _).mono ?_
  rintro e w3 ⟨rfl, b3⟩
  go_wp2_with fail
  go_ret
  have b12 := b1.trans (b2.mono b1.size)
  exact ⟨rfl, b12.trans (b3.mono b12.size)⟩

theorem nil_of (n : Int) (x : ByteArray) (A : Option Addr) (l c : Nat) (bs : List Bool) (W : World) (_ : (Lit.int .i64 n).wf = true) (_ : x.size ≤ 140737488351232) (_ : bs.length = l ∧ RowBools W A bs) :
    Calls Try.prog 8 #[.int .i64 n, .string x, .slice A l c] W fun e w' => e = .returned (.bool true) ∧ Below W.heap.size W w' := nil_true n x A l c W

end Go.Proofs.Ytbmmbgobnoojjaa.Dk
