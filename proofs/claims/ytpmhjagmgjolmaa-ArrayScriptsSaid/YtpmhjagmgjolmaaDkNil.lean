/- DiskNil's walk. -/
import Derived.Test.YtpmhjagmgjolmaaDk8
import Derived.Test.YtpmhjagmgjolmaaArOps
namespace Go.Proofs.Ytpmhjagmgjolmaa.Dk
open Go.RowKit

theorem copy_nil (w : World) : Calls Try.prog 29 #[.pointer none] w fun e w' => e = .returned (.pointer none) ∧ w = w' := by
  go_enter Try.func29, Try.ntmps29
  go_wp2
  go_ret
  exact ⟨rfl, rfl⟩

theorem flush_nil (w : World) : Calls Try.prog 48 #[.pointer none] w fun e w' => e = .returned (.int .i64 1) ∧ w = w' := by
  go_enter Try.func48, Try.ntmps48
  go_wp2_with (go_at_call 52; refine (works_nil _).mono ?_; rintro e w1 ⟨rfl, rfl⟩)
  go_ret
  exact ⟨rfl, rfl⟩

set_option maxRecDepth 100000 in
set_option maxHeartbeats 1000000 in
theorem corrupt_nil (n : Int) (x : ByteArray) (w : World) : Calls Try.prog 39 #[.pointer none, .int .i64 n, .string x] w fun e w' => e = .returned (.int .i64 1) ∧ Below w.heap.size w w' := by
  have HC := Lib.hid (fun w => check_nil n x w)
  go_enter Try.func39, Try.ntmps39
  go_wp2_with (go_at_call 51; refine (HC.out _).mono ?_; rintro e w1 ⟨rfl, rfl⟩)
  go_ret
  exact ⟨rfl, (Below.refl _ w).alloc (Nat.le_refl _) _⟩

end Go.Proofs.Ytpmhjagmgjolmaa.Dk
