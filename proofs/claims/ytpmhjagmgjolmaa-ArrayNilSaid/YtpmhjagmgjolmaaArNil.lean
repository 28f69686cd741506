/- ArrayNil's walk. -/
import Derived.Test.YtpmhjagmgjolmaaArLive
namespace Go.Proofs.Ytpmhjagmgjolmaa.Dk
open Go.RowKit

set_option maxRecDepth 100000 in
set_option maxHeartbeats 4000000 in
theorem anil_of (d n : Int) (s : ByteArray) (W : World) (_ : (Lit.int .i64 d).wf = true) (_ : (Lit.int .i64 n).wf = true) (_ : s.size ≤ 140737488351232) :
    Calls Try.prog 8 #[.int .i64 d, .int .i64 n, .string s] W fun e w' => e = .returned (.bool true) ∧ Below W.heap.size W w' := by
  have K1 := Lib.hid (fun w => aread_nil d n w)
  have K2 := Lib.hid (fun w => awrite_nil d n s w)
  have K3 := Lib.hid (fun w => aflush_nil w)
  have K4 := Lib.hid (fun w => fuse_nil n w)
  have K5 := Lib.hid (fun w => acrash_nil (.slice none 0 0) w)
  have K6 := Lib.hid (fun w => afail_nil d w)
  have K7 := Lib.hid (fun w => areplace_nil d w)
  have K8 := Lib.hid (fun w => acorrupt_nil d n s w)
  have K9 := Lib.hid (fun w => aalive_nil d w)
  have K10 := Lib.hid (fun w => down_nil w)
  have K11 := Lib.hid (fun w => disks_nil w)
  have K12 := Lib.hid (fun w => acopy_nil w)
  have K13 := Lib.hid (fun w => live_true w)
  go_enter Try.func8, Try.ntmps8
  go_wp2_with fail
  refine (K1.out _).mono ?_
  rintro e w1 ⟨rfl, rfl⟩
  go_wp2_with fail
  refine (K2.out _).mono ?_
  rintro e w2 ⟨rfl, rfl⟩
  go_wp2_with fail
  refine (K3.out _).mono ?_
  rintro e w2 ⟨rfl, rfl⟩
  go_wp2_with fail
  refine (K4.out _).mono ?_
  rintro e w2 ⟨rfl, rfl⟩
  go_wp2_with fail
  refine (K5.out _).mono ?_
  rintro e w2 ⟨rfl, rfl⟩
  go_wp2_with fail
  refine (K6.out _).mono ?_
  rintro e w2 ⟨rfl, rfl⟩
  go_wp2_with fail
  refine (K7.out _).mono ?_
  rintro e w2 ⟨rfl, rfl⟩
  go_wp2_with fail
  refine (K8.out _).mono ?_
  rintro e w2 ⟨rfl, b8⟩
  have B8 := Lib.hid b8
  clear b8
  go_wp2_with fail
  refine (K9.out _).mono ?_
  rintro e w3 ⟨rfl, rfl⟩
  go_wp2_with fail
  refine (K10.out _).mono ?_
  rintro e w3 ⟨rfl, rfl⟩
  go_wp2_with fail
  refine (K11.out _).mono ?_
  rintro e w3 ⟨rfl, rfl⟩
  go_wp2_with fail
  refine (K12.out _).mono ?_
  rintro e w3 ⟨rfl, rfl⟩
  go_wp2_with fail
  refine (K13.out _).mono ?_
  rintro e w3 ⟨rfl, b3⟩
  have B3 := Lib.hid b3
  clear b3
  go_wp2_with fail
  go_ret
  exact ⟨rfl, B8.out.trans (B3.out.mono B8.out.size)⟩

end Go.Proofs.Ytpmhjagmgjolmaa.Dk
