/- The walks of New, Fail, Alive, Pending, Write of layer 9. -/
import Derived.Test.YtpmhjagmgjolmaaDk1
namespace Go.Proofs.Ytpmhjagmgjolmaa.Dk
open Go.RowKit

/-! New -/

/-- Whether a disk may be made. -/
def newOk (n z : Int) : Prop := 1 ≤ n ∧ n ≤ 4096 ∧ 1 ≤ z ∧ z ≤ 4096

def blank (n z : Nat) : Dsk := { sec := List.replicate n ByteArray.empty, size := z, wait := [], gone := false }

theorem strInfo : (Try.prog.info? 9).map (fun i => (i.zero, i.size, i.bytes)) = some (some (.string ByteArray.empty), 1, 16) := by kernel_rfl

set_option maxHeartbeats 1000000 in
theorem new_no (n z : Int) (h : ¬ newOk n z) (w : World) : Calls Try.prog 26 #[.int .i64 n, .int .i64 z] w fun e w' => e = .returned (.tuple #[.pointer none, .int .i64 1]) ∧ w = w' := by
  unfold newOk at h
  by_cases h1 : n < 1
  · go_enter Try.func26, Try.ntmps26
    go_wp2
    go_ret2
    exact ⟨rfl, rfl⟩
  by_cases h2 : 4096 < n
  · go_enter Try.func26, Try.ntmps26
    go_wp2
    go_ret2
    exact ⟨rfl, rfl⟩
  by_cases h3 : z < 1
  · go_enter Try.func26, Try.ntmps26
    go_wp2
    go_ret2
    exact ⟨rfl, rfl⟩
  have h4 : 4096 < z := by omega
  clear h
  go_enter Try.func26, Try.ntmps26
  go_wp2
  go_ret2
  exact ⟨rfl, rfl⟩

theorem IsDisk.made (w : World) (n z : Nat) (h1 : 1 ≤ n) (h2 : n ≤ 4096) (h4 : z ≤ 4096) :
    IsDisk ((w.alloc (.cells (madeCells #[.string ByteArray.empty] n) 9)).alloc (.cells #[.slice (some ⟨w.heap.size, 0, none⟩) n n, .int .i64 (z : Int), .slice none 0 0, .bool false] 72)) (w.heap.size + 1) w.heap.size (.slice none 0 0) (blank n z) := by
  refine ⟨⟨n, ?_, ?_⟩, World.ownsRow_nil _ _ _ _, by simp [blank], by simp [blank]; omega, by simp [blank]; omega, by simp [blank]; omega⟩
  · have := heap_alloc2_new w (.cells (madeCells #[.string ByteArray.empty] n) 9) (.cells #[.slice (some ⟨w.heap.size, 0, none⟩) n n, .int .i64 (z : Int), .slice none 0 0, .bool false] 72)
    simpa [blank] using this
  · have := World.ownsRow_lit (e := 9) (base := 0) (size := 1) w (madeCells #[.string ByteArray.empty] n) n (Nat.zero_le _) (by unfold maxLen; omega) (by rw [size_madeCells]; omega)
    rw [toList_madeCells_one] at this
    have h := this.alloc (.cells #[.slice (some ⟨w.heap.size, 0, none⟩) n n, .int .i64 (z : Int), .slice none 0 0, .bool false] 72)
    simpa [blank] using h

set_option maxHeartbeats 1000000 in
theorem new_yes (n z : Nat) (h1 : 1 ≤ n) (h2 : n ≤ 4096) (h3 : 1 ≤ z) (h4 : z ≤ 4096) (w : World) :
    Calls Try.prog 26 #[.int .i64 (n : Int), .int .i64 (z : Int)] w fun e w' => e = .returned (.tuple #[.pointer (some ⟨w.heap.size + 1, 0, none⟩), .int .i64 0]) ∧ IsDisk w' (w.heap.size + 1) w.heap.size (.slice none 0 0) (blank n z) ∧ Fr fresh w w' := by
  have hmk := run_make_row' (P := Try.prog) 48 9 (.string ByteArray.empty) 16 Try.underlying48 strInfo rfl .i64 .i64 n (by omega) (by omega)
  have g1 : ¬ (n : Int) < 1 := by omega
  have g2 : ¬ 4096 < (n : Int) := by omega
  have g3 : ¬ (z : Int) < 1 := by omega
  have g4 : ¬ 4096 < (z : Int) := by omega
  go_enter Try.func26, Try.ntmps26
  go_wp2
  go_ret2
  exact ⟨rfl, IsDisk.made w n z h1 h2 h4, ((Fr.refl _ _).alloc _).alloc _⟩

end Go.Proofs.Ytpmhjagmgjolmaa.Dk
