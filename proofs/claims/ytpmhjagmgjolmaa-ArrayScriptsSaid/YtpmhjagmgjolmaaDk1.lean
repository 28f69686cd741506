/- The walks of layer 9's small methods: works, check, New, Fail, Alive, Pending, and Write. -/
import Derived.Test.YtpmhjagmgjolmaaDk0
import Derived.Deep.QuietTactic
import Derived.BigQuiet
import Derived.Maps.AppendAt
import Derived.Deep.OwnRows
namespace Go.Proofs.Ytpmhjagmgjolmaa.Dk
open Go.RowKit

/-! works -/

theorem works_nil (w : World) : Calls Try.prog 52 #[.pointer none] w fun e w' => e = .returned (.int .i64 1) ∧ w = w' := by
  go_enter Try.func52, Try.ntmps52
  go_wp2
  go_ret
  exact ⟨rfl, rfl⟩

theorem works_gone (w : World) (g : Nat) (h : w.cell? ⟨g, 3, none⟩ = some (.bool true)) : Calls Try.prog 52 #[.pointer (some ⟨g, 0, none⟩)] w fun e w' => e = .returned (.int .i64 8) ∧ w = w' := by
  go_enter Try.func52, Try.ntmps52
  go_wp2
  go_ret
  exact ⟨rfl, rfl⟩

theorem works_ok (w : World) (g : Nat) (h : w.cell? ⟨g, 3, none⟩ = some (.bool false)) : Calls Try.prog 52 #[.pointer (some ⟨g, 0, none⟩)] w fun e w' => e = .returned (.int .i64 0) ∧ w = w' := by
  go_enter Try.func52, Try.ntmps52
  go_wp2
  go_ret
  exact ⟨rfl, rfl⟩

/-- Whether a disk works. -/
def worksE (m : Dsk) : Int := if m.gone = true then 8 else 0

theorem works_any {w : World} {g s : Nat} {wv : Value} {m : Dsk} (h : IsDisk w g s wv m) : Calls Try.prog 52 #[.pointer (some ⟨g, 0, none⟩)] w fun e w' => e = .returned (.int .i64 (worksE m)) ∧ w = w' := by
  obtain ⟨cap, _, _, _, _, h3, _⟩ := h.reads
  unfold worksE
  cases hg : m.gone with
  | true => rw [hg] at h3; exact works_gone w g h3
  | false => rw [hg] at h3; exact works_ok w g h3

/-! check -/

/-- Whether a text may go into a sector. -/
def checkE (m : Dsk) (n : Int) (len : Nat) : Int := if m.gone = true then 8 else if n < 0 ∨ (m.sec.length : Int) ≤ n then 1 else if m.size < len then 12 else 0

set_option maxHeartbeats 1000000 in
theorem check_nil (n : Int) (x : ByteArray) (w : World) : Calls Try.prog 51 #[.pointer none, .int .i64 n, .string x] w fun e w' => e = .returned (.int .i64 1) ∧ w = w' := by
  go_enter Try.func51, Try.ntmps51
  go_wp2_with (go_at_call 52; refine (works_nil _).mono ?_; rintro e w1 ⟨rfl, rfl⟩)
  go_ret
  exact ⟨rfl, rfl⟩

set_option maxHeartbeats 1000000 in
theorem check_gone (n : Int) (x : ByteArray) (w : World) (g : Nat) (h : w.cell? ⟨g, 3, none⟩ = some (.bool true)) :
    Calls Try.prog 51 #[.pointer (some ⟨g, 0, none⟩), .int .i64 n, .string x] w fun e w' => e = .returned (.int .i64 8) ∧ w = w' := by
  have HC := Lib.hid h
  clear h
  go_enter Try.func51, Try.ntmps51
  go_wp2_with (go_at_call 52; refine (works_gone _ _ HC.out).mono ?_; rintro e w1 ⟨rfl, rfl⟩)
  go_ret
  exact ⟨rfl, rfl⟩

set_option maxHeartbeats 1000000 in
theorem check_low (n : Int) (x : ByteArray) (w : World) (g : Nat) (h : w.cell? ⟨g, 3, none⟩ = some (.bool false)) (hn : n < 0) :
    Calls Try.prog 51 #[.pointer (some ⟨g, 0, none⟩), .int .i64 n, .string x] w fun e w' => e = .returned (.int .i64 1) ∧ w = w' := by
  have HC := Lib.hid h
  clear h
  go_enter Try.func51, Try.ntmps51
  go_wp2_with (go_at_call 52; refine (works_ok _ _ HC.out).mono ?_; rintro e w1 ⟨rfl, rfl⟩)
  go_ret
  exact ⟨rfl, rfl⟩

set_option maxHeartbeats 1000000 in
theorem check_high (n : Int) (x : ByteArray) (w : World) (g s k cap : Nat) (h : w.cell? ⟨g, 3, none⟩ = some (.bool false)) (h0 : w.cell? ⟨g, 0, none⟩ = some (.slice (some ⟨s, 0, none⟩) k cap)) (hn0 : 0 ≤ n) (hn : (k : Int) ≤ n) :
    Calls Try.prog 51 #[.pointer (some ⟨g, 0, none⟩), .int .i64 n, .string x] w fun e w' => e = .returned (.int .i64 1) ∧ w = w' := by
  have HC := Lib.hid h
  clear h
  go_enter Try.func51, Try.ntmps51
  go_wp2_with (go_at_call 52; refine (works_ok _ _ HC.out).mono ?_; rintro e w1 ⟨rfl, rfl⟩)
  go_ret
  exact ⟨rfl, rfl⟩

set_option maxHeartbeats 1000000 in
theorem check_big (n : Int) (x : ByteArray) (w : World) (g s k cap z : Nat) (h : w.cell? ⟨g, 3, none⟩ = some (.bool false)) (h0 : w.cell? ⟨g, 0, none⟩ = some (.slice (some ⟨s, 0, none⟩) k cap)) (h1 : w.cell? ⟨g, 1, none⟩ = some (.int .i64 (z : Int))) (hn0 : 0 ≤ n) (hn : n < (k : Int)) (hx : (z : Int) < (x.size : Int)) :
    Calls Try.prog 51 #[.pointer (some ⟨g, 0, none⟩), .int .i64 n, .string x] w fun e w' => e = .returned (.int .i64 12) ∧ w = w' := by
  have HC := Lib.hid h
  clear h
  go_enter Try.func51, Try.ntmps51
  go_wp2_with (go_at_call 52; refine (works_ok _ _ HC.out).mono ?_; rintro e w1 ⟨rfl, rfl⟩)
  go_ret
  exact ⟨rfl, rfl⟩

set_option maxHeartbeats 1000000 in
theorem check_fine (n : Int) (x : ByteArray) (w : World) (g s k cap z : Nat) (h : w.cell? ⟨g, 3, none⟩ = some (.bool false)) (h0 : w.cell? ⟨g, 0, none⟩ = some (.slice (some ⟨s, 0, none⟩) k cap)) (h1 : w.cell? ⟨g, 1, none⟩ = some (.int .i64 (z : Int))) (hn0 : 0 ≤ n) (hn : n < (k : Int)) (hx : (x.size : Int) ≤ (z : Int)) :
    Calls Try.prog 51 #[.pointer (some ⟨g, 0, none⟩), .int .i64 n, .string x] w fun e w' => e = .returned (.int .i64 0) ∧ w = w' := by
  have HC := Lib.hid h
  clear h
  go_enter Try.func51, Try.ntmps51
  go_wp2_with (go_at_call 52; refine (works_ok _ _ HC.out).mono ?_; rintro e w1 ⟨rfl, rfl⟩)
  go_ret
  exact ⟨rfl, rfl⟩

theorem check_any {w : World} {g s : Nat} {wv : Value} {m : Dsk} (h : IsDisk w g s wv m) (n : Int) (x : ByteArray) :
    Calls Try.prog 51 #[.pointer (some ⟨g, 0, none⟩), .int .i64 n, .string x] w fun e w' => e = .returned (.int .i64 (checkE m n x.size)) ∧ w = w' := by
  obtain ⟨cap, _, h0, h1, _, h3, _⟩ := h.reads
  unfold checkE
  cases hg : m.gone with
  | true => rw [hg] at h3; exact check_gone n x w g h3
  | false =>
    rw [hg] at h3
    rw [if_neg (by decide)]
    by_cases hn : n < 0
    · rw [if_pos (.inl hn)]; exact check_low n x w g h3 hn
    by_cases hn2 : (m.sec.length : Int) ≤ n
    · rw [if_pos (.inr hn2)]; exact check_high n x w g s _ cap h3 h0 (by omega) hn2
    rw [if_neg (by omega)]
    by_cases hx : m.size < x.size
    · rw [if_pos hx]; exact check_big n x w g s _ cap m.size h3 h0 h1 (by omega) (by omega) (by omega)
    · rw [if_neg hx]; exact check_fine n x w g s _ cap m.size h3 h0 h1 (by omega) (by omega) (by omega)

end Go.Proofs.Ytpmhjagmgjolmaa.Dk
