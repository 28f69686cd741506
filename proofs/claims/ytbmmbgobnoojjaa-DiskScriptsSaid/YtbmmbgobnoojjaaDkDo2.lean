/- does of layer 9: its other cases. -/
import Derived.Test.YtbmmbgobnoojjaaDkDo
namespace Go.Proofs.Ytbmmbgobnoojjaa.Dk
open Go.RowKit

set_option maxHeartbeats 4000000 in
theorem does_flush {w0 w : World} {g r : Nat} {m : Dsk} (h : Law w0 w (Both (D g m) (R r m))) (hmany : m.wait.length ≤ 1000000) (n : Int) (s : ByteArray) (K : Option Addr) (l c : Nat) :
    Calls Try.prog 21 #[.pointer (some ⟨g, 0, none⟩), .pointer (some ⟨r, 0, none⟩), .agg #[.int .i64 2, .int .i64 n, .string s, .slice K l c]] w fun e w' => e = .returned (.bool true) ∧ Law w0 w' (Both (D g (flushed m)) (R r (flushed m))) := by
  have hL : Law w0 (w.alloc (.cells #[.int .i64 2, .int .i64 n, .string s, .slice K l c] 31)) (Both (Both (D g m) (R r m)) (OpT w.heap.size (.int .i64 2) (.int .i64 n) (.string s) (.slice K l c))) := by
    obtain ⟨S, hA, hn, hb⟩ := h
    exact Law.step hn hb (Made.with (Both.res (D.res _ _) (R.res _ _)) hA (OpT.made w _ _ _ _))
  have K1 := Lib.hid (fun w' (hl : Law w0 w' (Both (Both (D g m) (R r m)) (OpT w.heap.size (.int .i64 2) (.int .i64 n) (.string s) (.slice K l c)))) => hl.op (op_left (OpT.res _ _ _ _ _) (op_left (R.res _ _) (flush_at hmany))))
  have K2 := Lib.hid (fun w' (hl : Law w0 w' (Both (Both (D g (flushed m)) (R r m)) (OpT w.heap.size (.int .i64 2) (.int .i64 n) (.string s) (.slice K l c)))) => hl.op (op_left (OpT.res _ _ _ _ _) (op_right (D.res _ _) rflush_at)))
  clear h
  go_enter Try.func21, Try.ntmps21
  go_wp2_with fail
  refine (K1.out _ hL).mono ?_
  rintro e w2 ⟨rfl, hl2⟩
  go_wp2_with fail
  refine (K2.out _ hl2).mono ?_
  rintro e w3 ⟨rfl, hl3⟩
  go_wp2_with fail
  go_ret
  exact ⟨rfl, hl3.drop⟩

set_option maxHeartbeats 4000000 in
theorem does_fail {w0 w : World} {g r : Nat} {m : Dsk} (h : Law w0 w (Both (D g m) (R r m))) (n : Int) (s : ByteArray) (K : Option Addr) (l c : Nat) :
    Calls Try.prog 21 #[.pointer (some ⟨g, 0, none⟩), .pointer (some ⟨r, 0, none⟩), .agg #[.int .i64 5, .int .i64 n, .string s, .slice K l c]] w fun e w' => e = .returned (.bool true) ∧ Law w0 w' (Both (D g { m with gone := true, wait := [] }) (R r { m with gone := true, wait := [] })) := by
  have hL : Law w0 (w.alloc (.cells #[.int .i64 5, .int .i64 n, .string s, .slice K l c] 31)) (Both (Both (D g m) (R r m)) (OpT w.heap.size (.int .i64 5) (.int .i64 n) (.string s) (.slice K l c))) := by
    obtain ⟨S, hA, hn, hb⟩ := h
    exact Law.step hn hb (Made.with (Both.res (D.res _ _) (R.res _ _)) hA (OpT.made w _ _ _ _))
  have K1 := Lib.hid (fun w' (hl : Law w0 w' (Both (Both (D g m) (R r m)) (OpT w.heap.size (.int .i64 5) (.int .i64 n) (.string s) (.slice K l c)))) => hl.op (op_left (OpT.res _ _ _ _ _) (op_left (R.res _ _) fail_step)))
  have K2 := Lib.hid (fun w' (hl : Law w0 w' (Both (Both (D g { m with gone := true, wait := [] }) (R r m)) (OpT w.heap.size (.int .i64 5) (.int .i64 n) (.string s) (.slice K l c)))) => hl.op (op_left (OpT.res _ _ _ _ _) (op_right (D.res _ _) rfail_at)))
  clear h
  go_enter Try.func21, Try.ntmps21
  go_wp2_with fail
  refine (K1.out _ hL).mono ?_
  rintro e w2 ⟨rfl, hl2⟩
  go_wp2_with fail
  refine (K2.out _ hl2).mono ?_
  rintro e w3 ⟨rfl, hl3⟩
  go_wp2_with fail
  go_ret
  exact ⟨rfl, hl3.drop⟩

set_option maxHeartbeats 4000000 in
theorem does_replace {w0 w : World} {g r : Nat} {m : Dsk} (h : Law w0 w (Both (D g m) (R r m))) (n : Int) (s : ByteArray) (K : Option Addr) (l c : Nat) :
    Calls Try.prog 21 #[.pointer (some ⟨g, 0, none⟩), .pointer (some ⟨r, 0, none⟩), .agg #[.int .i64 6, .int .i64 n, .string s, .slice K l c]] w fun e w' => e = .returned (.bool true) ∧ Law w0 w' (Both (D g { m with gone := false, wait := [], sec := List.replicate m.sec.length ByteArray.empty }) (R r { m with gone := false, wait := [], sec := List.replicate m.sec.length ByteArray.empty })) := by
  have hL : Law w0 (w.alloc (.cells #[.int .i64 6, .int .i64 n, .string s, .slice K l c] 31)) (Both (Both (D g m) (R r m)) (OpT w.heap.size (.int .i64 6) (.int .i64 n) (.string s) (.slice K l c))) := by
    obtain ⟨S, hA, hn, hb⟩ := h
    exact Law.step hn hb (Made.with (Both.res (D.res _ _) (R.res _ _)) hA (OpT.made w _ _ _ _))
  have K1 := Lib.hid (fun w' (hl : Law w0 w' (Both (Both (D g m) (R r m)) (OpT w.heap.size (.int .i64 6) (.int .i64 n) (.string s) (.slice K l c)))) => hl.op (op_left (OpT.res _ _ _ _ _) (op_left (R.res _ _) replace_step)))
  have K2 := Lib.hid (fun w' (hl : Law w0 w' (Both (Both (D g { m with gone := false, wait := [], sec := List.replicate m.sec.length ByteArray.empty }) (R r m)) (OpT w.heap.size (.int .i64 6) (.int .i64 n) (.string s) (.slice K l c)))) => hl.op (op_left (OpT.res _ _ _ _ _) (op_right (D.res _ _) rreplace_at)))
  clear h
  go_enter Try.func21, Try.ntmps21
  go_wp2_with fail
  refine (K1.out _ hL).mono ?_
  rintro e w2 ⟨rfl, hl2⟩
  go_wp2_with fail
  refine (K2.out _ hl2).mono ?_
  rintro e w3 ⟨rfl, hl3⟩
  go_wp2_with fail
  go_ret
  exact ⟨rfl, hl3.drop⟩

set_option maxHeartbeats 4000000 in
theorem does_corrupt {w0 w : World} {g r : Nat} {m : Dsk} (h : Law w0 w (Both (D g m) (R r m))) (hmany : m.wait.length ≤ 1000000) (n : Int) (s : ByteArray) (K : Option Addr) (l c : Nat) :
    Calls Try.prog 21 #[.pointer (some ⟨g, 0, none⟩), .pointer (some ⟨r, 0, none⟩), .agg #[.int .i64 4, .int .i64 n, .string s, .slice K l c]] w fun e w' => e = .returned (.bool true) ∧ Law w0 w' (Both (D g (corrupted m n s)) (R r (corrupted m n s))) := by
  have hL : Law w0 (w.alloc (.cells #[.int .i64 4, .int .i64 n, .string s, .slice K l c] 31)) (Both (Both (D g m) (R r m)) (OpT w.heap.size (.int .i64 4) (.int .i64 n) (.string s) (.slice K l c))) := by
    obtain ⟨S, hA, hn, hb⟩ := h
    exact Law.step hn hb (Made.with (Both.res (D.res _ _) (R.res _ _)) hA (OpT.made w _ _ _ _))
  have hLd := hL.drew (Both.res (Both.res (D.res _ _) (R.res _ _)) (OpT.res _ _ _ _ _))
  have hC0 : OpC (w.alloc (.cells #[.int .i64 4, .int .i64 n, .string s, .slice K l c] 31)).drew w.heap.size (.int .i64 4) (.int .i64 n) (.string s) (.slice K l c) := hLd.opC
  have d1 : ∀ w', OpC w' w.heap.size (.int .i64 4) (.int .i64 n) (.string s) (.slice K l c) → w'.cell? ⟨w.heap.size, 1, none⟩ = some (.int .i64 n) := fun w' hc => cell_of_row _ _ 1 _ _ _ hc
  have d2 : ∀ w', OpC w' w.heap.size (.int .i64 4) (.int .i64 n) (.string s) (.slice K l c) → w'.cell? ⟨w.heap.size, 2, none⟩ = some (.string s) := fun w' hc => cell_of_row _ _ 2 _ _ _ hc
  have K1 := Lib.hid (fun w' (hl : Law w0 w' (Both (Both (D g m) (R r m)) (OpT w.heap.size (.int .i64 4) (.int .i64 n) (.string s) (.slice K l c)))) => hl.op (op_left (OpT.res _ _ _ _ _) (op_left (R.res _ _) (corrupt_at n s hmany))))
  have K2 := Lib.hid (fun w' (hl : Law w0 w' (Both (Both (D g (corrupted m n s)) (R r m)) (OpT w.heap.size (.int .i64 4) (.int .i64 n) (.string s) (.slice K l c)))) => hl.op (op_left (OpT.res _ _ _ _ _) (op_right (D.res _ _) (rcorrupt_at n s hmany))))
  clear h hL
  go_enter Try.func21, Try.ntmps21
  go_wp2_with fail
  go_region_held3 (fun w' => OpC w' w.heap.size (.int .i64 4) (.int .i64 n) (.string s) (.slice K l c)) (first | assumption)
    (first | (go_at_call 23; refine (K1.out _ (by assumption)).mono ?_; rintro e w2 ⟨rfl, hl2⟩; have hc2 := hl2.opC) | (go_at_call 34; refine (K2.out _ (by assumption)).mono ?_; rintro e w3 ⟨rfl, hl3⟩; have hc3 := hl3.opC))
  all_goals
    go_wp2
    go_ret
    exact ⟨rfl, hl3.drop⟩

end Go.Proofs.Ytbmmbgobnoojjaa.Dk
