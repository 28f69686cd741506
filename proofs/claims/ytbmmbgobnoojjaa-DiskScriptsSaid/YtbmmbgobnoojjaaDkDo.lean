/- does of layer 9: a call on a disk and on the document's: both tell the same, and both stay at one plain disk. -/
import Derived.Test.YtbmmbgobnoojjaaDkR4
import Derived.Test.YtbmmbgobnoojjaaDkNone
import Derived.Deep.RegionHeld3
namespace Go.Proofs.Ytbmmbgobnoojjaa.Dk
open Go.RowKit

/-- A plain disk behind a call. -/
def did (m : Dsk) (o : Op) : Dsk :=
  if o.what = 0 then wrote m o.n o.s else if o.what = 1 then m else if o.what = 2 then flushed m else if o.what = 3 then crashed m o.keep else if o.what = 4 then corrupted m o.n o.s
  else if o.what = 5 then { m with gone := true, wait := [] } else if o.what = 6 then { m with gone := false, wait := [], sec := List.replicate m.sec.length ByteArray.empty } else m

/-- The box of a call's own argument. -/
def OpT (b : Nat) (v0 v1 v2 v3 : Value) : Thing := fun w S => w.heap[b]? = some (.cells #[v0, v1, v2, v3] 31 (0, 0)) ∧ S = fun i => i = b
theorem OpT.res (b : Nat) (v0 v1 v2 v3 : Value) : Res (OpT b v0 v1 v2 v3) := by
  refine ⟨?_, ?_⟩
  · rintro w S ⟨h, rfl⟩ k rfl
    exact (Array.getElem?_eq_some_iff.1 h).1
  · rintro w w' S T ⟨h, rfl⟩ hf hd
    exact ⟨hf.heap h (hd b rfl), rfl⟩
theorem OpT.made (w : World) (v0 v1 v2 v3 : Value) : Made w (w.alloc (.cells #[v0, v1, v2, v3] 31)) (OpT w.heap.size v0 v1 v2 v3 (w.alloc (.cells #[v0, v1, v2, v3] 31))) :=
  ⟨_, ⟨heap_alloc_new w _, rfl⟩, (Fr.refl _ w).alloc _, by rintro k rfl; exact Nat.le_refl _⟩
def OpC (w : World) (b : Nat) (v0 v1 v2 v3 : Value) : Prop := w.heap[b]? = some (.cells #[v0, v1, v2, v3] 31 (0, 0))
theorem Law.opC {A : Thing} {w0 w : World} {b : Nat} {v0 v1 v2 v3 : Value} (h : Law w0 w (Both A (OpT b v0 v1 v2 v3))) : OpC w b v0 v1 v2 v3 := by
  obtain ⟨U, ⟨S, T, hA, hB, hd, rfl⟩, hn, hb⟩ := h
  exact hB.1
theorem Law.drop {A B : Thing} {w0 w : World} (h : Law w0 w (Both A B)) : Law w0 w A := by
  obtain ⟨U, ⟨S, T, hA, hB, hd, rfl⟩, hn, hb⟩ := h
  exact ⟨S, hA, fun k hk => hn k (.inl hk), hb⟩

set_option maxHeartbeats 4000000 in
theorem does_write {w0 w : World} {g r : Nat} {m : Dsk} (h : Law w0 w (Both (D g m) (R r m))) (hmany : m.wait.length ≤ 1000000) (n : Int) (s : ByteArray) (K : Option Addr) (l c : Nat) :
    Calls Try.prog 21 #[.pointer (some ⟨g, 0, none⟩), .pointer (some ⟨r, 0, none⟩), .agg #[.int .i64 0, .int .i64 n, .string s, .slice K l c]] w fun e w' => e = .returned (.bool true) ∧ Law w0 w' (Both (D g (wrote m n s)) (R r (wrote m n s))) := by
  have hL : Law w0 (w.alloc (.cells #[.int .i64 0, .int .i64 n, .string s, .slice K l c] 31)) (Both (Both (D g m) (R r m)) (OpT w.heap.size (.int .i64 0) (.int .i64 n) (.string s) (.slice K l c))) := by
    obtain ⟨S, hA, hn, hb⟩ := h
    exact Law.step hn hb (Made.with (Both.res (D.res _ _) (R.res _ _)) hA (OpT.made w _ _ _ _))
  have hLd := hL.drew (Both.res (Both.res (D.res _ _) (R.res _ _)) (OpT.res _ _ _ _ _))
  have hC0 : OpC (w.alloc (.cells #[.int .i64 0, .int .i64 n, .string s, .slice K l c] 31)).drew w.heap.size (.int .i64 0) (.int .i64 n) (.string s) (.slice K l c) := hLd.opC
  have d1 : ∀ w', OpC w' w.heap.size (.int .i64 0) (.int .i64 n) (.string s) (.slice K l c) → w'.cell? ⟨w.heap.size, 1, none⟩ = some (.int .i64 n) := fun w' hc => cell_of_row _ _ 1 _ _ _ hc
  have d2 : ∀ w', OpC w' w.heap.size (.int .i64 0) (.int .i64 n) (.string s) (.slice K l c) → w'.cell? ⟨w.heap.size, 2, none⟩ = some (.string s) := fun w' hc => cell_of_row _ _ 2 _ _ _ hc
  have K1 := Lib.hid (fun w' (hl : Law w0 w' (Both (Both (D g m) (R r m)) (OpT w.heap.size (.int .i64 0) (.int .i64 n) (.string s) (.slice K l c)))) => hl.op (op_left (OpT.res _ _ _ _ _) (op_left (R.res _ _) (write_step n s hmany))))
  have K2 := Lib.hid (fun w' (hl : Law w0 w' (Both (Both (D g (wrote m n s)) (R r m)) (OpT w.heap.size (.int .i64 0) (.int .i64 n) (.string s) (.slice K l c)))) => hl.op (op_left (OpT.res _ _ _ _ _) (op_right (D.res _ _) (rwrite_at n s hmany))))
  clear h hL
  go_enter Try.func21, Try.ntmps21
  go_wp2_with fail
  go_region_held3 (fun w' => OpC w' w.heap.size (.int .i64 0) (.int .i64 n) (.string s) (.slice K l c)) (first | assumption)
    (first | (go_at_call 11; refine (K1.out _ (by assumption)).mono ?_; rintro e w2 ⟨rfl, hl2⟩; have hc2 := hl2.opC) | (go_at_call 31; refine (K2.out _ (by assumption)).mono ?_; rintro e w3 ⟨rfl, hl3⟩; have hc3 := hl3.opC))
  all_goals
    go_wp2
    go_ret
    exact ⟨rfl, hl3.drop⟩

end Go.Proofs.Ytbmmbgobnoojjaa.Dk
