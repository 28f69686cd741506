/- live of layer 9. -/
import Derived.Test.YtbmmbgobnoojjaaDk8
namespace Go.Proofs.Ytbmmbgobnoojjaa.Dk
open Go.RowKit

def bA : ByteArray := ⟨#[97]⟩
def bB : ByteArray := ⟨#[98]⟩
def bE : ByteArray := ⟨#[97, 98, 99, 100, 101]⟩
def m0 : Dsk := blank 2 4
def m1 : Dsk := wrote m0 0 bA
def m2 : Dsk := wrote m1 1 bB
def m3 : Dsk := crashed m2 [false, true]
def m4 : Dsk := wrote m3 0 bE
def m5 : Dsk := { m4 with gone := true, wait := [] }
def m6 : Dsk := { m5 with gone := false, wait := [], sec := List.replicate m5.sec.length ByteArray.empty }

theorem new24 (w : World) : Calls Try.prog 10 #[.int .i64 2, .int .i64 4] w fun e w' => e = .returned (.tuple #[.pointer (some ⟨w.heap.size + 1, 0, none⟩), .int .i64 0]) ∧ Law w w' (D (w.heap.size + 1) m0) :=
  (new_made 2 4 (by decide) (by decide) (by decide) (by decide) w).mono fun _ _ ⟨he, hm⟩ => ⟨he, Law.made (Below.refl _ _) hm⟩
theorem new04 (w : World) : Calls Try.prog 10 #[.int .i64 0, .int .i64 4] w fun e w' => e = .returned (.tuple #[.pointer none, .int .i64 1]) ∧ w = w' := new_no 0 4 (by unfold newOk; omega) w

/-- A literal row of truths, made just now. -/
theorem litReads (w : World) (bs : List Bool) (t : TypeId) (S : Nat → Prop) (hS : ∀ k, S k → k < w.heap.size) : ReadsBools (w.alloc (.cells (bs.map Value.bool).toArray t)) S (some ⟨w.heap.size, 0, none⟩) bs := by
  intro j b hj
  refine ⟨_, rfl, ?_, fun hk => ?_⟩
  · have hadd : (⟨w.heap.size, 0, none⟩ : Addr).add j = ⟨w.heap.size, j, none⟩ := by unfold Addr.add; split <;> simp_all
    rw [hadd, cell_of_row _ _ _ _ _ _ (heap_alloc_new w _)]
    simp [hj]
  · have := hS _ hk
    simp at this

section
variable {w0 w : World} {g : Nat}
theorem lv1 (h : Law w0 w (D g m0)) : Calls Try.prog 11 #[.pointer (some ⟨g, 0, none⟩), .int .i64 0, .string ⟨#[97]⟩] w fun e w' => e = .returned (.int .i64 0) ∧ Law w0 w' (D g m1) := by
  have := h.op (write_step 0 bA (by decide))
  rwa [show checkE m0 0 bA.size = 0 by decide] at this
theorem lv2 (h : Law w0 w (D g m1)) : Calls Try.prog 11 #[.pointer (some ⟨g, 0, none⟩), .int .i64 1, .string ⟨#[98]⟩] w fun e w' => e = .returned (.int .i64 0) ∧ Law w0 w' (D g m2) := by
  have := h.op (write_step 1 bB (by decide))
  rwa [show checkE m1 1 bB.size = 0 by decide] at this
theorem lv3 (h : Law w0 w (D g m2)) : Calls Try.prog 15 #[.pointer (some ⟨g, 0, none⟩)] w fun e w' => e = .returned (.int .i64 2) ∧ Law w0 w' (D g m2) := h.op pending_step
theorem lv4 (h : Law w0 w (D g m2)) : Calls Try.prog 13 #[.pointer (some ⟨g, 0, none⟩), .int .i64 0] w fun e w' => e = .returned (.tuple #[.string ⟨#[97]⟩, .int .i64 0]) ∧ Law w0 w' (D g m2) := by
  have := h.op (read_step 0)
  rwa [show checkE m2 0 0 = 0 by decide, show readV m2 0 = ⟨#[97]⟩ by decide +kernel] at this
theorem lv5 (h : Law w0 w (D g m2)) : Calls Try.prog 18 #[.pointer (some ⟨g, 0, none⟩), .slice (some ⟨w.heap.size, 0, none⟩) 2 2] (w.alloc (.cells #[.bool false, .bool true] 4)) fun e w' => e = .returned (.int .i64 0) ∧ Law w0 w' (D g m3) := by
  obtain ⟨S, hA, hn, hb⟩ := h
  have hA' := (D.res g m2).frame hA ((Fr.refl fresh w).alloc (.cells #[.bool false, .bool true] 4)) (fun _ _ h => h)
  have := crash_step (some ⟨w.heap.size, 0, none⟩) 2 [false, true] S (litReads w [false, true] 4 S ((D.res g m2).lt hA)) hA'
  rw [show worksE m2 = 0 by decide] at this
  exact this.mono fun e w' ⟨he, hs⟩ => ⟨he, Law.step hn (hb.alloc hb.size _) hs⟩
theorem lv6 (h : Law w0 w (D g m3)) : Calls Try.prog 13 #[.pointer (some ⟨g, 0, none⟩), .int .i64 0] w fun e w' => e = .returned (.tuple #[.string ⟨#[]⟩, .int .i64 0]) ∧ Law w0 w' (D g m3) := by
  have := h.op (read_step 0)
  rwa [show checkE m3 0 0 = 0 by decide, show readV m3 0 = ⟨#[]⟩ by decide +kernel] at this
theorem lv7 (h : Law w0 w (D g m3)) : Calls Try.prog 13 #[.pointer (some ⟨g, 0, none⟩), .int .i64 1] w fun e w' => e = .returned (.tuple #[.string ⟨#[98]⟩, .int .i64 0]) ∧ Law w0 w' (D g m3) := by
  have := h.op (read_step 1)
  rwa [show checkE m3 1 0 = 0 by decide, show readV m3 1 = ⟨#[98]⟩ by decide +kernel] at this
theorem lv8 (h : Law w0 w (D g m3)) : Calls Try.prog 11 #[.pointer (some ⟨g, 0, none⟩), .int .i64 0, .string ⟨#[97, 98, 99, 100, 101]⟩] w fun e w' => e = .returned (.int .i64 12) ∧ Law w0 w' (D g m4) := by
  have := h.op (write_step 0 bE (by decide))
  rwa [show checkE m3 0 bE.size = 12 by decide] at this
theorem lv9 (h : Law w0 w (D g m4)) : Calls Try.prog 12 #[.pointer (some ⟨g, 0, none⟩)] w fun e w' => e = .returned (.int .i64 0) ∧ Law w0 w' (D g m5) := h.op fail_step
theorem lv10 (h : Law w0 w (D g m5)) : Calls Try.prog 13 #[.pointer (some ⟨g, 0, none⟩), .int .i64 1] w fun e w' => e = .returned (.tuple #[.string ⟨#[]⟩, .int .i64 8]) ∧ Law w0 w' (D g m5) := by
  have := h.op (read_step 1)
  rwa [show checkE m5 1 0 = 8 by decide, show readV m5 1 = ⟨#[]⟩ by decide +kernel] at this
theorem lv11 (h : Law w0 w (D g m5)) : Calls Try.prog 16 #[.pointer (some ⟨g, 0, none⟩)] w fun e w' => e = .returned (.int .i64 0) ∧ Law w0 w' (D g m6) := h.op replace_step
theorem lv12 (h : Law w0 w (D g m6)) : Calls Try.prog 13 #[.pointer (some ⟨g, 0, none⟩), .int .i64 1] w fun e w' => e = .returned (.tuple #[.string ⟨#[]⟩, .int .i64 0]) ∧ Law w0 w' (D g m6) := by
  have := h.op (read_step 1)
  rwa [show checkE m6 1 0 = 0 by decide, show readV m6 1 = ⟨#[]⟩ by decide +kernel] at this
theorem lv13 (h : Law w0 w (D g m6)) : Calls Try.prog 14 #[.pointer (some ⟨g, 0, none⟩)] w fun e w' => e = .returned (.bool true) ∧ Law w0 w' (D g m6) := h.op alive_step
end

set_option maxHeartbeats 4000000 in
theorem live_true (w : World) : Calls Try.prog 9 #[] w fun e w' => e = .returned (.bool true) ∧ Below w.heap.size w w' := by
  go_enter Try.func9, Try.ntmps9
  go_wp2_with fail
  go_at_call 10
  refine (new24 w).mono ?_
  rintro e w1 ⟨rfl, h1⟩
  have H1 := Lib.hid h1
  clear h1
  go_wp2_with fail
  go_at_call 10
  refine (new04 w1).mono ?_
  rintro e w' ⟨rfl, rfl⟩
  go_wp2_with fail
  refine (lv1 H1.out).mono ?_
  rintro e w2 ⟨rfl, h2⟩
  have H2 := Lib.hid h2
  clear h2 H1
  go_wp2_with fail
  refine (lv2 H2.out).mono ?_
  rintro e w3 ⟨rfl, h3⟩
  have H3 := Lib.hid h3
  clear h3 H2
  go_wp2_with fail
  refine (lv3 H3.out).mono ?_
  rintro e w4 ⟨rfl, h4⟩
  have H4 := Lib.hid h4
  clear h4 H3
  go_wp2_with fail
  refine (lv4 H4.out).mono ?_
  rintro e w5 ⟨rfl, h5⟩
  have H5 := Lib.hid h5
  clear h5 H4
  go_wp2_with fail
  refine (lv5 H5.out).mono ?_
  rintro e w6 ⟨rfl, h6⟩
  have H6 := Lib.hid h6
  clear h6 H5
  go_wp2_with fail
  refine (lv6 H6.out).mono ?_
  rintro e w7 ⟨rfl, h7⟩
  have H7 := Lib.hid h7
  clear h7 H6
  go_wp2_with fail
  refine (lv7 H7.out).mono ?_
  rintro e w8 ⟨rfl, h8⟩
  have H8 := Lib.hid h8
  clear h8 H7
  go_wp2_with fail
  refine (lv8 H8.out).mono ?_
  rintro e w9 ⟨rfl, h9⟩
  have H9 := Lib.hid h9
  clear h9 H8
  go_wp2_with fail
  refine (lv9 H9.out).mono ?_
  rintro e w10 ⟨rfl, h10⟩
  have H10 := Lib.hid h10
  clear h10 H9
  go_wp2_with fail
  refine (lv10 H10.out).mono ?_
  rintro e w11 ⟨rfl, h11⟩
  have H11 := Lib.hid h11
  clear h11 H10
  go_wp2_with fail
  refine (lv11 H11.out).mono ?_
  rintro e w12 ⟨rfl, h12⟩
  have H12 := Lib.hid h12
  clear h12 H11
  go_wp2_with fail
  refine (lv12 H12.out).mono ?_
  rintro e w13 ⟨rfl, h13⟩
  have H13 := Lib.hid h13
  clear h13 H12
  go_wp2_with fail
  refine (lv13 H13.out).mono ?_
  rintro e w14 ⟨rfl, h14⟩
  have H14 := Lib.hid h14
  clear h14 H13
  go_wp2_with fail
  go_ret
  exact ⟨rfl, H14.out.below⟩

end Go.Proofs.Ytbmmbgobnoojjaa.Dk
