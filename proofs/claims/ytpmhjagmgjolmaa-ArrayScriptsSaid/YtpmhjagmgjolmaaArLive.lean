/- live of layer 10. -/
import Derived.Test.YtpmhjagmgjolmaaAr8
namespace Go.Proofs.Ytpmhjagmgjolmaa.Dk
open Go.RowKit

def bA : ByteArray := ⟨#[97]⟩
def bB : ByteArray := ⟨#[98]⟩
def A0 : Arr := blanks 2 3 4
def A1 : Arr := fused A0 1
def A2 : Arr := awrote A1 0 0 bA
def A3 : Arr := awrote A2 1 1 bB
def A4 : Arr := acrashed A3 [true]
def A5 : Arr := afaild A4 1
def A6 : Arr := awrote A5 2 0 ByteArray.empty

/-- A literal row of truths, made just now. -/
theorem litReads (w : World) (bs : List Bool) (t : TypeId) (S : Nat → Prop) (hS : ∀ k, S k → k < w.heap.size) : ReadsBools (w.alloc (.cells (bs.map Value.bool).toArray t)) S (some ⟨w.heap.size, 0, none⟩) bs := by
  intro j b hj
  refine ⟨_, rfl, ?_, fun hk => ?_⟩
  · have hadd : (⟨w.heap.size, 0, none⟩ : Addr).add j = ⟨w.heap.size, j, none⟩ := by unfold Addr.add; split <;> simp_all
    rw [hadd, cell_of_row _ _ _ _ _ _ (heap_alloc_new w _)]
    simp [hj]
  · have := hS _ hk
    simp at this

set_option maxRecDepth 100000 in
theorem anew234 (w : World) : Calls Try.prog 10 #[.int .i64 2, .int .i64 3, .int .i64 4] w fun e w' => ∃ ga sv gs, e = .returned (.tuple #[.pointer (some ⟨ga, 0, none⟩), .int .i64 0]) ∧ Law w w' (Pa ga sv gs A0) :=
  (anew_yes 2 3 4 (by decide) (by decide) (by decide) (by decide) (by decide) (by decide) w).mono fun _ _ ⟨ga, sv, gs, he, hm⟩ => ⟨ga, sv, gs, he, Law.made (Below.refl _ _) hm⟩
set_option maxRecDepth 100000 in
theorem anew034 (w : World) : Calls Try.prog 10 #[.int .i64 0, .int .i64 3, .int .i64 4] w fun e w' => e = .returned (.tuple #[.pointer none, .int .i64 1]) ∧ Fr fresh w w' := anew_no 0 3 4 (by unfold anewOk; omega) w

section
variable {w0 w : World} {ga : Nat} {sv : Value} {gs : List Nat}
set_option maxRecDepth 100000 in
theorem Law.fresh {A : Thing} (a : Res A) (h : Law w0 w A) {w1 : World} (hf : Fr fresh w w1) : Law w0 w1 A := by
  obtain ⟨S, hA, hn, hb⟩ := h
  exact Law.step hn hb (Step.same a hA hf)
set_option maxRecDepth 100000 in
theorem al1 (h : Law w0 w (Pa ga sv gs A0)) : Calls Try.prog 11 #[.pointer (some ⟨ga, 0, none⟩), .int .i64 1] w fun e w' => e = .returned (.int .i64 0) ∧ Law w0 w' (Pa ga sv gs A1) := by
  have := h.op (fuse_at 1)
  rwa [show (if (1 : Int) < 0 then (1 : Int) else 0) = 0 by decide +kernel] at this
set_option maxRecDepth 100000 in
theorem al2 (h : Law w0 w (Pa ga sv gs A1)) : Calls Try.prog 12 #[.pointer (some ⟨ga, 0, none⟩), .int .i64 0, .int .i64 0, .string ⟨#[97]⟩] w fun e w' => e = .returned (.int .i64 0) ∧ Law w0 w' (Pa ga sv gs A2) := by
  have := h.op (awrite_at 0 0 bA (by decide) (by decide))
  rwa [show awriteE A1 0 0 bA.size = 0 by decide +kernel] at this
set_option maxRecDepth 100000 in
theorem al3 (h : Law w0 w (Pa ga sv gs A2)) : Calls Try.prog 12 #[.pointer (some ⟨ga, 0, none⟩), .int .i64 1, .int .i64 1, .string ⟨#[98]⟩] w fun e w' => e = .returned (.int .i64 9) ∧ Law w0 w' (Pa ga sv gs A3) := by
  have := h.op (awrite_at 1 1 bB (by decide) (by decide))
  rwa [show awriteE A2 1 1 bB.size = 9 by decide +kernel] at this
set_option maxRecDepth 100000 in
theorem al4 (h : Law w0 w (Pa ga sv gs A3)) : Calls Try.prog 13 #[.pointer (some ⟨ga, 0, none⟩)] w fun e w' => e = .returned (.bool true) ∧ Law w0 w' (Pa ga sv gs A3) := by
  have := h.op (down_at)
  rwa [show A3.down = true by decide +kernel] at this
set_option maxRecDepth 100000 in
theorem al5 (h : Law w0 w (Pa ga sv gs A3)) : Calls Try.prog 15 #[.pointer (some ⟨ga, 0, none⟩), .int .i64 0, .int .i64 0] w fun e w' => e = .returned (.tuple #[.string ⟨#[]⟩, .int .i64 9]) ∧ Law w0 w' (Pa ga sv gs A3) := by
  have := h.op (aread_at 0 0)
  rwa [show areadV A3 0 0 = ⟨#[]⟩ by decide +kernel, show areadE A3 0 0 = 9 by decide +kernel] at this
set_option maxRecDepth 100000 in
theorem al6 (h : Law w0 w (Pa ga sv gs A3)) : Calls Try.prog 14 #[.pointer (some ⟨ga, 0, none⟩), .slice (some ⟨w.heap.size, 0, none⟩) 1 1] (w.alloc (.cells #[.bool true] 4)) fun e w' => e = .returned (.int .i64 0) ∧ Law w0 w' (Pa ga sv gs A4) := by
  obtain ⟨S, hA, hn, hb⟩ := h
  have hA' := (Pa.res ga sv gs A3).frame hA ((Fr.refl fresh w).alloc (.cells #[.bool true] 4)) (fun _ _ h => h)
  have := acrash_at (some ⟨w.heap.size, 0, none⟩) 1 [true] (by decide) (by decide) (by simp) S (litReads w [true] 4 S ((Pa.res ga sv gs A3).lt hA)) hA'
  exact this.mono fun e w' ⟨he, hs⟩ => ⟨he, Law.step hn (hb.alloc hb.size _) hs⟩
set_option maxRecDepth 100000 in
theorem al7 (h : Law w0 w (Pa ga sv gs A4)) : Calls Try.prog 15 #[.pointer (some ⟨ga, 0, none⟩), .int .i64 0, .int .i64 0] w fun e w' => e = .returned (.tuple #[.string ⟨#[97]⟩, .int .i64 0]) ∧ Law w0 w' (Pa ga sv gs A4) := by
  have := h.op (aread_at 0 0)
  rwa [show areadV A4 0 0 = ⟨#[97]⟩ by decide +kernel, show areadE A4 0 0 = 0 by decide +kernel] at this
set_option maxRecDepth 100000 in
theorem al8 (h : Law w0 w (Pa ga sv gs A4)) : Calls Try.prog 17 #[.pointer (some ⟨ga, 0, none⟩), .int .i64 1] w fun e w' => e = .returned (.int .i64 0) ∧ Law w0 w' (Pa ga sv gs A5) := by
  have := h.op (afail_at 1)
  rwa [show (if noDisk A4 1 then (1 : Int) else 0) = 0 by decide +kernel] at this
set_option maxRecDepth 100000 in
theorem al9 (h : Law w0 w (Pa ga sv gs A5)) : Calls Try.prog 13 #[.pointer (some ⟨ga, 0, none⟩)] w fun e w' => e = .returned (.bool false) ∧ Law w0 w' (Pa ga sv gs A5) := by
  have := h.op (down_at)
  rwa [show A5.down = false by decide +kernel] at this
set_option maxRecDepth 100000 in
theorem al10 (h : Law w0 w (Pa ga sv gs A5)) : Calls Try.prog 18 #[.pointer (some ⟨ga, 0, none⟩), .int .i64 1] w fun e w' => e = .returned (.bool false) ∧ Law w0 w' (Pa ga sv gs A5) := by
  have := h.op (aalive_at 1)
  rwa [show aalive A5 1 = false by decide +kernel] at this
set_option maxRecDepth 100000 in
theorem al11 (h : Law w0 w (Pa ga sv gs A5)) : Calls Try.prog 18 #[.pointer (some ⟨ga, 0, none⟩), .int .i64 0] w fun e w' => e = .returned (.bool true) ∧ Law w0 w' (Pa ga sv gs A5) := by
  have := h.op (aalive_at 0)
  rwa [show aalive A5 0 = true by decide +kernel] at this
set_option maxRecDepth 100000 in
theorem al12 (h : Law w0 w (Pa ga sv gs A5)) : Calls Try.prog 18 #[.pointer (some ⟨ga, 0, none⟩), .int .i64 2] w fun e w' => e = .returned (.bool false) ∧ Law w0 w' (Pa ga sv gs A5) := by
  have := h.op (aalive_at 2)
  rwa [show aalive A5 2 = false by decide +kernel] at this
set_option maxRecDepth 100000 in
theorem al13 (h : Law w0 w (Pa ga sv gs A5)) : Calls Try.prog 23 #[.pointer (some ⟨ga, 0, none⟩)] w fun e w' => e = .returned (.int .i64 2) ∧ Law w0 w' (Pa ga sv gs A5) := by
  have := h.op (disks_at)
  rwa [show ((A5.ds.length : Nat) : Int) = 2 by decide +kernel] at this
set_option maxRecDepth 100000 in
theorem al14 (h : Law w0 w (Pa ga sv gs A5)) : Calls Try.prog 12 #[.pointer (some ⟨ga, 0, none⟩), .int .i64 2, .int .i64 0, .string ⟨#[]⟩] w fun e w' => e = .returned (.int .i64 1) ∧ Law w0 w' (Pa ga sv gs A6) := by
  have := h.op (awrite_at 2 0 ByteArray.empty (by decide) (by decide))
  rwa [show awriteE A5 2 0 ByteArray.empty.size = 1 by decide +kernel] at this
end

set_option maxRecDepth 100000 in
set_option maxHeartbeats 4000000 in
theorem live_true (w : World) : Calls Try.prog 9 #[] w fun e w' => e = .returned (.bool true) ∧ Below w.heap.size w w' := by
  go_enter Try.func9, Try.ntmps9
  go_wp2_with fail
  refine (anew234 w).mono ?_
  rintro e w1 ⟨ga, sv, gs, rfl, h1⟩
  have H1 := Lib.hid h1
  clear h1
  go_wp2_with fail
  refine (anew034 w1).mono ?_
  rintro e w' ⟨rfl, hfr⟩
  have H2 := Lib.hid (H1.out.fresh (Pa.res _ _ _ _) hfr)
  clear hfr H1
  go_wp2_with fail
  refine (al1 H2.out).mono ?_
  rintro e w2 ⟨rfl, h3⟩
  have H3 := Lib.hid h3
  clear h3 H2
  go_wp2_with fail
  refine (al2 H3.out).mono ?_
  rintro e w3 ⟨rfl, h4⟩
  have H4 := Lib.hid h4
  clear h4 H3
  go_wp2_with fail
  refine (al3 H4.out).mono ?_
  rintro e w4 ⟨rfl, h5⟩
  have H5 := Lib.hid h5
  clear h5 H4
  go_wp2_with fail
  refine (al4 H5.out).mono ?_
  rintro e w5 ⟨rfl, h6⟩
  have H6 := Lib.hid h6
  clear h6 H5
  go_wp2_with fail
  refine (al5 H6.out).mono ?_
  rintro e w6 ⟨rfl, h7⟩
  have H7 := Lib.hid h7
  clear h7 H6
  go_wp2_with fail
  refine (al6 H7.out).mono ?_
  rintro e w7 ⟨rfl, h8⟩
  have H8 := Lib.hid h8
  clear h8 H7
  go_wp2_with fail
  refine (al7 H8.out).mono ?_
  rintro e w8 ⟨rfl, h9⟩
  have H9 := Lib.hid h9
  clear h9 H8
  go_wp2_with fail
  refine (al8 H9.out).mono ?_
  rintro e w9 ⟨rfl, h10⟩
  have H10 := Lib.hid h10
  clear h10 H9
  go_wp2_with fail
  refine (al9 H10.out).mono ?_
  rintro e w10 ⟨rfl, h11⟩
  have H11 := Lib.hid h11
  clear h11 H10
  go_wp2_with fail
  refine (al10 H11.out).mono ?_
  rintro e w11 ⟨rfl, h12⟩
  have H12 := Lib.hid h12
  clear h12 H11
  go_wp2_with fail
  refine (al11 H12.out).mono ?_
  rintro e w12 ⟨rfl, h13⟩
  have H13 := Lib.hid h13
  clear h13 H12
  go_wp2_with fail
  refine (al12 H13.out).mono ?_
  rintro e w13 ⟨rfl, h14⟩
  have H14 := Lib.hid h14
  clear h14 H13
  go_wp2_with fail
  refine (al13 H14.out).mono ?_
  rintro e w14 ⟨rfl, h15⟩
  have H15 := Lib.hid h15
  clear h15 H14
  go_wp2_with fail
  refine (al14 H15.out).mono ?_
  rintro e w15 ⟨rfl, h16⟩
  have H16 := Lib.hid h16
  clear h16 H15
  go_wp2_with fail
  go_ret
  exact ⟨rfl, H16.out.below⟩

end Go.Proofs.Ytpmhjagmgjolmaa.Dk
