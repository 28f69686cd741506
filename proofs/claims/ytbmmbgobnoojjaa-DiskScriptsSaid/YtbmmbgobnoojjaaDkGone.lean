/- DiskGone's walk. -/
import Derived.Test.YtbmmbgobnoojjaaDkNil
namespace Go.Proofs.Ytbmmbgobnoojjaa.Dk
open Go.RowKit

/-- The disk behind writes. -/
def wroteAll (m : Dsk) (os : List Op) : Dsk := os.foldl (fun m o => wrote m o.n o.s) m

theorem wroteAll_snoc (m : Dsk) (os : List Op) (k : Nat) (o : Op) (h : os[k]? = some o) : wroteAll m (os.take (k + 1)) = wrote (wroteAll m (os.take k)) o.n o.s := by
  unfold wroteAll
  rw [List.take_add_one, h, List.foldl_append]
  rfl
theorem wrote_wait (m : Dsk) (n : Int) (x : ByteArray) : (wrote m n x).wait.length ≤ m.wait.length + 1 := by
  unfold wrote
  split <;> simp
theorem wroteAll_wait : ∀ (os : List Op) (m : Dsk), (wroteAll m os).wait.length ≤ m.wait.length + os.length
  | [], m => by simp [wroteAll]
  | o :: os, m => by
    have h := wroteAll_wait os (wrote m o.n o.s)
    have h2 := wrote_wait m o.n o.s
    show (wroteAll (wrote m o.n o.s) os).wait.length ≤ _
    simp
    omega

theorem wrote_eq (m : Dsk) (n : Int) (x : ByteArray) : wrote m n x = { m with wait := (wrote m n x).wait } := by
  unfold wrote
  split <;> rfl
theorem wroteAll_eq : ∀ (os : List Op) (m : Dsk), wroteAll m os = { m with wait := (wroteAll m os).wait }
  | [], _ => rfl
  | o :: os, m => by
    show wroteAll (wrote m o.n o.s) os = { m with wait := (wroteAll (wrote m o.n o.s) os).wait }
    have h := wroteAll_eq os (wrote m o.n o.s)
    have h2 := wrote_eq m o.n o.s
    rw [h2] at h
    rw [← h2] at h
    rw [h]
    rw [h2]

/-- A disk that failed, behind writes to a blank one. -/
def failed (n : Nat) : Dsk := { sec := List.replicate n ByteArray.empty, size := 100, wait := [], gone := true }
theorem wroteAll_gone (n : Nat) (os : List Op) : { wroteAll (blank n 100) os with gone := true, wait := [] } = failed n := by
  rw [wroteAll_eq]
  rfl
theorem goneE (n : Nat) (i : Int) : checkE (failed n) i 0 = 8 := rfl
theorem goneRead (n : Nat) (i : Int) : readV (failed n) i = ByteArray.empty := rfl
theorem goneNew (n : Nat) : { failed n with gone := false, wait := [], sec := List.replicate (failed n).sec.length ByteArray.empty } = blank n 100 := by
  simp [failed, blank]
theorem blankE (n z i : Nat) (h : i < n) : checkE (blank n z) i 0 = 0 := by
  unfold checkE
  rw [if_neg (by simp [blank]), if_neg (by simp [blank]; omega), if_neg (by omega)]
theorem blankRead (n z i : Nat) (h : i < n) : readV (blank n z) i = ByteArray.empty := by
  unfold readV
  rw [if_pos (blankE n z i h)]
  simp [latest, blank, h]

/-- What lay ahead of a law's call lies as it lay. -/
theorem old_cell {w0 w : World} (hb : Below w0.heap.size w0 w) {p : Addr} {v : Value} (hc : w0.cell? p = some v) : w.cell? p = some v :=
  (hb.cell (World.block_lt_of_cell? w0 _ hc)).trans hc

theorem ops_at {w W : World} {A : Option Addr} {os : List Op} (h : RowOps w A os) (hb : Below w.heap.size w W) {k : Nat} {o : Op} (hk : os[k]? = some o) : ∃ ad, A = some ad ∧
    W.cell? (ad.add (k * 4)) = some (.int .i64 o.what) ∧ W.cell? ⟨(ad.add (k * 4)).block, (ad.add (k * 4)).off + 1, none⟩ = some (.int .i64 o.n) ∧ W.cell? ⟨(ad.add (k * 4)).block, (ad.add (k * 4)).off + 2, none⟩ = some (.string o.s) ∧
    W.cell? ⟨(ad.add (k * 4)).block, (ad.add (k * 4)).off + 3, none⟩ = some (.slice o.ka o.keep.length o.kc) := by
  obtain ⟨ad, e, h0, h1, h2, h3, -⟩ := h k o hk
  refine ⟨ad, e, old_cell hb h0, ?_, ?_, ?_⟩
  · show W.cell? ((ad.add (k * 4)).add 1) = _
    rw [Deep.add_add]
    exact old_cell hb h1
  · show W.cell? ((ad.add (k * 4)).add 2) = _
    rw [Deep.add_add]
    exact old_cell hb h2
  · show W.cell? ((ad.add (k * 4)).add 3) = _
    rw [Deep.add_add]
    exact old_cell hb h3

set_option maxHeartbeats 4000000 in
theorem gone_main (n : Nat) (h1 : 1 ≤ n) (h2 : n ≤ 20) (A : Option Addr) (c : Nat) (os : List Op) (h3 : os.length ≤ 20) (w : World) (hr : RowOps w A os) : Calls Try.prog 3 #[.int .i64 (n : Int), .slice A os.length c] w fun e w' => e = .returned (.bool true) ∧ Below w.heap.size w w' := by
  have KL := Lib.hid (fun w => live_true w)
  have HR := Lib.hid hr
  have HN := Lib.hid (new_made n 100 h1 (by omega) (by decide) (by decide) w)
  clear hr
  have g1 : ¬ (n : Int) < 1 := by omega
  have g2 : ¬ 20 < (n : Int) := by omega
  have g3 : ¬ 20 < (os.length : Int) := by omega
  go_enter Try.func3, Try.ntmps3
  go_wp2_with fail
  refine HN.out.mono ?_
  rintro e w1 ⟨rfl, hm⟩
  have H1 := Lib.hid (Law.made (Below.refl w.heap.size w) hm)
  clear hm HN
  go_wp2_with fail
  go_loopg [7] os.length (fun q v7 wx => ∃ k : Nat, k + q = os.length ∧ v7 = .int .i64 (k : Int) ∧ Aside (Law w wx (D (w.heap.size + 1) (wroteAll (blank n 100) (os.take k)))))
  case atStart => exact ⟨0, by omega, rfl, H1.out⟩
  case round =>
    obtain ⟨k, hkq, rfl, HI⟩ := hrel
    cases gk with
    | zero =>
      obtain rfl : k = os.length := by omega
      rw [List.take_of_length_le (Nat.le_refl _)] at HI
      go_wp2_with fail
      refine (HI.out.op fail_step).mono ?_
      rintro e w2 ⟨rfl, h2⟩
      rw [wroteAll_gone] at h2
      have H2 := Lib.hid h2
      clear h2
      go_wp2_with fail
      refine (H2.out.op (read_step 0)).mono ?_
      rw [goneRead, goneE]
      rintro e w3 ⟨rfl, h3⟩
      have H3 := Lib.hid h3
      clear h3 H2
      go_wp2_with fail
      refine (H3.out.op alive_step).mono ?_
      rintro e w4 ⟨rfl, h4⟩
      have H4 := Lib.hid h4
      clear h4 H3
      go_wp2_with fail
      refine (H4.out.op pending_step).mono ?_
      rintro e w5 ⟨rfl, h5⟩
      have H5 := Lib.hid h5
      clear h5 H4
      go_wp2_with fail
      refine (H5.out.op replace_step).mono ?_
      rintro e w6 ⟨rfl, h6⟩
      rw [goneNew] at h6
      have H6 := Lib.hid h6
      clear h6 H5
      go_wp2_with fail
      clear HI
      go_loopg [10] n (fun q v10 wx => ∃ k : Nat, k + q = n ∧ v10 = .int .i64 (k : Int) ∧ Aside (Law w wx (D (w.heap.size + 1) (blank n 100))))
      case atStart => exact ⟨0, by omega, rfl, H6.out⟩
      case round =>
        obtain ⟨k, hkq, rfl, HI⟩ := hrel
        cases gk with
        | zero =>
          obtain rfl : k = n := by omega
          go_wp2_with fail
          refine (HI.out.op alive_step).mono ?_
          rintro e w7 ⟨rfl, h7⟩
          have H7 := Lib.hid h7
          clear h7
          go_wp2_with fail
          refine (KL.out _).mono ?_
          rintro e w8 ⟨rfl, b8⟩
          go_wp2_with fail
          go_ret
          exact ⟨rfl, H7.out.below.trans (b8.mono H7.out.below.size)⟩
        | succ q =>
          have hkn : k < n := by omega
          have hki : (k : Int) < (n : Int) := by omega
          go_wp2_with fail
          refine (HI.out.op (read_step k)).mono ?_
          rw [blankE n 100 k hkn, blankRead n 100 k hkn]
          rintro e w7 ⟨rfl, h7⟩
          have H7 := Lib.hid h7
          clear h7
          go_wp2_with fail
          go_roundg q
          case measure => omega
          case rel => exact ⟨k + 1, by omega, by go_num, H7.out⟩
    | succ q =>
      have hm : k < os.length := by omega
      have hmi : (k : Int) < (os.length : Int) := by omega
      obtain ⟨o, ho⟩ : ∃ o, os[k]? = some o := ⟨_, List.getElem?_eq_getElem hm⟩
      obtain ⟨ad, rfl, -, e1, e2, -⟩ := ops_at HR.out HI.out.below.drew ho
      have HO := Lib.hid ho
      clear ho
      go_wp2_with fail
      go_still_tail 11, (by kernel_rfl)
      change wpList _ _ _ _ _ wr.drew
      go_wp2_with fail
      refine ((HI.out.drew (D.res _ _)).op (write_step o.n o.s (by have h := wroteAll_wait (os.take k) (blank n 100); have h0 : (blank n 100).wait.length = 0 := rfl; rw [List.length_take] at h; omega))).mono ?_
      rintro e w2 ⟨rfl, hl⟩
      rw [← wroteAll_snoc _ _ _ _ HO.out] at hl
      go_wp2
      go_roundg q
      case measure => omega
      case rel => exact ⟨k + 1, by omega, by go_num, hl⟩

set_option maxHeartbeats 2000000 in
theorem gone_else (n : Int) (A : Option Addr) (l c : Nat) (w : World) (h : n < 1 ∨ 20 < n ∨ 20 < (l : Int)) : Calls Try.prog 3 #[.int .i64 n, .slice A l c] w fun e w' => e = .returned (.bool true) ∧ Below w.heap.size w w' := by
  have KL := Lib.hid (live_true w)
  by_cases h1 : n < 1
  · clear h
    go_enter Try.func3, Try.ntmps3
    go_wp2_with fail
    refine KL.out.mono ?_
    rintro e w1 ⟨rfl, b⟩
    go_wp2_with fail
    go_ret
    exact ⟨rfl, b⟩
  by_cases h2 : 20 < n
  · clear h
    go_enter Try.func3, Try.ntmps3
    go_wp2_with fail
    refine KL.out.mono ?_
    rintro e w1 ⟨rfl, b⟩
    go_wp2_with fail
    go_ret
    exact ⟨rfl, b⟩
  have h3 : 20 < (l : Int) := by omega
  clear h
  go_enter Try.func3, Try.ntmps3
  go_wp2_with fail
  refine KL.out.mono ?_
  rintro e w1 ⟨rfl, b⟩
  go_wp2_with fail
  go_ret
  exact ⟨rfl, b⟩

theorem gone_of (n : Int) (A : Option Addr) (l c : Nat) (os : List Op) (W : World) (_ : (Lit.int .i64 n).wf = true) (h : os.length = l ∧ RowOps W A os) :
    Calls Try.prog 3 #[.int .i64 n, .slice A l c] W fun e w' => e = .returned (.bool true) ∧ Below W.heap.size W w' := by
  obtain ⟨rfl, hr⟩ := h
  by_cases hg : n < 1 ∨ 20 < n ∨ 20 < (os.length : Int)
  · exact gone_else n A _ c W hg
  · obtain ⟨k, rfl⟩ := Int.eq_ofNat_of_zero_le (show 0 ≤ n by omega)
    exact gone_main k (by omega) (by omega) A c os (by omega) W hr

end Go.Proofs.Ytbmmbgobnoojjaa.Dk
