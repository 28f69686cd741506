/- DiskNone's walk. -/
import Derived.Test.YtbmmbgobnoojjaaDkFl
namespace Go.Proofs.Ytbmmbgobnoojjaa.Dk
open Go.RowKit

theorem Both.left {A B : Thing} {w : World} {S : Nat → Prop} (h : Both A B w S) : ∃ T, A w T := by
  obtain ⟨S, T, hA, hB, hd, rfl⟩ := h
  exact ⟨S, hA⟩
theorem Both.right {A B : Thing} {w : World} {S : Nat → Prop} (h : Both A B w S) : ∃ T, B w T := by
  obtain ⟨S, T, hA, hB, hd, rfl⟩ := h
  exact ⟨T, hB⟩

/-- An operation deeper in. -/
theorem op_left {A A' B : Thing} (b : Res B) {w : World} {f : FuncId} {args : Array Value} {X : Ending} (hop : ∀ S, A w S → Calls Try.prog f args w fun e w' => e = X ∧ Step w w' S (A' w')) :
    ∀ S, Both A B w S → Calls Try.prog f args w fun e w' => e = X ∧ Step w w' S (Both A' B w') := by
  rintro U ⟨S, T, hA, hB, hd, rfl⟩
  exact (hop S hA).mono fun e w' ⟨he, hs⟩ => ⟨he, Step.left b hs hB hd⟩
theorem op_right {A B B' : Thing} (a : Res A) {w : World} {f : FuncId} {args : Array Value} {X : Ending} (hop : ∀ S, B w S → Calls Try.prog f args w fun e w' => e = X ∧ Step w w' S (B' w')) :
    ∀ S, Both A B w S → Calls Try.prog f args w fun e w' => e = X ∧ Step w w' S (Both A B' w') := by
  rintro U ⟨S, T, hA, hB, hd, rfl⟩
  exact (hop T hB).mono fun e w' ⟨he, hs⟩ => ⟨he, Step.right a hA hs hd⟩

theorem crash_none (m : Dsk) : crashed m [] = if m.gone = true then m else { m with wait := [] } := by
  unfold crashed
  split
  · rfl
  · cases m.wait <;> simp [kept]

/-- Behind a crash that keeps nothing. -/
theorem none_eq (n : Nat) (os : List Op) : crashed (wr100 n os) [] = blank n 100 := by
  rw [crash_none, if_neg (by rw [wr100_gone]; decide)]
  unfold wr100
  rw [wroteAll_eq]
  rfl

/-- A row of L truths at block b, the first k of them set. -/
def RowT (b L k : Nat) : Thing := fun w S => w.heap[b]? = some (.cells (upTo L k).toArray 4 (0, 0)) ∧ S = fun i => i = b
theorem RowT.res (b L k : Nat) : Res (RowT b L k) := by
  refine ⟨?_, ?_⟩
  · rintro w S ⟨h, rfl⟩ k rfl
    exact (Array.getElem?_eq_some_iff.1 h).1
  · rintro w w' S T ⟨h, rfl⟩ hf hd
    exact ⟨hf.heap h (hd b rfl), rfl⟩
theorem RowT.made (w : World) (L : Nat) : Made w (w.alloc (.cells (madeCells #[.bool false] L) 4)) (RowT w.heap.size L 0 (w.alloc (.cells (madeCells #[.bool false] L) 4))) :=
  ⟨_, ⟨(RepW.first w L).row, rfl⟩, (Fr.refl _ w).alloc _, by rintro k rfl; exact Nat.le_refl _⟩
theorem upTo_at (L k : Nat) (h : k < L) : (upTo L k)[k]? = some (.bool false) := by
  unfold upTo
  rw [List.getElem?_append_right (by simp), List.length_replicate, Nat.sub_self, List.getElem?_replicate, if_pos (by omega)]
theorem upTo_set (L k : Nat) (h : k < L) : (upTo L k).set k (.bool true) = upTo L (k + 1) := by
  unfold upTo
  rw [List.set_append_right _ _ (by simp)]
  simp only [List.length_replicate, Nat.sub_self]
  obtain ⟨r, hr⟩ : ∃ r, L - k = r + 1 := ⟨L - k - 1, by omega⟩
  rw [hr, List.replicate_succ, List.set_cons_zero, show L - (k + 1) = r by omega, List.replicate_succ', List.append_assoc]
  rfl
theorem RowT.put {w : World} {b L k : Nat} {S : Nat → Prop} (h : RowT b L k w S) (hk : k < L) : Step w (w.setCell ⟨b, k, none⟩ (.bool true)) S (RowT b L (k + 1) (w.setCell ⟨b, k, none⟩ (.bool true))) := by
  obtain ⟨h, rfl⟩ := h
  refine ⟨_, ⟨?_, rfl⟩, Fr.setCell (S := fun i => i = b) (Fr.refl _ w) (p := ⟨b, k, none⟩) (.inl rfl) _, fun i hi => .inl hi⟩
  have := heap_setCell_same w b k _ _ (.bool true) h
  rw [this]
  congr 2
  apply Array.ext'
  simp [upTo_set L k hk]
theorem Law.put {A : Thing} (a : Res A) {w0 w : World} {b L k : Nat} (h : Law w0 w (Both A (RowT b L k))) (hk : k < L) : Law w0 (w.setCell ⟨b, k, none⟩ (.bool true)) (Both A (RowT b L (k + 1))) := by
  obtain ⟨U, ⟨S, T, hA, hB, hd, rfl⟩, hn, hb⟩ := h
  exact Law.step hn hb (Step.right a hA (hB.put hk) hd)
theorem Law.rowCells {A : Thing} {w0 w : World} {b L k : Nat} (h : Law w0 w (Both A (RowT b L k))) : w.heap[b]? = some (.cells (upTo L k).toArray 4 (0, 0)) := by
  obtain ⟨U, ⟨S, T, hA, hB, hd, rfl⟩, hn, hb⟩ := h
  exact hB.1
/-- Crash, with a row that is a law's own. -/
theorem Law.crashRow {Y : Thing} (y : Res Y) {w0 w : World} {g b L : Nat} {m : Dsk} (h : Law w0 w (Both (Both Y (D g m)) (RowT b L L))) :
    Calls Try.prog 18 #[.pointer (some ⟨g, 0, none⟩), .slice (some ⟨b, 0, none⟩) L L] w fun e w' => e = .returned (.int .i64 (worksE m)) ∧ Law w0 w' (Both (Both Y (D g (crashed m (List.replicate L true)))) (RowT b L L)) := by
  obtain ⟨U, ⟨S, T, ⟨S1, S2, hY, hD, hd1, rfl⟩, ⟨hrow, rfl⟩, hd, rfl⟩, hn, hb⟩ := h
  have hc := crash_step (some ⟨b, 0, none⟩) L (List.replicate L true) S2 (by
    intro j v hj
    have hl := (List.getElem?_eq_some_iff.1 hj).1
    simp at hl
    simp [hl] at hj
    subst hj
    have hadd : (⟨b, 0, none⟩ : Addr).add j = ⟨b, j, none⟩ := by unfold Addr.add; split <;> simp_all
    refine ⟨_, rfl, ?_, fun hk => hd b (.inr hk) rfl⟩
    rw [hadd, cell_of_row _ b j _ _ _ hrow]
    have := upTo_get L L j hl
    simpa using this) hD
  rw [List.length_replicate] at hc
  exact hc.mono fun e w' ⟨he, hs⟩ => ⟨he, Law.step hn hb (Step.left (RowT.res _ _ _) (Step.right y hY hs hd1) ⟨hrow, rfl⟩ hd)⟩

set_option maxRecDepth 100000 in
set_option maxHeartbeats 8000000 in
theorem none_main (n : Nat) (h1 : 1 ≤ n) (h2 : n ≤ 20) (B : Option Addr) (d : Nat) (os : List Op) (h3 : os.length ≤ 20) (w : World) (ho : RowOps w B os) :
    Calls Try.prog 4 #[.int .i64 (n : Int), .slice B os.length d] w fun e w' => e = .returned (.bool true) ∧ Below w.heap.size w w' := by
  have KL := Lib.hid (fun w => live_true w)
  have HO := Lib.hid ho
  have HN := Lib.hid (new_made n 100 h1 (by omega) (by decide) (by decide) w)
  clear ho
  have g1 : ¬ (n : Int) < 1 := by omega
  have g2 : ¬ 20 < (n : Int) := by omega
  have g3 : ¬ 20 < (os.length : Int) := by omega
  go_enter Try.func4, Try.ntmps4
  go_wp2_with fail
  refine HN.out.mono ?_
  rintro e w1 ⟨rfl, hm⟩
  have H0 := Lib.hid (Law.made (Below.refl w.heap.size w) hm)
  clear hm HN
  go_wp2_with fail
  refine (H0.out.copy (D.res _ _) (fun S hS => ⟨S, hS⟩) (by simp [blank])).mono ?_
  rintro e w2 ⟨gw, rfl, h1'⟩
  have H1 := Lib.hid h1'
  clear h1' H0
  go_wp2_with fail
  go_loopg [8] os.length (fun q v8 wx => ∃ k : Nat, k + q = os.length ∧ v8 = .int .i64 (k : Int) ∧ Aside (Law w wx (Both (D (w.heap.size + 1) (wroteAll (blank n 100) (os.take k))) (D gw (blank n 100)))))
  case atStart => exact ⟨0, by omega, rfl, H1.out⟩
  case round =>
    obtain ⟨k, hkq, rfl, HI⟩ := hrel
    cases gk with
    | succ q =>
      have hm : k < os.length := by omega
      have hmi : (k : Int) < (os.length : Int) := by omega
      obtain ⟨o, ho⟩ : ∃ o, os[k]? = some o := ⟨_, List.getElem?_eq_getElem hm⟩
      obtain ⟨ad, rfl, -, e1, e2, -⟩ := ops_at HO.out HI.out.below.drew ho
      have HOk := Lib.hid ho
      clear ho
      go_wp2_with fail
      go_still_tail 11, (by kernel_rfl)
      change wpList _ _ _ _ _ wr.drew
      go_wp2_with fail
      refine ((HI.out.drew (Both.res (D.res _ _) (D.res _ _))).opL (D.res _ _) (write_step o.n o.s (by have h := wroteAll_wait (os.take k) (blank n 100); have h0 : (blank n 100).wait.length = 0 := rfl; rw [List.length_take] at h; omega))).mono ?_
      rintro e w3 ⟨rfl, hl⟩
      rw [← wroteAll_snoc _ _ _ _ HOk.out] at hl
      go_wp2
      go_roundg q
      case measure => omega
      case rel => exact ⟨k + 1, by omega, by go_num, hl⟩
    | zero =>
      obtain rfl : k = os.length := by omega
      rw [List.take_of_length_le (Nat.le_refl _)] at HI
      have hmany : (wr100 n os).wait.length ≤ 1000000 := by have h := wroteAll_wait os (blank n 100); have h0 : (blank n 100).wait.length = 0 := rfl; unfold wr100; omega
      have HI2 := Lib.hid (show Law w wr (Both (D (w.heap.size + 1) (wr100 n os)) (D gw (blank n 100))) from HI.out)
      clear HI
      go_wp2_with fail
      refine (HI2.out.copy (Both.res (D.res _ _) (D.res _ _)) (fun S hS => hS.left) hmany).mono ?_
      rintro e w3 ⟨ga, rfl, h2'⟩
      have H2 := Lib.hid h2'
      clear h2' HI2
      go_wp2_with fail
      refine (H2.out.copy (Both.res (Both.res (D.res _ _) (D.res _ _)) (D.res _ _)) (fun S hS => by obtain ⟨T, hT⟩ := hS.left; exact hT.left) hmany).mono ?_
      rintro e w4 ⟨gb, rfl, h3'⟩
      have H3 := Lib.hid h3'
      clear h3' H2
      go_wp2_with fail
      refine (H3.out.op (op_left (D.res _ _) (op_right (Both.res (D.res _ _) (D.res _ _)) (fun S hS => crash_step none 0 [] S (fun j b hj => by simp at hj) hS)))).mono ?_
      rw [none_eq]
      rintro e w5 ⟨rfl, h4'⟩
      have H4 := Lib.hid h4'
      clear h4' H3
      go_wp2_with fail
      refine (H4.out.op (op_left (D.res _ _) (op_left (D.res _ _) (op_left (D.res _ _) pending_step)))).mono ?_
      rintro e w6 ⟨rfl, h5'⟩
      have H5 := Lib.hid h5'
      clear h5' H4
      obtain ⟨L, hL⟩ : ∃ L, (wr100 n os).wait.length = L := ⟨_, rfl⟩
      rw [hL]
      have hLs : L ≤ 1000000 := by omega
      have hmk := run_make_row' (P := Try.prog) 29 4 (.bool false) 1 Try.underlying29 boolInfo rfl .i64 .i64 L (by omega) (by omega)
      go_wp2_with fail
      have H6 := Lib.hid (show Law w (w6.alloc (.cells (madeCells #[.bool false] L) 4)) (Both (Both (Both (Both (D (w.heap.size + 1) (wr100 n os)) (D gw (blank n 100))) (D ga (blank n 100))) (D gb (wr100 n os))) (RowT w6.heap.size L 0)) from by
        obtain ⟨S, hA, hn, hb⟩ := H5.out
        exact Law.step hn hb (Made.with (Both.res (Both.res (Both.res (D.res _ _) (D.res _ _)) (D.res _ _)) (D.res _ _)) hA (RowT.made w6 L)))
      clear H5 hmk
      obtain ⟨b, hbs⟩ : ∃ b, w6.heap.size = b := ⟨_, rfl⟩
      rw [hbs] at H6
      rw [hbs]
      clear hbs
      go_loopg [12] L (fun q v12 wx => ∃ k : Nat, k + q = L ∧ v12 = .int .i64 (k : Int) ∧ Aside (Law w wx (Both (Both (Both (Both (D (w.heap.size + 1) (wr100 n os)) (D gw (blank n 100))) (D ga (blank n 100))) (D gb (wr100 n os))) (RowT b L k))))
      case atStart => exact ⟨0, by omega, rfl, H6.out⟩
      case round =>
        obtain ⟨k, hkq, rfl, HI⟩ := hrel
        cases gk with
        | succ q =>
          have hkL : k < L := by omega
          have hki : (k : Int) < (L : Int) := by omega
          have hrow := HI.out.rowCells
          have hcb : wr.cell? ⟨b, k, none⟩ = some (.bool false) := by
            rw [cell_of_row _ b k _ _ _ hrow]
            have := upTo_at L k hkL
            simpa using this
          have hfz := frozen_of_row wr b k _ _ hrow
          have HP := Lib.hid (HI.out.put (Both.res (Both.res (Both.res (D.res _ _) (D.res _ _)) (D.res _ _)) (D.res _ _)) hkL)
          clear hrow
          go_wp2_with fail
          go_roundg q
          case measure => omega
          case rel => exact ⟨k + 1, by omega, by go_num, HP.out⟩
        | zero =>
          obtain rfl : k = L := by omega
          go_wp2_with fail
          refine (HI.out.crashRow (Both.res (Both.res (D.res _ _) (D.res _ _)) (D.res _ _))).mono ?_
          rw [show crashed (wr100 n os) (List.replicate k true) = flushed (wr100 n os) by unfold flushed; rw [hL]]
          rintro e w7 ⟨rfl, h7'⟩
          have H7 := Lib.hid h7'
          clear h7' HI
          go_wp2_with fail
          go_loopg [13] n (fun q v13 wx => ∃ i : Nat, i + q = n ∧ v13 = .int .i64 (i : Int) ∧ Aside (Law w wx (Both (Both (Both (Both (D (w.heap.size + 1) (wr100 n os)) (D gw (blank n 100))) (D ga (blank n 100))) (D gb (flushed (wr100 n os)))) (RowT b k k))))
          case atStart => exact ⟨0, by omega, rfl, H7.out⟩
          case round =>
            obtain ⟨i, hiq, rfl, HI⟩ := hrel
            cases gk with
            | zero =>
              obtain rfl : i = n := by omega
              go_wp2_with fail
              refine (KL.out _).mono ?_
              rintro e w8 ⟨rfl, b8⟩
              go_wp2_with fail
              go_ret
              exact ⟨rfl, HI.out.below.trans (b8.mono HI.out.below.size)⟩
            | succ q =>
              have hin : i < n := by omega
              have hii : (i : Int) < (n : Int) := by omega
              obtain ⟨x, hx⟩ : ∃ x, readV (wr100 n os) i = x := ⟨_, rfl⟩
              have hB1 := blankE n 100 i hin
              have hB2 := blankRead n 100 i hin
              have hE1 := (read_fine (wr100 n os) i (wr100_gone n os) (by rw [wr100_len]; exact hin)).1
              have hE2 := (read_fine (flushed (wr100 n os)) i (fl_gone n os) (by rw [fl_len]; exact hin)).1
              have hV2 := (fl_read n os i hin).trans hx
              have HE := Lib.hid (And.intro (And.intro hB1 hB2) (And.intro (And.intro hE1 hx) (And.intro hE2 hV2)))
              clear hB1 hB2 hE1 hE2 hV2 hx
              go_wp2_with fail
              refine (HI.out.op (op_left (RowT.res _ _ _) (op_left (D.res _ _) (op_right (Both.res (D.res _ _) (D.res _ _)) (read_step i))))).mono ?_
              rw [HE.out.1.1, HE.out.1.2]
              rintro e w8 ⟨rfl, h8⟩
              have H8 := Lib.hid h8
              clear h8
              go_wp2_with fail
              refine (H8.out.op (op_left (RowT.res _ _ _) (op_left (D.res _ _) (op_left (D.res _ _) (op_right (D.res _ _) (read_step i)))))).mono ?_
              rw [HE.out.1.1, HE.out.1.2]
              rintro e w9 ⟨rfl, h9⟩
              have H9 := Lib.hid h9
              clear h9 H8
              go_wp2_with fail
              refine (H9.out.op (op_left (RowT.res _ _ _) (op_right (Both.res (Both.res (D.res _ _) (D.res _ _)) (D.res _ _)) (read_step i)))).mono ?_
              rw [HE.out.2.2.1, HE.out.2.2.2]
              rintro e w10 ⟨rfl, h10⟩
              have H10 := Lib.hid h10
              clear h10 H9
              go_wp2_with fail
              refine (H10.out.op (op_left (RowT.res _ _ _) (op_left (D.res _ _) (op_left (D.res _ _) (op_left (D.res _ _) (read_step i)))))).mono ?_
              rw [HE.out.2.1.1, HE.out.2.1.2]
              rintro e w11 ⟨rfl, h11⟩
              have H11 := Lib.hid h11
              clear h11 H10
              go_wp2_with fail
              go_roundg q
              case measure => omega
              case rel => exact ⟨i + 1, by omega, by go_num, H11.out⟩

set_option maxHeartbeats 4000000 in
theorem none_else (n : Int) (B : Option Addr) (l2 d : Nat) (w : World) (h : n < 1 ∨ 20 < n ∨ 20 < (l2 : Int)) : Calls Try.prog 4 #[.int .i64 n, .slice B l2 d] w fun e w' => e = .returned (.bool true) ∧ Below w.heap.size w w' := by
  have KL := Lib.hid (live_true w)
  by_cases h0 : n < 1
  · clear h
    go_enter Try.func4, Try.ntmps4
    go_wp2_with fail
    refine KL.out.mono ?_
    rintro e w1 ⟨rfl, b⟩
    go_wp2_with fail
    go_ret
    exact ⟨rfl, b⟩
  by_cases h1 : 20 < n
  · clear h
    go_enter Try.func4, Try.ntmps4
    go_wp2_with fail
    refine KL.out.mono ?_
    rintro e w1 ⟨rfl, b⟩
    go_wp2_with fail
    go_ret
    exact ⟨rfl, b⟩
  have h2 : 20 < (l2 : Int) := by omega
  clear h
  go_enter Try.func4, Try.ntmps4
  go_wp2_with fail
  refine KL.out.mono ?_
  rintro e w1 ⟨rfl, b⟩
  go_wp2_with fail
  go_ret
  exact ⟨rfl, b⟩

theorem none_of (n : Int) (B : Option Addr) (l2 d : Nat) (os : List Op) (W : World) (_ : (Lit.int .i64 n).wf = true) (h2 : os.length = l2 ∧ RowOps W B os) :
    Calls Try.prog 4 #[.int .i64 n, .slice B l2 d] W fun e w' => e = .returned (.bool true) ∧ Below W.heap.size W w' := by
  obtain ⟨rfl, r2⟩ := h2
  by_cases hg : n < 1 ∨ 20 < n ∨ 20 < (os.length : Int)
  · exact none_else n B _ d W hg
  · obtain ⟨k, rfl⟩ := Int.eq_ofNat_of_zero_le (show 0 ≤ n by omega)
    exact none_main k (by omega) (by omega) B d os (by omega) W r2

end Go.Proofs.Ytbmmbgobnoojjaa.Dk
