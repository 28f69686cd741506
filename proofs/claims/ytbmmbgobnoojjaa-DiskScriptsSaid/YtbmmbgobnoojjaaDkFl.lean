/- DiskFlush's walk. -/
import Derived.Test.YtbmmbgobnoojjaaDkCrash
import Derived.Test.YtbmmbgobnoojjaaDkCopy
namespace Go.Proofs.Ytbmmbgobnoojjaa.Dk
open Go.RowKit

theorem Law.opL {A A' B : Thing} (b : Res B) {w0 w : World} (h : Law w0 w (Both A B)) {f : FuncId} {args : Array Value} {X : Ending} (hop : ∀ S, A w S → Calls Try.prog f args w fun e w' => e = X ∧ Step w w' S (A' w')) :
    Calls Try.prog f args w fun e w' => e = X ∧ Law w0 w' (Both A' B) := by
  obtain ⟨U, ⟨S, T, hA, hB, hd, rfl⟩, hn, hb⟩ := h
  exact (hop S hA).mono fun e w' ⟨he, hs⟩ => ⟨he, Law.step hn hb (Step.left b hs hB hd)⟩
theorem Law.opR {A B B' : Thing} (a : Res A) {w0 w : World} (h : Law w0 w (Both A B)) {f : FuncId} {args : Array Value} {X : Ending} (hop : ∀ S, B w S → Calls Try.prog f args w fun e w' => e = X ∧ Step w w' S (B' w')) :
    Calls Try.prog f args w fun e w' => e = X ∧ Law w0 w' (Both A B') := by
  obtain ⟨U, ⟨S, T, hA, hB, hd, rfl⟩, hn, hb⟩ := h
  exact (hop T hB).mono fun e w' ⟨he, hs⟩ => ⟨he, Law.step hn hb (Step.right a hA hs hd)⟩
/-- A copy beside what there is. -/
theorem Law.copy {A : Thing} (a : Res A) {g : Nat} {m : Dsk} {w0 w : World} (h : Law w0 w A) (hd : ∀ S, A w S → ∃ T, D g m w T) (hmany : m.wait.length ≤ 1000000) :
    Calls Try.prog 17 #[.pointer (some ⟨g, 0, none⟩)] w fun e w' => ∃ g', e = .returned (.pointer (some ⟨g', 0, none⟩)) ∧ Law w0 w' (Both A (D g' m)) := by
  obtain ⟨S, hA, hn, hb⟩ := h
  obtain ⟨T, hT⟩ := hd S hA
  exact (copy_at hmany hT).mono fun e w' ⟨g', he, hm⟩ => ⟨g', he, Law.step hn hb (Made.with a hA hm)⟩
theorem Law.crashL {B : Thing} (b : Res B) {w0 w : World} {g : Nat} {m : Dsk} (h : Law w0 w (Both (D g m) B)) (A : Option Addr) (c : Nat) (bs : List Bool) (hr : RowBools w0 A bs) :
    Calls Try.prog 18 #[.pointer (some ⟨g, 0, none⟩), .slice A bs.length c] w fun e w' => e = .returned (.int .i64 (worksE m)) ∧ Law w0 w' (Both (D g (crashed m bs)) B) := by
  obtain ⟨U, ⟨S, T, hA, hB, hd, rfl⟩, hn, hb⟩ := h
  exact (crash_step A c bs S (Law.readsBools hb (fun k h => hn k (.inl h)) hr) hA).mono fun e w' ⟨he, hs⟩ => ⟨he, Law.step hn hb (Step.left b hs hB hd)⟩

/-- A flush keeps the last of the writes to each sector. -/
theorem kept_latest (L : List ByteArray) (ws : List Ev) (i : Nat) (hi : i < L.length) : ∀ k, k ≤ ws.length →
    (kept L (ws.take k) (List.replicate ws.length true))[i]? = some (match (ws.take k).reverse.find? (fun x => (x.1 : Int) == (i : Int)) with | some x => x.2 | none => L.getD i ByteArray.empty)
  | 0, _ => by simp [kept, hi]
  | k + 1, hk => by
    have ih := kept_latest L ws i hi k (by omega)
    have hkl : k < ws.length := by omega
    have hb : (List.replicate ws.length true)[k]? = some true := by simp [hkl]
    rw [kept_step ws _ L k ws[k] (List.getElem?_eq_getElem hkl), if_pos hb, List.take_add_one, List.getElem?_eq_getElem hkl, List.reverse_append]
    simp only [Option.toList_some, List.reverse_singleton, List.singleton_append, List.find?_cons]
    by_cases e : ws[k].1 = i
    · rw [e, List.getElem?_set_self (by rw [length_kept]; exact hi)]
      simp
    · rw [List.getElem?_set_ne e, ih]
      have : ((ws[k].1 : Int) == (i : Int)) = false := by simp; omega
      rw [this]

theorem flushed_read (m : Dsk) (i : Nat) (hg : m.gone = false) (hi : i < m.sec.length) : (flushed m).sec.getD i ByteArray.empty = latest m i := by
  unfold flushed crashed latest
  rw [if_neg (by rw [hg]; decide)]
  have h := kept_latest m.sec m.wait i hi m.wait.length (Nat.le_refl _)
  rw [List.take_of_length_le (Nat.le_refl _)] at h
  simp only [List.getD_eq_getElem?_getD, h]
  rfl

theorem flushed_eq (m : Dsk) (hg : m.gone = false) : flushed m = { m with wait := [], sec := (flushed m).sec } := by
  unfold flushed crashed
  rw [if_neg (by rw [hg]; decide)]
theorem flushed_len (m : Dsk) : (flushed m).sec.length = m.sec.length := by
  unfold flushed crashed
  split
  · rfl
  · exact length_kept _ _ _
/-- A crash changes nothing where nothing waits. -/
theorem crashed_idle (m : Dsk) (bs : List Bool) (h : m.wait = []) : crashed m bs = m := by
  unfold crashed
  split
  · rfl
  · rw [h]
    obtain ⟨a, b, c, d⟩ := m
    simp at h
    subst h
    simp [kept]

/-- What Read tells of a sector that there is. -/
theorem read_fine (m : Dsk) (i : Nat) (hg : m.gone = false) (hi : i < m.sec.length) : checkE m i 0 = 0 ∧ readV m i = latest m i := by
  have he : checkE m i 0 = 0 := by
    unfold checkE
    rw [if_neg (by rw [hg]; decide), if_neg (by omega), if_neg (by omega)]
  exact ⟨he, by unfold readV; rw [if_pos he]; rfl⟩

/-- Behind the writes. -/
def wr100 (n : Nat) (os : List Op) : Dsk := wroteAll (blank n 100) os
theorem wr100_gone (n : Nat) (os : List Op) : (wr100 n os).gone = false := by unfold wr100; rw [wroteAll_eq]; rfl
theorem wr100_len (n : Nat) (os : List Op) : (wr100 n os).sec.length = n := by unfold wr100; rw [wroteAll_eq]; simp [blank]
theorem fl_len (n : Nat) (os : List Op) : (flushed (wr100 n os)).sec.length = n := by rw [flushed_len, wr100_len]
theorem fl_gone (n : Nat) (os : List Op) : (flushed (wr100 n os)).gone = false := by rw [flushed_eq _ (wr100_gone n os)]; exact wr100_gone n os
theorem fl_wait (n : Nat) (os : List Op) : (flushed (wr100 n os)).wait = [] := by rw [flushed_eq _ (wr100_gone n os)]
theorem fl_works (n : Nat) (os : List Op) : worksE (flushed (wr100 n os)) = 0 := by unfold worksE; rw [if_neg (by rw [fl_gone]; decide)]
theorem fl_read (n : Nat) (os : List Op) (i : Nat) (hi : i < n) : readV (flushed (wr100 n os)) i = readV (wr100 n os) i := by
  rw [(read_fine _ i (fl_gone n os) (by rw [fl_len]; exact hi)).2, (read_fine _ i (wr100_gone n os) (by rw [wr100_len]; exact hi)).2, ← flushed_read _ i (wr100_gone n os) (by rw [wr100_len]; exact hi)]
  unfold latest
  rw [fl_wait]
  rfl

set_option maxRecDepth 100000 in
set_option maxHeartbeats 8000000 in
theorem flush_main (n : Nat) (h1 : 1 ≤ n) (h2 : n ≤ 20) (B : Option Addr) (d : Nat) (os : List Op) (h3 : os.length ≤ 20) (K : Option Addr) (kc : Nat) (bs : List Bool) (h4 : bs.length ≤ 100) (w : World)
    (ho : RowOps w B os) (hb : RowBools w K bs) :
    Calls Try.prog 6 #[.int .i64 (n : Int), .slice B os.length d, .slice K bs.length kc] w fun e w' => e = .returned (.bool true) ∧ Below w.heap.size w w' := by
  have KL := Lib.hid (fun w => live_true w)
  have HO := Lib.hid ho
  have HB := Lib.hid hb
  have HN := Lib.hid (new_made n 100 h1 (by omega) (by decide) (by decide) w)
  clear ho hb
  have g1 : ¬ (n : Int) < 1 := by omega
  have g2 : ¬ 20 < (n : Int) := by omega
  have g3 : ¬ 20 < (os.length : Int) := by omega
  have g4 : ¬ 100 < (bs.length : Int) := by omega
  go_enter Try.func6, Try.ntmps6
  go_wp2_with fail
  refine HN.out.mono ?_
  rintro e w1 ⟨rfl, hm⟩
  have H1 := Lib.hid (Law.made (Below.refl w.heap.size w) hm)
  clear hm HN
  go_wp2_with fail
  go_loopg [9] os.length (fun q v9 wx => ∃ k : Nat, k + q = os.length ∧ v9 = .int .i64 (k : Int) ∧ Aside (Law w wx (D (w.heap.size + 1) (wroteAll (blank n 100) (os.take k)))))
  case atStart => exact ⟨0, by omega, rfl, H1.out⟩
  case round =>
    obtain ⟨k, hkq, rfl, HI⟩ := hrel
    cases gk with
    | succ q =>
      have hm : k < os.length := by omega
      have hmi : (k : Int) < (os.length : Int) := by omega
      obtain ⟨o, ho⟩ : ∃ o, os[k]? = some o := ⟨_, List.getElem?_eq_getElem hm⟩
      obtain ⟨ad, rfl, -, e1, e2, -⟩ := ops_at HO.out HI.out.below.drew ho
      have HOk := Lib.hid ho
      clear ho
      go_wp2_with fail
      go_still_tail 11, (by kernel_rfl)
      change wpList _ _ _ _ _ wr.drew
      go_wp2_with fail
      refine ((HI.out.drew (D.res _ _)).op (write_step o.n o.s (by have h := wroteAll_wait (os.take k) (blank n 100); have h0 : (blank n 100).wait.length = 0 := rfl; rw [List.length_take] at h; omega))).mono ?_
      rintro e w3 ⟨rfl, hl⟩
      rw [← wroteAll_snoc _ _ _ _ HOk.out] at hl
      go_wp2
      go_roundg q
      case measure => omega
      case rel => exact ⟨k + 1, by omega, by go_num, hl⟩
    | zero =>
      obtain rfl : k = os.length := by omega
      rw [List.take_of_length_le (Nat.le_refl _)] at HI
      have hmany : (wr100 n os).wait.length ≤ 1000000 := by have h := wroteAll_wait os (blank n 100); have h0 : (blank n 100).wait.length = 0 := rfl; unfold wr100; omega
      have HI2 := Lib.hid (show Law w wr (D (w.heap.size + 1) (wr100 n os)) from HI.out)
      clear HI
      go_wp2_with fail
      refine (HI2.out.copy (D.res _ _) (fun S hS => ⟨S, hS⟩) hmany).mono ?_
      rintro e w2 ⟨g', rfl, h2'⟩
      have H2 := Lib.hid h2'
      clear h2' HI2
      go_wp2_with fail
      refine (H2.out.opL (D.res _ _) (flush_at hmany)).mono ?_
      rintro e w3 ⟨rfl, h3'⟩
      have H3 := Lib.hid h3'
      clear h3' H2
      go_wp2_with fail
      refine (H3.out.crashL (D.res _ _) K kc bs HB.out).mono ?_
      rw [fl_works, crashed_idle _ bs (fl_wait n os)]
      rintro e w4 ⟨rfl, h4'⟩
      have H4 := Lib.hid h4'
      clear h4' H3
      go_wp2_with fail
      go_loopg [11] n (fun q v11 wx => ∃ k : Nat, k + q = n ∧ v11 = .int .i64 (k : Int) ∧ Aside (Law w wx (Both (D (w.heap.size + 1) (flushed (wr100 n os))) (D g' (wr100 n os)))))
      case atStart => exact ⟨0, by omega, rfl, H4.out⟩
      case round =>
        obtain ⟨k, hkq, rfl, HI⟩ := hrel
        cases gk with
        | zero =>
          obtain rfl : k = n := by omega
          go_wp2_with fail
          refine (HI.out.opL (D.res _ _) pending_step).mono ?_
          rw [fl_wait]
          rintro e w5 ⟨rfl, h5'⟩
          have H5 := Lib.hid h5'
          clear h5'
          go_wp2_with fail
          refine (KL.out _).mono ?_
          rintro e w6 ⟨rfl, b6⟩
          go_wp2_with fail
          go_ret
          exact ⟨rfl, H5.out.below.trans (b6.mono H5.out.below.size)⟩
        | succ q =>
          have hkn : k < n := by omega
          have hki : (k : Int) < (n : Int) := by omega
          obtain ⟨x, hx⟩ : ∃ x, readV (wr100 n os) k = x := ⟨_, rfl⟩
          have hE1 := (read_fine (wr100 n os) k (wr100_gone n os) (by rw [wr100_len]; exact hkn)).1
          have hE2 := (read_fine (flushed (wr100 n os)) k (fl_gone n os) (by rw [fl_len]; exact hkn)).1
          have hV2 := (fl_read n os k hkn).trans hx
          have hR1 := HI.out.opR (D.res _ _) (read_step k)
          rw [hE1, hx] at hR1
          have HR1 := Lib.hid hR1
          have HE2 := Lib.hid hE2
          have HV2 := Lib.hid hV2
          clear hR1 hE1 hE2 hV2 hx
          go_wp2_with fail
          refine HR1.out.mono ?_
          rintro e w5 ⟨rfl, h5'⟩
          have hR2 := h5'.opL (D.res _ _) (read_step k)
          rw [HE2.out, HV2.out] at hR2
          have HR2 := Lib.hid hR2
          clear h5' hR2
          go_wp2_with fail
          refine HR2.out.mono ?_
          rintro e w6 ⟨rfl, h6'⟩
          have H6 := Lib.hid h6'
          clear h6'
          go_wp2_with fail
          go_roundg q
          case measure => omega
          case rel => exact ⟨k + 1, by omega, by go_num, H6.out⟩

set_option maxHeartbeats 4000000 in
theorem flush_else (n : Int) (B : Option Addr) (l2 d : Nat) (K : Option Addr) (l3 kc : Nat) (w : World) (h : n < 1 ∨ 20 < n ∨ 20 < (l2 : Int) ∨ 100 < (l3 : Int)) : Calls Try.prog 6 #[.int .i64 n, .slice B l2 d, .slice K l3 kc] w fun e w' => e = .returned (.bool true) ∧ Below w.heap.size w w' := by
  have KL := Lib.hid (live_true w)
  by_cases h0 : n < 1
  · clear h
    go_enter Try.func6, Try.ntmps6
    go_wp2_with fail
    refine KL.out.mono ?_
    rintro e w1 ⟨rfl, b⟩
    go_wp2_with fail
    go_ret
    exact ⟨rfl, b⟩
  by_cases h1 : 20 < n
  · clear h
    go_enter Try.func6, Try.ntmps6
    go_wp2_with fail
    refine KL.out.mono ?_
    rintro e w1 ⟨rfl, b⟩
    go_wp2_with fail
    go_ret
    exact ⟨rfl, b⟩
  by_cases h2 : 20 < (l2 : Int)
  · clear h
    go_enter Try.func6, Try.ntmps6
    go_wp2_with fail
    refine KL.out.mono ?_
    rintro e w1 ⟨rfl, b⟩
    go_wp2_with fail
    go_ret
    exact ⟨rfl, b⟩
  have h3 : 100 < (l3 : Int) := by omega
  clear h
  go_enter Try.func6, Try.ntmps6
  go_wp2_with fail
  refine KL.out.mono ?_
  rintro e w1 ⟨rfl, b⟩
  go_wp2_with fail
  go_ret
  exact ⟨rfl, b⟩

theorem flush_of (n : Int) (B : Option Addr) (l2 d : Nat) (os : List Op) (K : Option Addr) (l3 kc : Nat) (bs : List Bool) (W : World) (_ : (Lit.int .i64 n).wf = true) (h2 : os.length = l2 ∧ RowOps W B os) (h3 : bs.length = l3 ∧ RowBools W K bs) :
    Calls Try.prog 6 #[.int .i64 n, .slice B l2 d, .slice K l3 kc] W fun e w' => e = .returned (.bool true) ∧ Below W.heap.size W w' := by
  obtain ⟨rfl, r2⟩ := h2
  obtain ⟨rfl, r3⟩ := h3
  by_cases hg : n < 1 ∨ 20 < n ∨ 20 < (os.length : Int) ∨ 100 < (bs.length : Int)
  · exact flush_else n B _ d K _ kc W hg
  · obtain ⟨k, rfl⟩ := Int.eq_ofNat_of_zero_le (show 0 ≤ n by omega)
    exact flush_main k (by omega) (by omega) B d os (by omega) K kc bs (by omega) W r2 r3

end Go.Proofs.Ytbmmbgobnoojjaa.Dk
