/- does of layer 9: Read, Crash, and what is done on a copy; all the cases together. -/
import Derived.Test.YtbmmbgobnoojjaaDkDo2
namespace Go.Proofs.Ytbmmbgobnoojjaa.Dk
open Go.RowKit

theorem Law.crash2 {B C : Thing} (b : Res B) (c : Res C) {w0 w : World} {g : Nat} {m : Dsk} (h : Law w0 w (Both (Both (D g m) B) C)) (K : Option Addr) (kc : Nat) (bs : List Bool) (hr : RowBools w0 K bs) :
    Calls Try.prog 18 #[.pointer (some ⟨g, 0, none⟩), .slice K bs.length kc] w fun e w' => e = .returned (.int .i64 (worksE m)) ∧ Law w0 w' (Both (Both (D g (crashed m bs)) B) C) := by
  obtain ⟨U, ⟨S, T, ⟨S1, S2, h1, h2, hd2, rfl⟩, hC, hd, rfl⟩, hn, hb⟩ := h
  exact (crash_step K kc bs S1 (Law.readsBools hb (fun k h => hn k (.inl (.inl h))) hr) h1).mono fun e w' ⟨he, hs⟩ => ⟨he, Law.step hn hb (Step.left c (Step.left b hs h2 hd2) hC hd)⟩
theorem Law.rcrash2 {B C : Thing} (b : Res B) (c : Res C) {w0 w : World} {r : Nat} {m : Dsk} (h : Law w0 w (Both (Both B (R r m)) C)) (K : Option Addr) (kc : Nat) (bs : List Bool) (hr : RowBools w0 K bs) :
    Calls Try.prog 33 #[.pointer (some ⟨r, 0, none⟩), .slice K bs.length kc] w fun e w' => e = .returned (.int .i64 (worksE m)) ∧ Law w0 w' (Both (Both B (R r (crashed m bs))) C) := by
  obtain ⟨U, ⟨S, T, ⟨S1, S2, h1, h2, hd2, rfl⟩, hC, hd, rfl⟩, hn, hb⟩ := h
  exact (rcrash_at K kc bs S2 (Law.readsBools hb (fun k h => hn k (.inl (.inr h))) hr) h2).mono fun e w' ⟨he, hs⟩ => ⟨he, Law.step hn hb (Step.left c (Step.right b h1 hs hd2) hC hd)⟩

set_option maxHeartbeats 4000000 in
theorem does_crash {w0 w : World} {g r : Nat} {m : Dsk} (h : Law w0 w (Both (D g m) (R r m))) (n : Int) (s : ByteArray) (K : Option Addr) (c : Nat) (bs : List Bool) (hr : RowBools w0 K bs) :
    Calls Try.prog 21 #[.pointer (some ⟨g, 0, none⟩), .pointer (some ⟨r, 0, none⟩), .agg #[.int .i64 3, .int .i64 n, .string s, .slice K bs.length c]] w fun e w' => e = .returned (.bool true) ∧ Law w0 w' (Both (D g (crashed m bs)) (R r (crashed m bs))) := by
  have hL : Law w0 (w.alloc (.cells #[.int .i64 3, .int .i64 n, .string s, .slice K bs.length c] 31)) (Both (Both (D g m) (R r m)) (OpT w.heap.size (.int .i64 3) (.int .i64 n) (.string s) (.slice K bs.length c))) := by
    obtain ⟨S, hA, hn, hb⟩ := h
    exact Law.step hn hb (Made.with (Both.res (D.res _ _) (R.res _ _)) hA (OpT.made w _ _ _ _))
  have hLd := hL.drew (Both.res (Both.res (D.res _ _) (R.res _ _)) (OpT.res _ _ _ _ _))
  have hC0 : OpC (w.alloc (.cells #[.int .i64 3, .int .i64 n, .string s, .slice K bs.length c] 31)).drew w.heap.size (.int .i64 3) (.int .i64 n) (.string s) (.slice K bs.length c) := hLd.opC
  have d3 : ∀ w', OpC w' w.heap.size (.int .i64 3) (.int .i64 n) (.string s) (.slice K bs.length c) → w'.cell? ⟨w.heap.size, 3, none⟩ = some (.slice K bs.length c) := fun w' hc => cell_of_row _ _ 3 _ _ _ hc
  have K1 := Lib.hid (fun w' (hl : Law w0 w' (Both (Both (D g m) (R r m)) (OpT w.heap.size (.int .i64 3) (.int .i64 n) (.string s) (.slice K bs.length c)))) => hl.crash2 (R.res _ _) (OpT.res _ _ _ _ _) K c bs hr)
  have K2 := Lib.hid (fun w' (hl : Law w0 w' (Both (Both (D g (crashed m bs)) (R r m)) (OpT w.heap.size (.int .i64 3) (.int .i64 n) (.string s) (.slice K bs.length c)))) => hl.rcrash2 (D.res _ _) (OpT.res _ _ _ _ _) K c bs hr)
  clear h hL hr
  go_enter Try.func21, Try.ntmps21
  go_wp2_with fail
  go_region_held3 (fun w' => OpC w' w.heap.size (.int .i64 3) (.int .i64 n) (.string s) (.slice K bs.length c)) (first | assumption)
    (first | (go_at_call 18; refine (K1.out _ (by assumption)).mono ?_; rintro e w2 ⟨rfl, hl2⟩; have hc2 := hl2.opC) | (go_at_call 33; refine (K2.out _ (by assumption)).mono ?_; rintro e w3 ⟨rfl, hl3⟩; have hc3 := hl3.opC))
  all_goals
    go_wp2
    go_ret
    exact ⟨rfl, hl3.drop⟩

set_option maxHeartbeats 4000000 in
theorem does_read {w0 w : World} {g r : Nat} {m : Dsk} (h : Law w0 w (Both (D g m) (R r m))) (n : Int) (s : ByteArray) (K : Option Addr) (l c : Nat) :
    Calls Try.prog 21 #[.pointer (some ⟨g, 0, none⟩), .pointer (some ⟨r, 0, none⟩), .agg #[.int .i64 1, .int .i64 n, .string s, .slice K l c]] w fun e w' => e = .returned (.bool true) ∧ Law w0 w' (Both (D g m) (R r m)) := by
  have hL : Law w0 (w.alloc (.cells #[.int .i64 1, .int .i64 n, .string s, .slice K l c] 31)) (Both (Both (D g m) (R r m)) (OpT w.heap.size (.int .i64 1) (.int .i64 n) (.string s) (.slice K l c))) := by
    obtain ⟨S, hA, hn, hb⟩ := h
    exact Law.step hn hb (Made.with (Both.res (D.res _ _) (R.res _ _)) hA (OpT.made w _ _ _ _))
  have hres : Res (Both (Both (D g m) (R r m)) (OpT w.heap.size (.int .i64 1) (.int .i64 n) (.string s) (.slice K l c))) := Both.res (Both.res (D.res _ _) (R.res _ _)) (OpT.res _ _ _ _ _)
  have d1 : ∀ w', OpC w' w.heap.size (.int .i64 1) (.int .i64 n) (.string s) (.slice K l c) → w'.cell? ⟨w.heap.size, 1, none⟩ = some (.int .i64 n) := fun w' hc => cell_of_row _ _ 1 _ _ _ hc
  have K1 := Lib.hid (fun w' (hl : Law w0 w' (Both (Both (D g m) (R r m)) (OpT w.heap.size (.int .i64 1) (.int .i64 n) (.string s) (.slice K l c)))) => hl.op (op_left (OpT.res _ _ _ _ _) (op_left (R.res _ _) (read_step n))))
  have K2 := Lib.hid (fun w' (hl : Law w0 w' (Both (Both (D g m) (R r m)) (OpT w.heap.size (.int .i64 1) (.int .i64 n) (.string s) (.slice K l c)))) => hl.op (op_left (OpT.res _ _ _ _ _) (op_right (D.res _ _) (rread_at n))))
  clear h
  have e1 := d1 _ hL.opC
  have HL := Lib.hid hL
  clear hL hres
  go_enter Try.func21, Try.ntmps21
  go_wp2_with fail
  refine (K1.out _ HL.out).mono ?_
  rintro e w2 ⟨rfl, hl2⟩
  have e2 := d1 _ hl2.opC
  have HL2 := Lib.hid hl2
  clear hl2
  go_wp2_with fail
  refine (K2.out _ HL2.out).mono ?_
  rintro e w3 ⟨rfl, hl3⟩
  have HL3 := Lib.hid hl3.drop
  clear hl3
  go_wp2_with fail
  go_ret
  exact ⟨rfl, HL3.out⟩

set_option maxHeartbeats 4000000 in
theorem does_copy {w0 w : World} {g r : Nat} {m : Dsk} (h : Law w0 w (Both (D g m) (R r m))) (hmany : m.wait.length ≤ 999999) (q n : Int) (hq : q < 0 ∨ 6 < q) (s : ByteArray) (K : Option Addr) (l c : Nat) :
    Calls Try.prog 21 #[.pointer (some ⟨g, 0, none⟩), .pointer (some ⟨r, 0, none⟩), .agg #[.int .i64 q, .int .i64 n, .string s, .slice K l c]] w fun e w' => e = .returned (.bool true) ∧ Law w0 w' (Both (D g m) (R r m)) := by
  have hL : Law w0 (w.alloc (.cells #[.int .i64 q, .int .i64 n, .string s, .slice K l c] 31)) (Both (Both (D g m) (R r m)) (OpT w.heap.size (.int .i64 q) (.int .i64 n) (.string s) (.slice K l c))) := by
    obtain ⟨S, hA, hn, hb⟩ := h
    exact Law.step hn hb (Made.with (Both.res (D.res _ _) (R.res _ _)) hA (OpT.made w _ _ _ _))
  have hres : Res (Both (Both (D g m) (R r m)) (OpT w.heap.size (.int .i64 q) (.int .i64 n) (.string s) (.slice K l c))) := Both.res (Both.res (D.res _ _) (R.res _ _)) (OpT.res _ _ _ _ _)
  clear h
  have q0 : ¬ q = 0 := by omega
  have q1 : ¬ q = 1 := by omega
  have q2 : ¬ q = 2 := by omega
  have q3 : ¬ q = 3 := by omega
  have q4 : ¬ q = 4 := by omega
  have q5 : ¬ q = 5 := by omega
  have q6 : ¬ q = 6 := by omega
  go_enter Try.func21, Try.ntmps21
  go_wp2_with fail
  refine (hL.copy hres (fun S ⟨S1, S2, ⟨S3, S4, h3, _⟩, _⟩ => ⟨S3, h3⟩) (by omega)).mono ?_
  rintro e w2 ⟨g', rfl, hl2⟩
  have d1 : w2.cell? ⟨w.heap.size, 1, none⟩ = some (.int .i64 n) := cell_of_row _ _ 1 _ _ _ hl2.drop.opC
  have d2 : w2.cell? ⟨w.heap.size, 2, none⟩ = some (.string s) := cell_of_row _ _ 2 _ _ _ hl2.drop.opC
  have HR := Lib.hid hres
  clear hL hres
  have HL2 := Lib.hid hl2
  clear hl2
  go_wp2_with fail
  refine (HL2.out.opR HR.out (write_step n s (by omega))).mono ?_
  rintro e w3 ⟨rfl, hl3⟩
  have HL3 := Lib.hid hl3
  clear hl3 HL2
  go_wp2_with fail
  refine (HL3.out.opR HR.out (flush_at (by have := wrote_wait m n s; omega))).mono ?_
  rintro e w4 ⟨rfl, hl4⟩
  have HL4 := Lib.hid hl4.drop.drop
  clear hl4 HL3
  go_wp2_with fail
  go_ret
  exact ⟨rfl, HL4.out⟩

theorem wrote_more (m : Dsk) (n : Int) (x : ByteArray) : (wrote m n x).wait.length ≤ m.wait.length + 1 := wrote_wait m n x
theorem did_wait (m : Dsk) (o : Op) : (did m o).wait.length ≤ m.wait.length + 1 := by
  have hc : ∀ bs, (crashed m bs).wait.length ≤ m.wait.length + 1 := by
    intro bs
    unfold crashed
    split <;> simp
  unfold did
  split
  · exact wrote_wait m _ _
  split
  · omega
  split
  · exact hc _
  split
  · exact hc _
  split
  · unfold corrupted
    split
    · have := List.length_filter_le (fun x : Ev => !((x.1 : Int) == o.n)) m.wait
      show (stay m.wait o.n).length ≤ _
      unfold stay
      omega
    · omega
  split
  · simp
  split
  · simp
  · omega

theorem does_any {w0 w : World} {g r : Nat} {m : Dsk} (h : Law w0 w (Both (D g m) (R r m))) (hmany : m.wait.length ≤ 999999) (o : Op) (hr : RowBools w0 o.ka o.keep) :
    Calls Try.prog 21 #[.pointer (some ⟨g, 0, none⟩), .pointer (some ⟨r, 0, none⟩), .agg #[.int .i64 o.what, .int .i64 o.n, .string o.s, .slice o.ka o.keep.length o.kc]] w fun e w' => e = .returned (.bool true) ∧ Law w0 w' (Both (D g (did m o)) (R r (did m o))) := by
  obtain ⟨q, n, s, ka, kc, bs⟩ := o
  simp only at hr ⊢
  unfold did
  by_cases h0 : q = 0
  · subst h0
    exact does_write h (by omega) n s ka _ kc
  simp only [if_neg h0]
  by_cases h1 : q = 1
  · subst h1
    exact does_read h n s ka _ kc
  simp only [if_neg h1]
  by_cases h2 : q = 2
  · subst h2
    exact does_flush h (by omega) n s ka _ kc
  simp only [if_neg h2]
  by_cases h3 : q = 3
  · subst h3
    exact does_crash h n s ka kc bs hr
  simp only [if_neg h3]
  by_cases h4 : q = 4
  · subst h4
    exact does_corrupt h (by omega) n s ka _ kc
  simp only [if_neg h4]
  by_cases h5 : q = 5
  · subst h5
    exact does_fail h n s ka _ kc
  simp only [if_neg h5]
  by_cases h6 : q = 6
  · subst h6
    exact does_replace h n s ka _ kc
  simp only [if_neg h6]
  exact does_copy h hmany q n (by omega) s ka _ kc

end Go.Proofs.Ytbmmbgobnoojjaa.Dk
