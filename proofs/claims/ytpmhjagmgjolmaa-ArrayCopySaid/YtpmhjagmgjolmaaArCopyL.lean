/- ArrayCopy's walk. -/
import Derived.Test.YtpmhjagmgjolmaaArSm
namespace Go.Proofs.Ytpmhjagmgjolmaa.Dk
open Go.RowKit

set_option maxRecDepth 100000 in
theorem Law.acopy {w0 w : World} {ga : Nat} {sv : Value} {gs : List Nat} {a : Arr} {B : Nat} (h : Law w0 w (Pa ga sv gs a)) (hs : Small a B) (hB : B ≤ 1000000) (hfew : a.ds.length ≤ 255) :
    Calls Try.prog 16 #[.pointer (some ⟨ga, 0, none⟩)] w fun e w' => ∃ gc sv' gs', e = .returned (.pointer (some ⟨gc, 0, none⟩)) ∧ Law w0 w' (Both (Pa ga sv gs a) (Pa gc sv' gs' a)) := by
  obtain ⟨S, hA, hn, hb⟩ := h
  exact (acopy_at (fun m hm => Nat.le_trans (hs.wait m hm) hB) hfew hA).mono fun e w' ⟨gc, sv', gs', he, hst⟩ => ⟨gc, sv', gs', he, Law.step hn hb hst⟩

def bX : ByteArray := ⟨#[120]⟩
/-- The array behind its first write. -/
def ax (d n : Nat) : Arr := awrote (blanks d n 8) 0 0 bX
set_option maxRecDepth 100000 in
theorem ax_no (d n : Nat) (hd : 1 ≤ d) : ¬ noDisk (blanks d n 8) 0 := by
  unfold noDisk
  simp [Dk.blanks]
  omega
set_option maxRecDepth 100000 in
theorem ax_dk (d n : Nat) (hd : 1 ≤ d) : dk (blanks d n 8) 0 = blank n 8 := by
  unfold dk
  simp [Dk.blanks, show 0 < d by omega]
set_option maxRecDepth 100000 in
theorem ax_check (n : Nat) (hn : 1 ≤ n) (l : Nat) (hl : l ≤ 8) : checkE (blank n 8) 0 l = 0 := by
  unfold checkE
  rw [if_neg (by simp [blank]), if_neg (by simp [blank]; omega), if_neg (by simp [blank]; omega)]
set_option maxRecDepth 100000 in
theorem ax_eq (d n : Nat) (hd : 1 ≤ d) (hn : 1 ≤ n) : ax d n = withDk (blanks d n 8) 0 { blank n 8 with wait := [(0, bX)] } := by
  unfold ax awrote
  rw [if_neg (by simp [Dk.blanks]), if_neg (ax_no d n hd), ax_dk d n hd, show bX.size = 1 from rfl, ax_check n hn 1 (by decide), if_neg (by simp), if_neg (by simp [Dk.blanks])]
  unfold wrote
  rw [show bX.size = 1 from rfl, if_pos (ax_check n hn 1 (by decide))]
  rfl
set_option maxRecDepth 100000 in
theorem ax_E (d n : Nat) (hd : 1 ≤ d) (hn : 1 ≤ n) : awriteE (blanks d n 8) 0 0 1 = 0 := by
  unfold awriteE
  rw [if_neg (by simp [Dk.blanks]), if_neg (ax_no d n hd), ax_dk d n hd, ax_check n hn 1 (by decide), if_neg (by simp), if_neg (by simp [Dk.blanks])]
set_option maxRecDepth 100000 in
theorem ax_len (d n : Nat) (hd : 1 ≤ d) (hn : 1 ≤ n) : (ax d n).ds.length = d := by
  rw [ax_eq d n hd hn]
  simp [withDk, Dk.blanks]
set_option maxRecDepth 100000 in
theorem ax_tells (d n : Nat) (hd : 1 ≤ d) (hn : 1 ≤ n) : areadE (ax d n) 0 0 = 0 ∧ areadV (ax d n) 0 0 = ⟨#[120]⟩ ∧ (ax d n).down = false ∧ aalive (ax d n) 0 = true := by
  have hl := ax_len d n hd hn
  have hno : ¬ noDisk (ax d n) 0 := by
    unfold noDisk
    rw [hl]
    omega
  have hdk : dk (ax d n) 0 = { blank n 8 with wait := [(0, bX)] } := by
    rw [ax_eq d n hd hn]
    unfold dk withDk
    simp [Dk.blanks, show 0 < d by omega]
  have hdown : (ax d n).down = false := by rw [ax_eq d n hd hn]; rfl
  obtain ⟨r1, r2⟩ := read_fine { blank n 8 with wait := [(0, bX)] } 0 rfl (by simp [blank]; omega)
  unfold areadE areadV aalive
  simp only [hdown, Bool.false_eq_true, if_false]
  rw [if_neg hno, if_neg hno, if_neg hno, hdk]
  exact ⟨r1, by rw [show ((0 : Int)) = ((0 : Nat) : Int) from rfl, r2]; rfl, trivial, rfl⟩

set_option maxRecDepth 100000 in
set_option maxHeartbeats 8000000 in
theorem copy_main (d n : Nat) (h1 : 1 ≤ d) (h2 : d ≤ 8) (h3 : 1 ≤ n) (h4 : n ≤ 10) (B : Option Addr) (c : Nat) (os : List Op) (h5 : os.length ≤ 20) (w : World) (ho : RowOps w B os) :
    Calls Try.prog 5 #[.int .i64 (d : Int), .int .i64 (n : Int), .slice B os.length c] w fun e w' => e = .returned (.bool true) ∧ Below w.heap.size w w' := by
  have KL := Lib.hid (fun w => live_true w)
  have HO := Lib.hid ho
  have KN := Lib.hid (anew_yes d n 8 h1 (by omega) h3 (by omega) (by decide) (by decide) w)
  have HT := Lib.hid (ax_tells d n h1 h3)
  clear ho
  have hsm0 : Small (ax d n) 1 := (Small.blanks d n 8).write 0 0 bX
  have HS1 := Lib.hid hsm0
  clear hsm0
  have g1 : ¬ (d : Int) < 1 := by omega
  have g2 : ¬ 8 < (d : Int) := by omega
  have g3 : ¬ (n : Int) < 1 := by omega
  have g4 : ¬ 10 < (n : Int) := by omega
  have g5 : ¬ 20 < (os.length : Int) := by omega
  have hlen := ax_len d n h1 h3
  go_enter Try.func5, Try.ntmps5
  go_wp2_with fail
  refine KN.out.mono ?_
  rintro e w1 ⟨ga, sv, gs, rfl, hm⟩
  have hw := (Law.made (Below.refl w.heap.size w) hm).op (awrite_at 0 0 bX (Nat.le_trans ((Small.blanks d n 8).dk 0) (by omega)) (Small.blanks d n 8).left)
  have H0 := Lib.hid (show Calls Try.prog 12 #[.pointer (some ⟨ga, 0, none⟩), .int .i64 0, .int .i64 0, .string ⟨#[120]⟩] w1 (fun e w' => e = .returned (.int .i64 (awriteE (blanks d n 8) 0 0 1)) ∧ Law w w' (Pa ga sv gs (ax d n))) from hw)
  clear hm KN hw
  go_wp2_with fail
  refine H0.out.mono ?_
  rintro e w2 ⟨rfl, hl⟩
  have H1 := Lib.hid hl
  clear hl H0
  go_wp2_with fail
  refine (H1.out.acopy HS1.out (by decide) (by rw [hlen]; omega)).mono ?_
  rintro e w3 ⟨gc, sv', gs', rfl, hl⟩
  have H2 := Lib.hid hl
  clear hl H1
  go_wp2_with fail
  go_loopg [10] os.length (fun q v10 wx => ∃ (k : Nat) (a : Arr), k + q = os.length ∧ v10 = .int .i64 (k : Int) ∧ Aside (Law w wx (Both (Pa ga sv gs (ax d n)) (Pa gc sv' gs' a)) ∧ Small a (k + 1)))
  case atStart => exact ⟨0, _, by omega, rfl, H2.out, HS1.out⟩
  case round =>
    obtain ⟨k, a, hkq, rfl, HI⟩ := hrel
    cases gk with
    | succ q =>
      have hm : k < os.length := by omega
      have hmi : (k : Int) < (os.length : Int) := by omega
      obtain ⟨o, ho⟩ : ∃ o, os[k]? = some o := ⟨_, List.getElem?_eq_getElem hm⟩
      obtain ⟨ad, rfl, e0, e1, e2, e3, -⟩ := ops_at HO.out HI.out.1.below.drew ho
      have HOk := Lib.hid ho
      clear ho
      have K2 := Lib.hid ((HI.out.1.drew (Both.res (Pa.res _ _ _ _) (Pa.res _ _ _ _))).opR (Pa.res _ _ _ _) (awrite_at o.d o.n o.s (Nat.le_trans (HI.out.2.dk _) (by omega)) HI.out.2.left))
      have HP := Lib.hid ((HI.out.2.write o.d o.n o.s).fail o.d)
      clear HI
      go_wp2_with fail
      go_still_tail 16, (by kernel_rfl)
      change wpList _ _ _ _ _ wr.drew
      go_wp2_with fail
      refine K2.out.mono ?_
      rintro e w4 ⟨rfl, hl⟩
      have HL := Lib.hid hl
      clear hl K2 e0 e1 e2 e3
      obtain ⟨ad', e', f0, f1, -, -, -⟩ := ops_at HO.out HL.out.below HOk.out
      obtain rfl : ad = ad' := Option.some.inj e'
      obtain ⟨z, hz⟩ : ∃ z : Int, (if noDisk (awrote a o.d o.n o.s) o.d then (1 : Int) else 0) = z := ⟨_, rfl⟩
      have K3 := Lib.hid (HL.out.opR (Pa.res _ _ _ _) (afail_at o.d))
      rw [hz] at K3
      clear HL hz
      go_wp2_with fail
      refine K3.out.mono ?_
      rintro e w5 ⟨rfl, hl⟩
      have HL := Lib.hid hl
      clear hl K3
      go_wp2_with fail
      go_roundg q
      case measure => omega
      case rel => exact ⟨k + 1, _, by omega, by go_num, HL.out, HP.out⟩
    | zero =>
      obtain rfl : k = os.length := by omega
      have K2 := Lib.hid (HI.out.1.opR (Pa.res _ _ _ _) (fuse_at 0))
      have HP := Lib.hid (HI.out.2.fuse 0 (by decide))
      clear HI
      go_wp2_with fail
      refine K2.out.mono ?_
      rintro e w4 ⟨rfl, hl⟩
      have K3 := Lib.hid (hl.opR (Pa.res _ _ _ _) (awrite_at 0 0 ⟨#[121]⟩ (Nat.le_trans (HP.out.dk _) (by omega)) HP.out.left))
      clear hl K2
      go_wp2_with fail
      refine K3.out.mono ?_
      rintro e w5 ⟨rfl, hl⟩
      have K4 := Lib.hid (hl.drop.op (aread_at 0 0))
      clear hl K3
      rw [HT.out.1, HT.out.2.1] at K4
      go_wp2_with fail
      refine K4.out.mono ?_
      rintro e w6 ⟨rfl, hl⟩
      have K5 := Lib.hid (hl.op down_at)
      clear hl K4
      rw [HT.out.2.2.1] at K5
      go_wp2_with fail
      refine K5.out.mono ?_
      rintro e w7 ⟨rfl, hl⟩
      have K6 := Lib.hid (hl.op (aalive_at 0))
      clear hl K5
      rw [HT.out.2.2.2] at K6
      go_wp2_with fail
      refine K6.out.mono ?_
      rintro e w8 ⟨rfl, hl⟩
      have HL := Lib.hid hl
      clear hl K6
      go_wp2_with fail
      refine (KL.out _).mono ?_
      rintro e w9 ⟨rfl, b8⟩
      go_wp2_with fail
      go_ret
      exact ⟨rfl, HL.out.below.trans (b8.mono HL.out.below.size)⟩

set_option maxRecDepth 100000 in
set_option maxHeartbeats 4000000 in
theorem copy_else (d n : Int) (B : Option Addr) (l c : Nat) (w : World) (h : d < 1 ∨ 8 < d ∨ n < 1 ∨ 10 < n ∨ 20 < (l : Int)) : Calls Try.prog 5 #[.int .i64 d, .int .i64 n, .slice B l c] w fun e w' => e = .returned (.bool true) ∧ Below w.heap.size w w' := by
  have KL := Lib.hid (live_true w)
  by_cases h0 : d < 1
  · clear h
    go_enter Try.func5, Try.ntmps5
    go_wp2_with fail
    refine KL.out.mono ?_
    rintro e w1 ⟨rfl, b⟩
    go_wp2_with fail
    go_ret
    exact ⟨rfl, b⟩
  by_cases h1 : 8 < d
  · clear h
    go_enter Try.func5, Try.ntmps5
    go_wp2_with fail
    refine KL.out.mono ?_
    rintro e w1 ⟨rfl, b⟩
    go_wp2_with fail
    go_ret
    exact ⟨rfl, b⟩
  by_cases h2 : n < 1
  · clear h
    go_enter Try.func5, Try.ntmps5
    go_wp2_with fail
    refine KL.out.mono ?_
    rintro e w1 ⟨rfl, b⟩
    go_wp2_with fail
    go_ret
    exact ⟨rfl, b⟩
  by_cases h3 : 10 < n
  · clear h
    go_enter Try.func5, Try.ntmps5
    go_wp2_with fail
    refine KL.out.mono ?_
    rintro e w1 ⟨rfl, b⟩
    go_wp2_with fail
    go_ret
    exact ⟨rfl, b⟩
  have h4 : 20 < (l : Int) := by omega
  clear h
  go_enter Try.func5, Try.ntmps5
  go_wp2_with fail
  refine KL.out.mono ?_
  rintro e w1 ⟨rfl, b⟩
  go_wp2_with fail
  go_ret
  exact ⟨rfl, b⟩

set_option maxRecDepth 100000 in
theorem copy_of (d n : Int) (B : Option Addr) (l c : Nat) (os : List Op) (W : World) (_ : (Lit.int .i64 d).wf = true) (_ : (Lit.int .i64 n).wf = true) (h : os.length = l ∧ RowOps W B os) :
    Calls Try.prog 5 #[.int .i64 d, .int .i64 n, .slice B l c] W fun e w' => e = .returned (.bool true) ∧ Below W.heap.size W w' := by
  obtain ⟨rfl, hr⟩ := h
  by_cases hg : d < 1 ∨ 8 < d ∨ n < 1 ∨ 10 < n ∨ 20 < (os.length : Int)
  · exact copy_else d n B _ c W hg
  · obtain ⟨a, rfl⟩ := Int.eq_ofNat_of_zero_le (show 0 ≤ d by omega)
    obtain ⟨b, rfl⟩ := Int.eq_ofNat_of_zero_le (show 0 ≤ n by omega)
    exact copy_main a b (by omega) (by omega) (by omega) (by omega) B c os (by omega) W hr

end Go.Proofs.Ytpmhjagmgjolmaa.Dk
