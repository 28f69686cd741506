/- DiskScripts' walk. -/
import Derived.Test.YtbmmbgobnoojjaaDkDo3
namespace Go.Proofs.Ytbmmbgobnoojjaa.Dk
open Go.RowKit

/-- The disk behind the calls of a script. -/
def didAll (m : Dsk) (os : List Op) : Dsk := os.foldl did m
theorem didAll_snoc (m : Dsk) (os : List Op) (k : Nat) (o : Op) (h : os[k]? = some o) : didAll m (os.take (k + 1)) = did (didAll m (os.take k)) o := by
  unfold didAll
  rw [List.take_add_one, h, List.foldl_append]
  rfl
theorem didAll_wait : ∀ (os : List Op) (m : Dsk), (didAll m os).wait.length ≤ m.wait.length + os.length
  | [], m => by simp [didAll]
  | o :: os, m => by
    have h := didAll_wait os (did m o)
    have h2 := did_wait m o
    show (didAll (did m o) os).wait.length ≤ _
    simp
    omega

theorem Law.rcells {A : Thing} {w0 w : World} {r : Nat} {m : Dsk} (h : Law w0 w (Both A (R r m))) : ∃ A1 c1 A2 c2, w.cell? ⟨r, 0, none⟩ = some (.slice A1 m.sec.length c1) ∧ w.cell? ⟨r, 2, none⟩ = some (.slice A2 m.wait.length c2) ∧ w.cell? ⟨r, 3, none⟩ = some (.bool m.gone) ∧
    m.wait.length ≤ 9223372036854775807 ∧ m.sec.length ≤ 4096 := by
  obtain ⟨U, ⟨S, T, hA, ⟨s, wv, hR, rfl⟩, hd, rfl⟩, hn, hb⟩ := h
  obtain ⟨c1, -, h0, -, h2, h3, -⟩ := hR.reads
  obtain ⟨A2, c2, rfl, hm, -⟩ := hR.waits
  exact ⟨_, c1, A2, c2, h0, h2, h3, hm, hR.most⟩

set_option maxRecDepth 100000 in
set_option maxHeartbeats 8000000 in
theorem scripts_main (n z : Nat) (h1 : 1 ≤ n) (h2 : n ≤ 40) (h3 : 1 ≤ z) (h4 : z ≤ 4096) (B : Option Addr) (c : Nat) (os : List Op) (h5 : os.length ≤ 40) (w : World) (ho : RowOps w B os) :
    Calls Try.prog 7 #[.int .i64 (n : Int), .int .i64 (z : Int), .slice B os.length c] w fun e w' => e = .returned (.bool true) ∧ Below w.heap.size w w' := by
  have KL := Lib.hid (fun w => live_true w)
  have HO := Lib.hid ho
  have HN := Lib.hid (new_made n z h1 (by omega) h3 h4 w)
  have HM := Lib.hid (fun w => rnew_made n z h1 (by omega) h3 h4 w)
  clear ho
  have g2 : ¬ 40 < (n : Int) := by omega
  have g3 : ¬ 40 < (os.length : Int) := by omega
  go_enter Try.func7, Try.ntmps7
  go_wp2_with fail
  refine HN.out.mono ?_
  rintro e w1 ⟨rfl, hm⟩
  have H0 := Lib.hid (Law.made (Below.refl w.heap.size w) hm)
  clear hm HN
  go_wp2_with fail
  refine (HM.out _).mono ?_
  rintro e w2 ⟨rfl, hm⟩
  have h1' : Law w w2 (Both (D (w.heap.size + 1) (blank n z)) (R (w1.heap.size + 1) (blank n z))) := by
    obtain ⟨S, hA, hn, hb⟩ := H0.out
    exact Law.step hn hb (Made.with (D.res _ _) hA hm)
  have H1 := Lib.hid h1'
  clear h1' H0 hm HM
  generalize w.heap.size + 1 = g at H1 ⊢
  generalize w1.heap.size + 1 = r at H1 ⊢
  go_wp2_with fail
  go_loopg [11] os.length (fun q v11 wx => ∃ k : Nat, k + q = os.length ∧ v11 = .int .i64 (k : Int) ∧ Aside (Law w wx (Both (D g (didAll (blank n z) (os.take k))) (R r (didAll (blank n z) (os.take k))))))
  case atStart => exact ⟨0, by omega, rfl, H1.out⟩
  case round =>
    obtain ⟨k, hkq, rfl, HI⟩ := hrel
    cases gk with
    | zero =>
      obtain rfl : k = os.length := by omega
      go_wp2_with fail
      refine (KL.out _).mono ?_
      rintro e w8 ⟨rfl, b8⟩
      go_wp2_with fail
      go_ret
      exact ⟨rfl, HI.out.below.trans (b8.mono HI.out.below.size)⟩
    | succ q =>
      have hm : k < os.length := by omega
      have hmi : (k : Int) < (os.length : Int) := by omega
      obtain ⟨o, ho⟩ : ∃ o, os[k]? = some o := ⟨_, List.getElem?_eq_getElem hm⟩
      have hmany : (didAll (blank n z) (os.take k)).wait.length ≤ 40 := by have h := didAll_wait (os.take k) (blank n z); have h0 : (blank n z).wait.length = 0 := rfl; rw [List.length_take] at h; omega
      obtain ⟨ad, rfl, c0, c1, c2, c3, hkeep⟩ := HO.out k o ho
      have d0 : ∀ w', Below w.heap.size w w' → w'.cell? (ad.add (k * 4)) = some (.int .i64 o.what) := fun w' hb => old_cell hb c0
      have d1 : ∀ w', Below w.heap.size w w' → w'.cell? ⟨(ad.add (k * 4)).block, (ad.add (k * 4)).off + 1, none⟩ = some (.int .i64 o.n) := fun w' hb => by
        show w'.cell? ((ad.add (k * 4)).add 1) = _
        rw [Deep.add_add]
        exact old_cell hb c1
      have d2 : ∀ w', Below w.heap.size w w' → w'.cell? ⟨(ad.add (k * 4)).block, (ad.add (k * 4)).off + 2, none⟩ = some (.string o.s) := fun w' hb => by
        show w'.cell? ((ad.add (k * 4)).add 2) = _
        rw [Deep.add_add]
        exact old_cell hb c2
      have d3 : ∀ w', Below w.heap.size w w' → w'.cell? ⟨(ad.add (k * 4)).block, (ad.add (k * 4)).off + 3, none⟩ = some (.slice o.ka o.keep.length o.kc) := fun w' hb => by
        show w'.cell? ((ad.add (k * 4)).add 3) = _
        rw [Deep.add_add]
        exact old_cell hb c3
      have HKeep := Lib.hid hkeep
      have HOk := Lib.hid ho
      have e2 := d2 wr HI.out.below
      have e3 := d3 wr HI.out.below
      clear hkeep c0 c1 c2 c3 ho
      by_cases hs : 5000 < (o.s.size : Int)
      · go_wp2_with fail
        refine (KL.out _).mono ?_
        rintro e w8 ⟨rfl, b8⟩
        go_wp2_with fail
        go_ret
        exact ⟨rfl, HI.out.below.trans (b8.mono HI.out.below.size)⟩
      by_cases hl : 100 < (o.keep.length : Int)
      · go_wp2_with fail
        refine (KL.out _).mono ?_
        rintro e w8 ⟨rfl, b8⟩
        go_wp2_with fail
        go_ret
        exact ⟨rfl, HI.out.below.trans (b8.mono HI.out.below.size)⟩
      have K1 := Lib.hid (fun w' (hl : Law w w' (Both (D g (didAll (blank n z) (os.take k))) (R r (didAll (blank n z) (os.take k))))) => does_any hl (by omega) o HKeep.out)
      have hsnoc := didAll_snoc (blank n z) os k o HOk.out
      obtain ⟨M, hM⟩ : ∃ M, did (didAll (blank n z) (os.take k)) o = M := ⟨_, rfl⟩
      rw [hM] at K1 hsnoc
      have hbd : Below w.heap.size w wr.drew := HI.out.below.drew
      have hLd := HI.out.drew (Both.res (D.res _ _) (R.res _ _))
      go_wp2_with fail
      clear e2 e3
      go_region_held3 (fun w' => Below w.heap.size w w') (first | assumption)
        (first | (go_at_call 21; refine (K1.out _ (by assumption)).mono ?_; rintro e w3 ⟨rfl, hl3⟩; have hb3 := hl3.below; obtain ⟨A1, a1, A2, a2, r0, r2, r3, rm, rn⟩ := hl3.rcells) | (go_at_call 15; refine (Law.opL (R.res _ _) (by assumption) pending_step).mono ?_; rintro e w4 ⟨rfl, hl4⟩; have hb4 := hl4.below; obtain ⟨A3, a3, A4, a4, s0, s2, s3, sm, sn⟩ := hl4.rcells) | (go_at_call 14; refine (Law.opL (R.res _ _) (by assumption) alive_step).mono ?_; rintro e w5 ⟨rfl, hl5⟩; have hb5 := hl5.below; obtain ⟨A5, a5, A6, a6, t0, t2, t3, tm, tn⟩ := hl5.rcells))
      all_goals
        have H5 := Lib.hid hl5
        clear hl5 hl4 hl3 hb3 hb4 hb5 r0 r2 r3 s0 s2 s3 t2 t3 K1 hLd hbd
        go_wp2_with fail
        go_loopg [12] M.sec.length (fun p v12 wx => ∃ j : Nat, j + p = M.sec.length ∧ v12 = .int .i64 (j : Int) ∧ Aside (Law w wx (Both (D g M) (R r M))))
        case atStart => exact ⟨0, by omega, rfl, H5.out⟩
        case round =>
          obtain ⟨j, hjp, rfl, HJ⟩ := hrel
          obtain ⟨A7, a7, A8, a8, x0, -, -, -, -⟩ := HJ.out.rcells
          cases gk with
          | zero =>
            obtain rfl : j = M.sec.length := by omega
            go_wp2_with fail
            go_roundg q
            case measure => omega
            case rel => exact ⟨k + 1, by omega, by go_num, by rw [hsnoc]; exact HJ.out⟩
          | succ p =>
            have hj : (j : Int) < (M.sec.length : Int) := by omega
            go_wp2_with fail
            refine (HJ.out.opL (R.res _ _) (read_step j)).mono ?_
            rintro e w6 ⟨rfl, h6⟩
            have H6 := Lib.hid h6
            clear h6
            go_wp2_with fail
            refine (H6.out.opR (D.res _ _) (rread_at j)).mono ?_
            rintro e w7 ⟨rfl, h7⟩
            have H7 := Lib.hid h7
            clear h7
            go_wp2_with fail
            go_roundg p
            case measure => omega
            case rel => exact ⟨j + 1, by omega, by go_num, H7.out⟩

end Go.Proofs.Ytbmmbgobnoojjaa.Dk
