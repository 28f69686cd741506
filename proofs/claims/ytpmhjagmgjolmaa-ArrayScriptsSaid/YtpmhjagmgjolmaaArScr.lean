/- ArrayScripts' walk. -/
import Derived.Test.YtpmhjagmgjolmaaArQ
import Derived.Deep.RegionHeld3
import Derived.Deep.QuietTactic
import Derived.BigQuiet
namespace Go.Proofs.Ytpmhjagmgjolmaa.Dk
open Go.RowKit

set_option maxRecDepth 100000 in
theorem adoes_any {w0 w : World} {ga ra : Nat} {sv rv : Value} {gs rs : List Nat} {a : Arr} {B : Nat} (h : Law w0 w (Both (Pa ga sv gs a) (Rf ra rv rs a))) (hsm : Small a B) (hB : B ≤ 999999) (hfew : a.ds.length ≤ 255) (o : Op) (hk : o.keep.length ≤ o.kc ∧ o.kc ≤ 9223372036854775807 ∧ (o.ka = none → o.kc = 0)) (hr : RowBools w0 o.ka o.keep) :
    Calls Try.prog 22 #[.pointer (some ⟨ga, 0, none⟩), .pointer (some ⟨ra, 0, none⟩), .agg #[.int .i64 o.what, .int .i64 o.d, .int .i64 o.n, .string o.s, .slice o.ka o.keep.length o.kc]] w fun e w' => e = .returned (.bool true) ∧ Law w0 w' (Both (Pa ga sv gs (adid a o)) (Rf ra rv rs (adid a o))) := by
  obtain ⟨q, d, n, s, ka, kc, bs⟩ := o
  simp only at hr hk ⊢
  unfold adid
  by_cases h0 : q = 0
  · subst h0
    exact adoes_write h hsm hB hfew d n s ka kc _
  simp only [if_neg h0]
  by_cases h1 : q = 1
  · subst h1
    exact adoes_read h hsm hB hfew d n s ka kc _
  simp only [if_neg h1]
  by_cases h2 : q = 2
  · subst h2
    exact adoes_flush h hsm hB hfew d n s ka kc _
  simp only [if_neg h2]
  by_cases h3 : q = 3
  · subst h3
    exact adoes_crash h hsm hB hfew d n s ka kc bs hk.1 hk.2.1 hk.2.2 hr
  simp only [if_neg h3]
  by_cases h4 : q = 4
  · subst h4
    exact adoes_corrupt h hsm hB hfew d n s ka kc _
  simp only [if_neg h4]
  by_cases h5 : q = 5
  · subst h5
    exact adoes_fail h hsm hB hfew d n s ka kc _
  simp only [if_neg h5]
  by_cases h6 : q = 6
  · subst h6
    exact adoes_replace h hsm hB hfew d n s ka kc _
  simp only [if_neg h6]
  by_cases h7 : q = 7
  · subst h7
    exact adoes_fuse h hsm hB hfew d n s ka kc _
  simp only [if_neg h7]
  exact adoes_copy h hsm hB hfew d n s ka kc _ q (by omega)

set_option maxRecDepth 100000 in
theorem crashed_most (m : Dsk) (bs : List Bool) : (crashed m bs).wait.length ≤ m.wait.length := by
  unfold crashed
  split
  · exact Nat.le_refl _
  · simp
set_option maxRecDepth 100000 in
theorem Small.did {a : Arr} {B : Nat} (h : Small a B) (o : Op) (hn : o.n ≤ 9223372036854775807) : Small (adid a o) (B + 1) := by
  have h1 := h.mono (Nat.le_succ B)
  unfold adid
  split
  · exact h.write _ _ _
  split
  · exact h1
  split
  · unfold aflushed
    split
    · exact h1
    · refine ⟨fun m hm => ?_, h1.left⟩
      obtain ⟨x, hx, rfl⟩ := List.mem_map.1 hm
      exact Nat.le_trans (crashed_most _ _) (h1.wait x hx)
  split
  · refine ⟨fun m hm => ?_, by show (-1 : Int) ≤ _; decide⟩
    obtain ⟨j, hj⟩ := List.mem_iff_getElem?.1 hm
    have hlt : j < a.ds.length := by
      have := (List.getElem?_eq_some_iff.1 hj).1
      have e : (acrashed a o.keep).ds.length = a.ds.length := crashAll_len _ _
      omega
    have hg := crashAll_get a.ds o.keep j a.ds[j] (List.getElem?_eq_getElem hlt)
    have e : (acrashed a o.keep).ds[j]? = (crashAll a.ds o.keep)[j]? := rfl
    rw [e, hg] at hj
    obtain rfl := Option.some.inj hj
    exact Nat.le_trans (crashed_most _ _) (h1.wait _ (List.getElem_mem hlt))
  split
  · exact h1.corrupt _ _ _
  split
  · exact h1.fail _
  split
  · exact h1.replace _
  split
  · exact h1.fuse _ hn
  · exact h1
set_option maxRecDepth 100000 in
theorem adid_len (a : Arr) (o : Op) : (adid a o).ds.length = a.ds.length := by
  have hw : ∀ d m, (withDk a d m).ds.length = a.ds.length := fun d m => by simp [withDk]
  unfold adid awrote aflushed acrashed acorrupted afaild areplaced fused
  repeat' split
  all_goals first | rfl | exact hw _ _ | exact crashAll_len _ _ | (simp only [List.length_map]) | (rw [hw])

/-- The array behind the calls of a script. -/
def adidAll (a : Arr) (os : List Op) : Arr := os.foldl adid a
set_option maxRecDepth 100000 in
theorem adidAll_snoc (a : Arr) (os : List Op) (k : Nat) (o : Op) (h : os[k]? = some o) : adidAll a (os.take (k + 1)) = adid (adidAll a (os.take k)) o := by
  unfold adidAll
  rw [List.take_add_one, h, List.foldl_append]
  rfl

set_option maxRecDepth 100000 in
theorem Law.rcells {A : Thing} {w0 w : World} {ra : Nat} {rv : Value} {rs : List Nat} {a : Arr} (h : Law w0 w (Both A (Rf ra rv rs a))) : ∃ A1 c1, rv = .slice A1 a.ds.length c1 ∧ a.ds.length ≤ 9223372036854775807 ∧ w.cell? ⟨ra, 0, none⟩ = some rv ∧ w.cell? ⟨ra, 2, none⟩ = some (.bool a.down) := by
  obtain ⟨U, ⟨S, T, hA, hR, hd, rfl⟩, hn, hb⟩ := h
  obtain ⟨A1, c1, e, hm, -, x0, -, x2, -, -⟩ := hR.reads
  exact ⟨A1, c1, e, hm, x0, x2⟩

set_option maxRecDepth 100000 in
theorem wpAnyH_imp {P : Program} {md : Region.Mode} {ops : Array Oper} {Q : Exit → Act → World → Prop} {S1 S2 : World → Prop} (h : ∀ w, S2 w → S1 w) : ∀ (fuel : Nat) (listed : Array Bool) (a : Act) (w : World), wpAnyH P md ops Q S2 fuel listed a w → wpAnyH P md ops Q S1 fuel listed a w
  | 0, _, _, _, hh => hh
  | fuel + 1, _, _, _, hh => ⟨hh.1, fun i hi => wpOp_mono (fun a' w' h' => ⟨h w' h'.1, wpAnyH_imp h fuel _ a' w' h'.2⟩) (hh.2 i hi)⟩
set_option maxRecDepth 100000 in
theorem Law.drewN {A : Thing} (a : Res A) {w0 w : World} (h : Law w0 w A) (q : Nat) : Law w0 (w.drewN q) A := by
  obtain ⟨S, hA, hn, hb⟩ := h
  exact Law.step hn hb (Step.same a hA ((Fr.refl _ w).drewN q))

set_option linter.unusedSimpArgs false in
set_option maxRecDepth 100000 in
set_option maxHeartbeats 8000000 in
theorem ascripts_main (dd n : Nat) (h1 : 1 ≤ dd) (h2 : dd ≤ 8) (h3 : 1 ≤ n) (h4 : n ≤ 10) (B : Option Addr) (c : Nat) (os : List Op) (h5 : os.length ≤ 30) (w : World) (ho : RowOps2 w B os) :
    Calls Try.prog 7 #[.int .i64 (dd : Int), .int .i64 (n : Int), .slice B os.length c] w fun e w' => e = .returned (.bool true) ∧ Below w.heap.size w w' := by
  have KL := Lib.hid (fun w => live_true w)
  have HO := Lib.hid ho
  have HN := Lib.hid (anew_yes dd n 8 h1 (by omega) h3 (by omega) (by decide) (by decide) w)
  have HM := Lib.hid (fun w => ranew_yes dd n 8 h1 (by omega) h3 (by omega) (by decide) (by decide) w)
  clear ho
  have g1 : ¬ 8 < (dd : Int) := by omega
  have g2 : ¬ 10 < (n : Int) := by omega
  have g3 : ¬ 30 < (os.length : Int) := by omega
  go_enter Try.func7, Try.ntmps7
  go_wp2_with fail
  refine HN.out.mono ?_
  rintro e w1 ⟨ga, sv, gs, rfl, hm⟩
  have H0 := Lib.hid (Law.made (Below.refl w.heap.size w) hm)
  clear hm HN
  go_wp2_with fail
  refine (HM.out _).mono ?_
  rintro e w2 ⟨ra, rv, rs, rfl, hm⟩
  have h1' : Law w w2 (Both (Pa ga sv gs (blanks dd n 8)) (Rf ra rv rs (blanks dd n 8))) := by
    obtain ⟨S, hA, hn, hb⟩ := H0.out
    exact Law.step hn hb (Made.with (Pa.res _ _ _ _) hA hm)
  have H1 := Lib.hid h1'
  clear h1' H0 hm HM
  go_wp2_with fail
  obtain ⟨A1, c1, hrv, hdm, -, -⟩ := H1.out.rcells
  have hbl : (blanks dd n 8).ds.length = dd := by simp [blanks]
  rw [hbl] at hrv hdm
  subst hrv
  go_loopg [11] os.length (fun q v11 wx => ∃ k : Nat, k + q = os.length ∧ v11 = .int .i64 (k : Int) ∧ Aside (Law w wx (Both (Pa ga sv gs (adidAll (blanks dd n 8) (os.take k))) (Rf ra (.slice A1 dd c1) rs (adidAll (blanks dd n 8) (os.take k)))) ∧ Small (adidAll (blanks dd n 8) (os.take k)) k ∧ (adidAll (blanks dd n 8) (os.take k)).ds.length = dd))
  case atStart => exact ⟨0, by omega, rfl, H1.out, Small.blanks dd n 8, hbl⟩
  case round =>
    obtain ⟨k, hkq, rfl, HI⟩ := hrel
    cases gk with
    | zero =>
      obtain rfl : k = os.length := by omega
      go_wp2_with fail
      refine (KL.out _).mono ?_
      rintro e w8 ⟨rfl, b8⟩
      go_wp2_with fail
      go_ret
      exact ⟨rfl, HI.out.1.below.trans (b8.mono HI.out.1.below.size)⟩
    | succ q =>
      have hm : k < os.length := by omega
      have hmi : (k : Int) < (os.length : Int) := by omega
      obtain ⟨o, ho⟩ : ∃ o, os[k]? = some o := ⟨_, List.getElem?_eq_getElem hm⟩
      obtain ⟨ad, rfl, c0, c1', c2, c3, c4, hkeep⟩ := HO.out.1 k o ho
      have d0 : ∀ w', Below w.heap.size w w' → w'.cell? (ad.add (k * 5)) = some (.int .i64 o.what) := fun w' hb => old_cell hb c0
      have d1 : ∀ w', Below w.heap.size w w' → w'.cell? ⟨(ad.add (k * 5)).block, (ad.add (k * 5)).off + 1, none⟩ = some (.int .i64 o.d) := fun w' hb => by
        show w'.cell? ((ad.add (k * 5)).add 1) = _
        rw [Deep.add_add]
        exact old_cell hb c1'
      have d2 : ∀ w', Below w.heap.size w w' → w'.cell? ⟨(ad.add (k * 5)).block, (ad.add (k * 5)).off + 2, none⟩ = some (.int .i64 o.n) := fun w' hb => by
        show w'.cell? ((ad.add (k * 5)).add 2) = _
        rw [Deep.add_add]
        exact old_cell hb c2
      have d3 : ∀ w', Below w.heap.size w w' → w'.cell? ⟨(ad.add (k * 5)).block, (ad.add (k * 5)).off + 3, none⟩ = some (.string o.s) := fun w' hb => by
        show w'.cell? ((ad.add (k * 5)).add 3) = _
        rw [Deep.add_add]
        exact old_cell hb c3
      have d4 : ∀ w', Below w.heap.size w w' → w'.cell? ⟨(ad.add (k * 5)).block, (ad.add (k * 5)).off + 4, none⟩ = some (.slice o.ka o.keep.length o.kc) := fun w' hb => by
        show w'.cell? ((ad.add (k * 5)).add 4) = _
        rw [Deep.add_add]
        exact old_cell hb c4
      have HKeep := Lib.hid hkeep
      have HOk := Lib.hid ho
      have e3 := d3 wr HI.out.1.below
      have e4 := d4 wr HI.out.1.below
      clear hkeep c0 c1' c2 c3 c4 ho
      by_cases hs : 5000 < (o.s.size : Int)
      · go_wp2_with fail
        refine (KL.out _).mono ?_
        rintro e w8 ⟨rfl, b8⟩
        go_wp2_with fail
        go_ret
        exact ⟨rfl, HI.out.1.below.trans (b8.mono HI.out.1.below.size)⟩
      by_cases hl : 100 < (o.keep.length : Int)
      · go_wp2_with fail
        refine (KL.out _).mono ?_
        rintro e w8 ⟨rfl, b8⟩
        go_wp2_with fail
        go_ret
        exact ⟨rfl, HI.out.1.below.trans (b8.mono HI.out.1.below.size)⟩
      have hk2 := HO.out.2 k o HOk.out
      have K1 := Lib.hid (fun w' (hl : Law w w' (Both (Pa ga sv gs (adidAll (blanks dd n 8) (os.take k))) (Rf ra (.slice A1 dd c1) rs (adidAll (blanks dd n 8) (os.take k))))) => adoes_any hl HI.out.2.1 (by omega) (by rw [HI.out.2.2]; omega) o ⟨hk2.1, hk2.2.1, hk2.2.2.1⟩ HKeep.out)
      have hsnoc := adidAll_snoc (blanks dd n 8) os k o HOk.out
      have hMl := adid_len (adidAll (blanks dd n 8) (os.take k)) o
      rw [HI.out.2.2] at hMl
      have hMs := HI.out.2.1.did o hk2.2.2.2
      obtain ⟨M, hM⟩ : ∃ M, adid (adidAll (blanks dd n 8) (os.take k)) o = M := ⟨_, rfl⟩
      rw [hM] at K1 hsnoc hMl hMs
      have HMs := Lib.hid hMs
      have HSn := Lib.hid hsnoc
      have hbd : Below w.heap.size w wr.drew := HI.out.1.below.drew
      have hLd := HI.out.1.drew (Both.res (Pa.res _ _ _ _) (Rf.res _ _ _ _))
      clear hMs hsnoc hk2 hM
      go_wp2_with fail
      clear e3 e4
      have x0 := d0 _ hbd
      have x1 := d1 _ hbd
      have x2 := d2 _ hbd
      have x3 := d3 _ hbd
      have x4 := d4 _ hbd
      refine wp_region_held_drew (S := fun w' => Below w.heap.size w w') (by kernel_rfl) hbd (fun hHeld => ?_)
      refine wpAnyH_take (i := 0) (v := ?v0) (by simp only [List.getElem?_toArray, List.getElem?_cons_succ, List.getElem?_cons_zero]; rfl) (by kernel_rfl) (by kernel_rfl) (by kernel_rfl) (by exact fun _ _ _ h => h) (Or.inl ⟨by rfl, ?hy0⟩) (by assumption) ?rest0
      case hy0 =>
        intro w' hSw
        go_simp
        with_reducible rfl
      (try simp only [Act.put, List.setIfInBounds_toArray, List.set_cons_zero, List.set_cons_succ])
      refine wpAnyH_take (i := 1) (v := ?v1) (by simp only [List.getElem?_toArray, List.getElem?_cons_succ, List.getElem?_cons_zero]; rfl) (by kernel_rfl) (by kernel_rfl) (by kernel_rfl) (by exact fun _ _ _ h => h) (Or.inl ⟨by rfl, ?hy1⟩) (by assumption) ?rest1
      case hy1 =>
        intro w' hSw
        go_simp
        with_reducible rfl
      (try simp only [Act.put, List.setIfInBounds_toArray, List.set_cons_zero, List.set_cons_succ])
      refine wpAnyH_take (i := 2) (v := ?v2) (by simp only [List.getElem?_toArray, List.getElem?_cons_succ, List.getElem?_cons_zero]; rfl) (by kernel_rfl) (by kernel_rfl) (by kernel_rfl) (by exact fun _ _ _ h => h) (Or.inl ⟨by rfl, ?hy2⟩) (by assumption) ?rest2
      case hy2 =>
        intro w' hSw
        go_simp
        with_reducible rfl
      (try simp only [Act.put, List.setIfInBounds_toArray, List.set_cons_zero, List.set_cons_succ])
      refine wpAnyH_take (i := 3) (v := ?v3) (by simp only [List.getElem?_toArray, List.getElem?_cons_succ, List.getElem?_cons_zero]; rfl) (by kernel_rfl) (by kernel_rfl) (by kernel_rfl) (by exact fun _ _ _ h => h) (Or.inl ⟨by rfl, ?hy3⟩) (by assumption) ?rest3
      case hy3 =>
        intro w' hSw
        go_simp
        with_reducible rfl
      (try simp only [Act.put, List.setIfInBounds_toArray, List.set_cons_zero, List.set_cons_succ])
      refine wpAnyH_take (i := 4) (v := ?v4) (by simp only [List.getElem?_toArray, List.getElem?_cons_succ, List.getElem?_cons_zero]; rfl) (by kernel_rfl) (by kernel_rfl) (by kernel_rfl) (by exact fun _ _ _ h => h) (Or.inl ⟨by rfl, ?hy4⟩) (by assumption) ?rest4
      case hy4 =>
        intro w' hSw
        go_simp
        with_reducible rfl
      (try simp only [Act.put, List.setIfInBounds_toArray, List.set_cons_zero, List.set_cons_succ])
      refine wpAnyH_take (i := 5) (v := ?v5) (by simp only [List.getElem?_toArray, List.getElem?_cons_succ, List.getElem?_cons_zero]; rfl) (by kernel_rfl) (by kernel_rfl) (by kernel_rfl) (by exact fun _ _ _ h => h) (Or.inl ⟨by rfl, ?hy5⟩) (by assumption) ?rest5
      case hy5 =>
        intro w' hSw
        go_simp
        with_reducible rfl
      (try simp only [Act.put, List.setIfInBounds_toArray, List.set_cons_zero, List.set_cons_succ])
      refine wpAnyH_ready (rs := [6]) (by kernel_rfl) (by simp) ?_
      refine AllReadyH.cons (by simp only [List.getElem?_toArray, List.getElem?_cons_succ, List.getElem?_cons_zero]; rfl) (fun K hK => ?_) AllReadyH.nil
      go_simp
      refine (K1.out _ (by assumption)).mono ?_
      rintro e w3 ⟨rfl, hl3⟩
      obtain ⟨-, -, -, -, r0, r2⟩ := hl3.rcells
      have hPA : Calls Try.prog 13 #[.pointer (some ⟨ga, 0, none⟩)] w3 (fun e w' => e = .returned (.bool M.down) ∧ w3 = w') ∧ Calls Try.prog 23 #[.pointer (some ⟨ga, 0, none⟩)] w3 (fun e w' => e = .returned (.int .i64 (dd : Int)) ∧ w3 = w') := by
        obtain ⟨U, ⟨S, T, hA, hB, hd, rfl⟩, hn, hb⟩ := hl3
        have h2 := disks_q hA
        rw [hMl] at h2
        exact ⟨down_q hA, h2⟩
      have KP := Lib.hid hPA
      refine hK.out _ _ hl3.below (fun hHeld => ?_)
      clear hK K
      (try simp only [Act.put, List.setIfInBounds_toArray, List.set_cons_zero, List.set_cons_succ])
      refine wpAnyH_imp (S2 := fun w' => w3 = w') (fun w' h => by rw [← h]; exact hl3.below) _ _ _ _ ?_
      have hH3 : (fun w' => w3 = w') w3 := rfl
      refine wpAnyH_take (i := 7) (v := ?v7) (by simp only [List.getElem?_toArray, List.getElem?_cons_succ, List.getElem?_cons_zero]; rfl) (by kernel_rfl) (by kernel_rfl) (by kernel_rfl) (by exact fun _ _ _ h => h) (Or.inl ⟨by rfl, ?hy7⟩) (by assumption) ?rest7
      case hy7 =>
        intro w' hSw
        obtain rfl : w3 = w' := hSw
        go_simp
        with_reducible rfl
      (try simp only [Act.put, List.setIfInBounds_toArray, List.set_cons_zero, List.set_cons_succ])
      refine wpAnyH_take (i := 8) (v := ?v8) (by simp only [List.getElem?_toArray, List.getElem?_cons_succ, List.getElem?_cons_zero]; rfl) (by kernel_rfl) (by kernel_rfl) (by kernel_rfl) (by exact fun _ _ _ h => h) (Or.inl ⟨by rfl, ?hy8⟩) (by assumption) ?rest8
      case hy8 =>
        intro w' hSw
        obtain rfl : w3 = w' := hSw
        go_simp
        with_reducible rfl
      (try simp only [Act.put, List.setIfInBounds_toArray, List.set_cons_zero, List.set_cons_succ])
      refine wpAnyH_take (i := 9) (v := ?v9) (by simp only [List.getElem?_toArray, List.getElem?_cons_succ, List.getElem?_cons_zero]; rfl) (by kernel_rfl) (by kernel_rfl) (by kernel_rfl) (by exact fun _ _ _ h => h) (Or.inl ⟨by rfl, ?hy9⟩) (by assumption) ?rest9
      case hy9 =>
        intro w' hSw
        obtain rfl : w3 = w' := hSw
        go_simp
        with_reducible rfl
      (try simp only [Act.put, List.setIfInBounds_toArray, List.set_cons_zero, List.set_cons_succ])
      refine wpAnyH_take (i := 11) (v := ?v11) (by simp only [List.getElem?_toArray, List.getElem?_cons_succ, List.getElem?_cons_zero]; rfl) (by kernel_rfl) (by kernel_rfl) (by kernel_rfl) (by exact fun _ _ _ h => h) (Or.inl ⟨by rfl, ?hy11⟩) (by assumption) ?rest11
      case hy11 =>
        intro w' hSw
        obtain rfl : w3 = w' := hSw
        go_simp
        with_reducible rfl
      (try simp only [Act.put, List.setIfInBounds_toArray, List.set_cons_zero, List.set_cons_succ])
      refine wpAnyH_take (i := 12) (v := ?v12) (by simp only [List.getElem?_toArray, List.getElem?_cons_succ, List.getElem?_cons_zero]; rfl) (by kernel_rfl) (by kernel_rfl) (by kernel_rfl) (by exact fun _ _ _ h => h) (Or.inl ⟨by rfl, ?hy12⟩) (by assumption) ?rest12
      case hy12 =>
        intro w' hSw
        obtain rfl : w3 = w' := hSw
        go_simp
        with_reducible rfl
      (try simp only [Act.put, List.setIfInBounds_toArray, List.set_cons_zero, List.set_cons_succ])
      refine wpAnyH_take (i := 13) (v := ?v13) (by simp only [List.getElem?_toArray, List.getElem?_cons_succ, List.getElem?_cons_zero]; rfl) (by kernel_rfl) (by kernel_rfl) (by kernel_rfl) (by exact fun _ _ _ h => h) (Or.inl ⟨by rfl, ?hy13⟩) (by assumption) ?rest13
      case hy13 =>
        intro w' hSw
        obtain rfl : w3 = w' := hSw
        go_simp
        with_reducible rfl
      (try simp only [Act.put, List.setIfInBounds_toArray, List.set_cons_zero, List.set_cons_succ])
      refine wpAnyH_take (i := 14) (v := ?v14) (by simp only [List.getElem?_toArray, List.getElem?_cons_succ, List.getElem?_cons_zero]; rfl) (by kernel_rfl) (by kernel_rfl) (by kernel_rfl) (by exact fun _ _ _ h => h) (Or.inl ⟨by rfl, ?hy14⟩) (by assumption) ?rest14
      case hy14 =>
        intro w' hSw
        obtain rfl : w3 = w' := hSw
        go_simp
        with_reducible rfl
      (try simp only [Act.put, List.setIfInBounds_toArray, List.set_cons_zero, List.set_cons_succ])
      refine wpAnyH_ready (rs := [10]) (by kernel_rfl) (by simp) ?_
      refine AllReadyH.cons (by simp only [List.getElem?_toArray, List.getElem?_cons_succ, List.getElem?_cons_zero]; rfl) (fun K hK => ?_) AllReadyH.nil
      go_simp
      refine KP.out.1.mono ?_
      rintro e w4 ⟨rfl, rfl⟩
      refine hK.out _ _ rfl (fun hHeld => ?_)
      clear hK K
      (try simp only [Act.put, List.setIfInBounds_toArray, List.set_cons_zero, List.set_cons_succ])
      refine wpAnyH_take (i := 15) (v := ?v15) (by simp only [List.getElem?_toArray, List.getElem?_cons_succ, List.getElem?_cons_zero]; rfl) (by kernel_rfl) (by kernel_rfl) (by kernel_rfl) (by exact fun _ _ _ h => h) (Or.inl ⟨by rfl, ?hy15⟩) (by assumption) ?rest15
      case hy15 =>
        intro w' hSw
        obtain rfl : w3 = w' := hSw
        go_simp
        with_reducible rfl
      (try simp only [Act.put, List.setIfInBounds_toArray, List.set_cons_zero, List.set_cons_succ])
      refine wpAnyH_take (i := 16) (v := ?v16) (by simp only [List.getElem?_toArray, List.getElem?_cons_succ, List.getElem?_cons_zero]; rfl) (by kernel_rfl) (by kernel_rfl) (by kernel_rfl) (by exact fun _ _ _ h => h) (Or.inl ⟨by rfl, ?hy16⟩) (by assumption) ?rest16
      case hy16 =>
        intro w' hSw
        obtain rfl : w3 = w' := hSw
        go_simp
        with_reducible rfl
      (try simp only [Act.put, List.setIfInBounds_toArray, List.set_cons_zero, List.set_cons_succ])
      refine wpAnyH_take (i := 17) (v := ?v17) (by simp only [List.getElem?_toArray, List.getElem?_cons_succ, List.getElem?_cons_zero]; rfl) (by kernel_rfl) (by kernel_rfl) (by kernel_rfl) (by exact fun _ _ _ h => h) (Or.inl ⟨by rfl, ?hy17⟩) (by assumption) ?rest17
      case hy17 =>
        intro w' hSw
        obtain rfl : w3 = w' := hSw
        go_simp
        with_reducible rfl
      (try simp only [Act.put, List.setIfInBounds_toArray, List.set_cons_zero, List.set_cons_succ])
      refine wpAnyH_take (i := 18) (v := ?v18) (by simp only [List.getElem?_toArray, List.getElem?_cons_succ, List.getElem?_cons_zero]; rfl) (by kernel_rfl) (by kernel_rfl) (by kernel_rfl) (by exact fun _ _ _ h => h) (Or.inl ⟨by rfl, ?hy18⟩) (by assumption) ?rest18
      case hy18 =>
        intro w' hSw
        obtain rfl : w3 = w' := hSw
        go_simp
        with_reducible rfl
      (try simp only [Act.put, List.setIfInBounds_toArray, List.set_cons_zero, List.set_cons_succ])
      refine wpAnyH_take (i := 20) (v := ?v20) (by simp only [List.getElem?_toArray, List.getElem?_cons_succ, List.getElem?_cons_zero]; rfl) (by kernel_rfl) (by kernel_rfl) (by kernel_rfl) (by exact fun _ _ _ h => h) (Or.inl ⟨by rfl, ?hy20⟩) (by assumption) ?rest20
      case hy20 =>
        intro w' hSw
        obtain rfl : w3 = w' := hSw
        go_simp
        with_reducible rfl
      (try simp only [Act.put, List.setIfInBounds_toArray, List.set_cons_zero, List.set_cons_succ])
      refine wpAnyH_take (i := 21) (v := ?v21) (by simp only [List.getElem?_toArray, List.getElem?_cons_succ, List.getElem?_cons_zero]; rfl) (by kernel_rfl) (by kernel_rfl) (by kernel_rfl) (by exact fun _ _ _ h => h) (Or.inl ⟨by rfl, ?hy21⟩) (by assumption) ?rest21
      case hy21 =>
        intro w' hSw
        obtain rfl : w3 = w' := hSw
        go_simp
        with_reducible rfl
      (try simp only [Act.put, List.setIfInBounds_toArray, List.set_cons_zero, List.set_cons_succ])
      refine wpAnyH_take (i := 22) (v := ?v22) (by simp only [List.getElem?_toArray, List.getElem?_cons_succ, List.getElem?_cons_zero]; rfl) (by kernel_rfl) (by kernel_rfl) (by kernel_rfl) (by exact fun _ _ _ h => h) (Or.inl ⟨by rfl, ?hy22⟩) (by assumption) ?rest22
      case hy22 =>
        intro w' hSw
        obtain rfl : w3 = w' := hSw
        go_simp
        with_reducible rfl
      (try simp only [Act.put, List.setIfInBounds_toArray, List.set_cons_zero, List.set_cons_succ])
      refine wpAnyH_take (i := 23) (v := ?v23) (by simp only [List.getElem?_toArray, List.getElem?_cons_succ, List.getElem?_cons_zero]; rfl) (by kernel_rfl) (by kernel_rfl) (by kernel_rfl) (by exact fun _ _ _ h => h) (Or.inl ⟨by rfl, ?hy23⟩) (by assumption) ?rest23
      case hy23 =>
        intro w' hSw
        obtain rfl : w3 = w' := hSw
        go_simp
        with_reducible rfl
      (try simp only [Act.put, List.setIfInBounds_toArray, List.set_cons_zero, List.set_cons_succ])
      refine wpAnyH_take (i := 24) (v := ?v24) (by simp only [List.getElem?_toArray, List.getElem?_cons_succ, List.getElem?_cons_zero]; rfl) (by kernel_rfl) (by kernel_rfl) (by kernel_rfl) (by exact fun _ _ _ h => h) (Or.inl ⟨by rfl, ?hy24⟩) (by assumption) ?rest24
      case hy24 =>
        intro w' hSw
        obtain rfl : w3 = w' := hSw
        go_simp
        with_reducible rfl
      (try simp only [Act.put, List.setIfInBounds_toArray, List.set_cons_zero, List.set_cons_succ])
      refine wpAnyH_ready (rs := [19]) (by kernel_rfl) (by simp) ?_
      refine AllReadyH.cons (by simp only [List.getElem?_toArray, List.getElem?_cons_succ, List.getElem?_cons_zero]; rfl) (fun K hK => ?_) AllReadyH.nil
      go_simp
      refine KP.out.2.mono ?_
      rintro e w4 ⟨rfl, rfl⟩
      refine hK.out _ _ rfl (fun hHeld => ?_)
      clear hK K
      (try simp only [Act.put, List.setIfInBounds_toArray, List.set_cons_zero, List.set_cons_succ])
      refine wpAnyH_take (i := 25) (v := ?v25) (by simp only [List.getElem?_toArray, List.getElem?_cons_succ, List.getElem?_cons_zero]; rfl) (by kernel_rfl) (by kernel_rfl) (by kernel_rfl) (by exact fun _ _ _ h => h) (Or.inl ⟨by rfl, ?hy25⟩) (by assumption) ?rest25
      case hy25 =>
        intro w' hSw
        obtain rfl : w3 = w' := hSw
        go_simp
        with_reducible rfl
      (try simp only [Act.put, List.setIfInBounds_toArray, List.set_cons_zero, List.set_cons_succ])
      refine wpAnyH_take (i := 26) (v := ?v26) (by simp only [List.getElem?_toArray, List.getElem?_cons_succ, List.getElem?_cons_zero]; rfl) (by kernel_rfl) (by kernel_rfl) (by kernel_rfl) (by exact fun _ _ _ h => h) (Or.inl ⟨by rfl, ?hy26⟩) (by assumption) ?rest26
      case hy26 =>
        intro w' hSw
        obtain rfl : w3 = w' := hSw
        go_simp
        with_reducible rfl
      (try simp only [Act.put, List.setIfInBounds_toArray, List.set_cons_zero, List.set_cons_succ])
      refine wpAnyH_done (by kernel_rfl) ?_ _
      have H5 := Lib.hid hl3
      clear hl3 hPA KP r0 r2 K1 hLd hbd x0 x1 x2 x3 x4 d0 d1 d2 d3 d4 HI
      go_wp2_with fail
      go_loopg [12] dd (fun p v12 wx => ∃ j : Nat, j + p = dd ∧ v12 = .int .i64 (j : Int) ∧ Aside (Law w wx (Both (Pa ga sv gs M) (Rf ra (.slice A1 dd c1) rs M))))
      case atStart => exact ⟨0, by omega, rfl, H5.out⟩
      case round =>
        obtain ⟨j, hjp, rfl, HJ⟩ := hrel
        cases gk with
        | zero =>
          obtain rfl : j = dd := by omega
          go_wp2_with fail
          go_roundg q
          case measure => omega
          case rel => exact ⟨k + 1, by omega, by go_num, by rw [HSn.out]; exact ⟨HJ.out, HMs.out, hMl⟩⟩
        | succ p =>
          have hj : j < dd := by omega
          have hji : (j : Int) < (dd : Int) := by omega
          obtain ⟨m, hmj⟩ : ∃ m, M.ds[j]? = some m := ⟨_, List.getElem?_eq_getElem (by omega)⟩
          obtain ⟨ad1, rfl, rj, y0, y1, y3, ka⟩ : ∃ ad1, A1 = some ad1 ∧ ∃ rj, wr.cell? ⟨ra, 0, none⟩ = some (.slice A1 dd c1) ∧ wr.cell? (ad1.add j) = some (.pointer (some ⟨rj, 0, none⟩)) ∧ wr.cell? ⟨rj, 3, none⟩ = some (.bool m.gone) ∧
              (∀ nq, Calls Try.prog 18 #[.pointer (some ⟨ga, 0, none⟩), .int .i64 (j : Int)] (wr.drewN nq) fun e w' => e = .returned (.bool (!m.gone)) ∧ w' = wr.drewN nq) := by
            obtain ⟨U, ⟨S, T, hA, hB, hd, rfl⟩, hn, hb⟩ := HJ.out
            have hlen : j < rs.length := by rw [hB.1, hMl]; exact hj
            have hg : rs[j]? = some rs[j] := List.getElem?_eq_getElem hlen
            obtain ⟨ad1, e1, hc⟩ := hB.elem hg
            obtain ⟨V, ⟨s', wv', hR, -⟩, -⟩ := Ar.get hmj hg hB
            obtain ⟨_, -, -, -, -, y3, -⟩ := hR.reads
            obtain ⟨_, _, -, -, -, y0, -⟩ := hB.reads
            refine ⟨ad1, e1, rs[j], y0, hc, y3, fun nq => ?_⟩
            have hA' := (Pa.res _ _ _ _).frame hA ((Fr.refl fresh wr).drewN nq) (fun _ _ h => h)
            exact (aalive_q hA' j m hmj).mono fun e w' ⟨he, hw⟩ => ⟨he, hw.symm⟩
          have KA := Lib.hid ka
          clear ka
          go_wp2_with fail
          go_quiet (first | (go_at_call 18; exact Calls.quiet_of_same (KA.out _)))
          have HJ2 := Lib.hid (HJ.out.drewN (Both.res (Pa.res _ _ _ _) (Rf.res _ _ _ _)) nq)
          clear HJ y0 y1 y3 KA
          go_wp2_with fail
          go_loopg [13] n (fun r v13 wx => ∃ i : Nat, i + r = n ∧ v13 = .int .i64 (i : Int) ∧ Aside (Law w wx (Both (Pa ga sv gs M) (Rf ra (.slice (some ad1) dd c1) rs M))))
          case atStart => exact ⟨0, by omega, rfl, HJ2.out⟩
          case round =>
            obtain ⟨i, hir, rfl, HX⟩ := hrel
            cases gk with
            | zero =>
              obtain rfl : i = n := by omega
              go_wp2_with fail
              go_roundg p
              case measure => omega
              case rel => exact ⟨j + 1, by omega, by go_num, HX.out⟩
            | succ r =>
              have hi : i < n := by omega
              have hii : (i : Int) < (n : Int) := by omega
              have K6 := Lib.hid (HX.out.opL (Rf.res _ _ _ _) (aread_at (j : Int) (i : Int)))
              clear HX
              go_wp2_with fail
              refine K6.out.mono ?_
              rintro e w6 ⟨rfl, h6⟩
              have K7 := Lib.hid (h6.opR (Pa.res _ _ _ _) (raread_at (j : Int) (i : Int)))
              clear h6 K6
              go_wp2_with fail
              refine K7.out.mono ?_
              rintro e w7 ⟨rfl, h7⟩
              have H7 := Lib.hid h7
              clear h7 K7
              go_wp2_with fail
              go_roundg r
              case measure => omega
              case rel => exact ⟨i + 1, by omega, by go_num, H7.out⟩

end Go.Proofs.Ytpmhjagmgjolmaa.Dk
