/- DiskScripts' walk. -/
import Derived.Test.YtbmmbgobnoojjaaDkDo3
namespace Go.Proofs.Ytbmmbgobnoojjaa.Dk
open Go.RowKit

/-- The disk behind the calls of a script. -/
def didAll (m : Dsk) (os : List Op) : Dsk := os.foldl did m
theorem didAll_snoc (m : Dsk) (os : List Op) (k : Nat) (o : Op) (h : os[k]? = some o) : didAll m (os.take (k + 1)) = did (didAll m (os.take k)) o := by
  unfold didAll
  rw [List.take_add_one, h, List.foldl_append]
  rfl
theorem didAll_wait : ∀ (os : List Op) (m : Dsk), (didAll m os).wait.length ≤ m.wait.length + os.length
  | [], m => by simp [didAll]
  | o :: os, m => by
    have h := didAll_wait os (did m o)
    have h2 := did_wait m o
    show (didAll (did m o) os).wait.length ≤ _
    simp
    omega

theorem Law.rcells {A : Thing} {w0 w : World} {r : Nat} {m : Dsk} (h : Law w0 w (Both A (R r m))) : ∃ A1 c1 A2 c2, w.cell? ⟨r, 0, none⟩ = some (.slice A1 m.sec.length c1) ∧ w.cell? ⟨r, 2, none⟩ = some (.slice A2 m.wait.length c2) ∧ w.cell? ⟨r, 3, none⟩ = some (.bool m.gone) ∧
    m.wait.length ≤ 9223372036854775807 ∧ m.sec.length ≤ 4096 := by
  obtain ⟨U, ⟨S, T, hA, ⟨s, wv, hR, rfl⟩, hd, rfl⟩, hn, hb⟩ := h
  obtain ⟨c1, -, h0, -, h2, h3, -⟩ := hR.reads
  obtain ⟨A2, c2, rfl, hm, -⟩ := hR.waits
  exact ⟨_, c1, A2, c2, h0, h2, h3, hm, hR.most⟩

theorem wpAnyH_imp {P : Program} {md : Region.Mode} {ops : Array Oper} {Q : Exit → Act → World → Prop} {S1 S2 : World → Prop} (h : ∀ w, S2 w → S1 w) : ∀ (fuel : Nat) (listed : Array Bool) (a : Act) (w : World), wpAnyH P md ops Q S2 fuel listed a w → wpAnyH P md ops Q S1 fuel listed a w
  | 0, _, _, _, hh => hh
  | fuel + 1, _, _, _, hh => ⟨hh.1, fun i hi => wpOp_mono (fun a' w' h' => ⟨h w' h'.1, wpAnyH_imp h fuel _ a' w' h'.2⟩) (hh.2 i hi)⟩

set_option linter.unusedSimpArgs false in
set_option maxRecDepth 100000 in
set_option maxHeartbeats 8000000 in
theorem scripts_main (n z : Nat) (h1 : 1 ≤ n) (h2 : n ≤ 40) (h3 : 1 ≤ z) (h4 : z ≤ 4096) (B : Option Addr) (c : Nat) (os : List Op) (h5 : os.length ≤ 40) (w : World) (ho : RowOps w B os) :
    Calls Try.prog 7 #[.int .i64 (n : Int), .int .i64 (z : Int), .slice B os.length c] w fun e w' => e = .returned (.bool true) ∧ Below w.heap.size w w' := by
  have KL := Lib.hid (fun w => live_true w)
  have HO := Lib.hid ho
  have HN := Lib.hid (new_made n z h1 (by omega) h3 h4 w)
  have HM := Lib.hid (fun w => rnew_made n z h1 (by omega) h3 h4 w)
  clear ho
  have g2 : ¬ 40 < (n : Int) := by omega
  have g3 : ¬ 40 < (os.length : Int) := by omega
  go_enter Try.func7, Try.ntmps7
  go_wp2_with fail
  refine HN.out.mono ?_
  rintro e w1 ⟨rfl, hm⟩
  have H0 := Lib.hid (Law.made (Below.refl w.heap.size w) hm)
  clear hm HN
  go_wp2_with fail
  refine (HM.out _).mono ?_
  rintro e w2 ⟨rfl, hm⟩
  have h1' : Law w w2 (Both (D (w.heap.size + 1) (blank n z)) (R (w1.heap.size + 1) (blank n z))) := by
    obtain ⟨S, hA, hn, hb⟩ := H0.out
    exact Law.step hn hb (Made.with (D.res _ _) hA hm)
  have H1 := Lib.hid h1'
  clear h1' H0 hm HM
  generalize w.heap.size + 1 = g at H1 ⊢
  generalize w1.heap.size + 1 = r at H1 ⊢
  go_wp2_with fail
  go_loopg [11] os.length (fun q v11 wx => ∃ k : Nat, k + q = os.length ∧ v11 = .int .i64 (k : Int) ∧ Aside (Law w wx (Both (D g (didAll (blank n z) (os.take k))) (R r (didAll (blank n z) (os.take k))))))
  case atStart => exact ⟨0, by omega, rfl, H1.out⟩
  case round =>
    obtain ⟨k, hkq, rfl, HI⟩ := hrel
    cases gk with
    | zero =>
      obtain rfl : k = os.length := by omega
      go_wp2_with fail
      refine (KL.out _).mono ?_
      rintro e w8 ⟨rfl, b8⟩
      go_wp2_with fail
      go_ret
      exact ⟨rfl, HI.out.below.trans (b8.mono HI.out.below.size)⟩
    | succ q =>
      have hm : k < os.length := by omega
      have hmi : (k : Int) < (os.length : Int) := by omega
      obtain ⟨o, ho⟩ : ∃ o, os[k]? = some o := ⟨_, List.getElem?_eq_getElem hm⟩
      have hmany : (didAll (blank n z) (os.take k)).wait.length ≤ 40 := by have h := didAll_wait (os.take k) (blank n z); have h0 : (blank n z).wait.length = 0 := rfl; rw [List.length_take] at h; omega
      obtain ⟨ad, rfl, c0, c1, c2, c3, hkeep⟩ := HO.out k o ho
      have d0 : ∀ w', Below w.heap.size w w' → w'.cell? (ad.add (k * 4)) = some (.int .i64 o.what) := fun w' hb => old_cell hb c0
      have d1 : ∀ w', Below w.heap.size w w' → w'.cell? ⟨(ad.add (k * 4)).block, (ad.add (k * 4)).off + 1, none⟩ = some (.int .i64 o.n) := fun w' hb => by
        show w'.cell? ((ad.add (k * 4)).add 1) = _
        rw [Deep.add_add]
        exact old_cell hb c1
      have d2 : ∀ w', Below w.heap.size w w' → w'.cell? ⟨(ad.add (k * 4)).block, (ad.add (k * 4)).off + 2, none⟩ = some (.string o.s) := fun w' hb => by
        show w'.cell? ((ad.add (k * 4)).add 2) = _
        rw [Deep.add_add]
        exact old_cell hb c2
      have d3 : ∀ w', Below w.heap.size w w' → w'.cell? ⟨(ad.add (k * 4)).block, (ad.add (k * 4)).off + 3, none⟩ = some (.slice o.ka o.keep.length o.kc) := fun w' hb => by
        show w'.cell? ((ad.add (k * 4)).add 3) = _
        rw [Deep.add_add]
        exact old_cell hb c3
      have HKeep := Lib.hid hkeep
      have HOk := Lib.hid ho
      have e2 := d2 wr HI.out.below
      have e3 := d3 wr HI.out.below
      clear hkeep c0 c1 c2 c3 ho
      by_cases hs : 5000 < (o.s.size : Int)
      · go_wp2_with fail
        refine (KL.out _).mono ?_
        rintro e w8 ⟨rfl, b8⟩
        go_wp2_with fail
        go_ret
        exact ⟨rfl, HI.out.below.trans (b8.mono HI.out.below.size)⟩
      by_cases hl : 100 < (o.keep.length : Int)
      · go_wp2_with fail
        refine (KL.out _).mono ?_
        rintro e w8 ⟨rfl, b8⟩
        go_wp2_with fail
        go_ret
        exact ⟨rfl, HI.out.below.trans (b8.mono HI.out.below.size)⟩
      have K1 := Lib.hid (fun w' (hl : Law w w' (Both (D g (didAll (blank n z) (os.take k))) (R r (didAll (blank n z) (os.take k))))) => does_any hl (by omega) o HKeep.out)
      have hsnoc := didAll_snoc (blank n z) os k o HOk.out
      obtain ⟨M, hM⟩ : ∃ M, did (didAll (blank n z) (os.take k)) o = M := ⟨_, rfl⟩
      rw [hM] at K1 hsnoc
      have hbd : Below w.heap.size w wr.drew := HI.out.below.drew
      have hLd := HI.out.drew (Both.res (D.res _ _) (R.res _ _))
      go_wp2_with fail
      clear e2 e3
      refine wp_region_held_drew (S := fun w' => Below w.heap.size w w') (by kernel_rfl) hbd (fun hHeld => ?_)
      refine wpAnyH_take (i := 0) (v := ?v0) (by simp only [List.getElem?_toArray, List.getElem?_cons_succ, List.getElem?_cons_zero]; rfl) (by kernel_rfl) (by kernel_rfl) (by kernel_rfl) (by exact fun _ _ _ h => h) (Or.inl ⟨by rfl, ?hy0⟩) (by assumption) ?rest0
      case hy0 =>
        intro w' hSw
        go_simp
        with_reducible rfl
      (try simp only [Act.put, List.setIfInBounds_toArray, List.set_cons_zero, List.set_cons_succ])
      refine wpAnyH_take (i := 1) (v := ?v1) (by simp only [List.getElem?_toArray, List.getElem?_cons_succ, List.getElem?_cons_zero]; rfl) (by kernel_rfl) (by kernel_rfl) (by kernel_rfl) (by exact fun _ _ _ h => h) (Or.inl ⟨by rfl, ?hy1⟩) (by assumption) ?rest1
      case hy1 =>
        intro w' hSw
        go_simp
        with_reducible rfl
      (try simp only [Act.put, List.setIfInBounds_toArray, List.set_cons_zero, List.set_cons_succ])
      refine wpAnyH_take (i := 2) (v := ?v2) (by simp only [List.getElem?_toArray, List.getElem?_cons_succ, List.getElem?_cons_zero]; rfl) (by kernel_rfl) (by kernel_rfl) (by kernel_rfl) (by exact fun _ _ _ h => h) (Or.inl ⟨by rfl, ?hy2⟩) (by assumption) ?rest2
      case hy2 =>
        intro w' hSw
        go_simp
        with_reducible rfl
      (try simp only [Act.put, List.setIfInBounds_toArray, List.set_cons_zero, List.set_cons_succ])
      refine wpAnyH_take (i := 3) (v := ?v3) (by simp only [List.getElem?_toArray, List.getElem?_cons_succ, List.getElem?_cons_zero]; rfl) (by kernel_rfl) (by kernel_rfl) (by kernel_rfl) (by exact fun _ _ _ h => h) (Or.inl ⟨by rfl, ?hy3⟩) (by assumption) ?rest3
      case hy3 =>
        intro w' hSw
        go_simp
        with_reducible rfl
      (try simp only [Act.put, List.setIfInBounds_toArray, List.set_cons_zero, List.set_cons_succ])
      refine wpAnyH_take (i := 4) (v := ?v4) (by simp only [List.getElem?_toArray, List.getElem?_cons_succ, List.getElem?_cons_zero]; rfl) (by kernel_rfl) (by kernel_rfl) (by kernel_rfl) (by exact fun _ _ _ h => h) (Or.inl ⟨by rfl, ?hy4⟩) (by assumption) ?rest4
      case hy4 =>
        intro w' hSw
        go_simp
        with_reducible rfl
      (try simp only [Act.put, List.setIfInBounds_toArray, List.set_cons_zero, List.set_cons_succ])
      refine wpAnyH_take (i := 5) (v := ?v5) (by simp only [List.getElem?_toArray, List.getElem?_cons_succ, List.getElem?_cons_zero]; rfl) (by kernel_rfl) (by kernel_rfl) (by kernel_rfl) (by exact fun _ _ _ h => h) (Or.inl ⟨by rfl, ?hy5⟩) (by assumption) ?rest5
      case hy5 =>
        intro w' hSw
        go_simp
        with_reducible rfl
      (try simp only [Act.put, List.setIfInBounds_toArray, List.set_cons_zero, List.set_cons_succ])
      refine wpAnyH_ready (rs := [6]) (by kernel_rfl) (by simp) ?_
      refine AllReadyH.cons (by simp only [List.getElem?_toArray, List.getElem?_cons_succ, List.getElem?_cons_zero]; rfl) (fun K hK => ?_) AllReadyH.nil
      go_simp
      refine (K1.out _ (by assumption)).mono ?_
      rintro e w3 ⟨rfl, hl3⟩
      obtain ⟨A1, a1, A2, a2, r0, r2, r3, rm, rn⟩ := hl3.rcells
      have hPA : Calls Try.prog 15 #[.pointer (some ⟨g, 0, none⟩)] w3 (fun e w' => e = .returned (.int .i64 (M.wait.length : Int)) ∧ w3 = w') ∧ Calls Try.prog 14 #[.pointer (some ⟨g, 0, none⟩)] w3 (fun e w' => e = .returned (.bool (!M.gone)) ∧ w3 = w') := by
        obtain ⟨U, ⟨S, T, hA, hB, hd, rfl⟩, hn, hb⟩ := hl3
        exact ⟨pending_at hA, alive_at hA⟩
      have KP := Lib.hid hPA
      refine hK.out _ _ hl3.below (fun hHeld => ?_)
      clear hK K
      (try simp only [Act.put, List.setIfInBounds_toArray, List.set_cons_zero, List.set_cons_succ])
      refine wpAnyH_imp (S2 := fun w' => w3 = w') (fun w' h => by rw [← h]; exact hl3.below) _ _ _ _ ?_
      have hH3 : (fun w' => w3 = w') w3 := rfl
      refine wpAnyH_take (i := 7) (v := ?v7) (by simp only [List.getElem?_toArray, List.getElem?_cons_succ, List.getElem?_cons_zero]; rfl) (by kernel_rfl) (by kernel_rfl) (by kernel_rfl) (by exact fun _ _ _ h => h) (Or.inl ⟨by rfl, ?hy7⟩) (by assumption) ?rest7
      case hy7 =>
        intro w' hSw
        obtain rfl : w3 = w' := hSw
        go_simp
        with_reducible rfl
      (try simp only [Act.put, List.setIfInBounds_toArray, List.set_cons_zero, List.set_cons_succ])
      refine wpAnyH_take (i := 8) (v := ?v8) (by simp only [List.getElem?_toArray, List.getElem?_cons_succ, List.getElem?_cons_zero]; rfl) (by kernel_rfl) (by kernel_rfl) (by kernel_rfl) (by exact fun _ _ _ h => h) (Or.inl ⟨by rfl, ?hy8⟩) (by assumption) ?rest8
      case hy8 =>
        intro w' hSw
        obtain rfl : w3 = w' := hSw
        go_simp
        with_reducible rfl
      (try simp only [Act.put, List.setIfInBounds_toArray, List.set_cons_zero, List.set_cons_succ])
      refine wpAnyH_take (i := 9) (v := ?v9) (by simp only [List.getElem?_toArray, List.getElem?_cons_succ, List.getElem?_cons_zero]; rfl) (by kernel_rfl) (by kernel_rfl) (by kernel_rfl) (by exact fun _ _ _ h => h) (Or.inl ⟨by rfl, ?hy9⟩) (by assumption) ?rest9
      case hy9 =>
        intro w' hSw
        obtain rfl : w3 = w' := hSw
        go_simp
        with_reducible rfl
      (try simp only [Act.put, List.setIfInBounds_toArray, List.set_cons_zero, List.set_cons_succ])
      refine wpAnyH_take (i := 11) (v := ?v11) (by simp only [List.getElem?_toArray, List.getElem?_cons_succ, List.getElem?_cons_zero]; rfl) (by kernel_rfl) (by kernel_rfl) (by kernel_rfl) (by exact fun _ _ _ h => h) (Or.inl ⟨by rfl, ?hy11⟩) (by assumption) ?rest11
      case hy11 =>
        intro w' hSw
        obtain rfl : w3 = w' := hSw
        go_simp
        with_reducible rfl
      (try simp only [Act.put, List.setIfInBounds_toArray, List.set_cons_zero, List.set_cons_succ])
      refine wpAnyH_take (i := 12) (v := ?v12) (by simp only [List.getElem?_toArray, List.getElem?_cons_succ, List.getElem?_cons_zero]; rfl) (by kernel_rfl) (by kernel_rfl) (by kernel_rfl) (by exact fun _ _ _ h => h) (Or.inl ⟨by rfl, ?hy12⟩) (by assumption) ?rest12
      case hy12 =>
        intro w' hSw
        obtain rfl : w3 = w' := hSw
        go_simp
        with_reducible rfl
      (try simp only [Act.put, List.setIfInBounds_toArray, List.set_cons_zero, List.set_cons_succ])
      refine wpAnyH_take (i := 13) (v := ?v13) (by simp only [List.getElem?_toArray, List.getElem?_cons_succ, List.getElem?_cons_zero]; rfl) (by kernel_rfl) (by kernel_rfl) (by kernel_rfl) (by exact fun _ _ _ h => h) (Or.inl ⟨by rfl, ?hy13⟩) (by assumption) ?rest13
      case hy13 =>
        intro w' hSw
        obtain rfl : w3 = w' := hSw
        go_simp
        with_reducible rfl
      (try simp only [Act.put, List.setIfInBounds_toArray, List.set_cons_zero, List.set_cons_succ])
      refine wpAnyH_take (i := 14) (v := ?v14) (by simp only [List.getElem?_toArray, List.getElem?_cons_succ, List.getElem?_cons_zero]; rfl) (by kernel_rfl) (by kernel_rfl) (by kernel_rfl) (by exact fun _ _ _ h => h) (Or.inl ⟨by rfl, ?hy14⟩) (by assumption) ?rest14
      case hy14 =>
        intro w' hSw
        obtain rfl : w3 = w' := hSw
        go_simp
        with_reducible rfl
      (try simp only [Act.put, List.setIfInBounds_toArray, List.set_cons_zero, List.set_cons_succ])
      refine wpAnyH_take (i := 15) (v := ?v15) (by simp only [List.getElem?_toArray, List.getElem?_cons_succ, List.getElem?_cons_zero]; rfl) (by kernel_rfl) (by kernel_rfl) (by kernel_rfl) (by exact fun _ _ _ h => h) (Or.inl ⟨by rfl, ?hy15⟩) (by assumption) ?rest15
      case hy15 =>
        intro w' hSw
        obtain rfl : w3 = w' := hSw
        go_simp
        with_reducible rfl
      (try simp only [Act.put, List.setIfInBounds_toArray, List.set_cons_zero, List.set_cons_succ])
      refine wpAnyH_ready (rs := [10]) (by kernel_rfl) (by simp) ?_
      refine AllReadyH.cons (by simp only [List.getElem?_toArray, List.getElem?_cons_succ, List.getElem?_cons_zero]; rfl) (fun K hK => ?_) AllReadyH.nil
      go_simp
      refine KP.out.1.mono ?_
      rintro e w4 ⟨rfl, rfl⟩
      refine hK.out _ _ rfl (fun hHeld => ?_)
      clear hK K
      (try simp only [Act.put, List.setIfInBounds_toArray, List.set_cons_zero, List.set_cons_succ])
      refine wpAnyH_take (i := 16) (v := ?v16) (by simp only [List.getElem?_toArray, List.getElem?_cons_succ, List.getElem?_cons_zero]; rfl) (by kernel_rfl) (by kernel_rfl) (by kernel_rfl) (by exact fun _ _ _ h => h) (Or.inl ⟨by rfl, ?hy16⟩) (by assumption) ?rest16
      case hy16 =>
        intro w' hSw
        obtain rfl : w3 = w' := hSw
        go_simp
        with_reducible rfl
      (try simp only [Act.put, List.setIfInBounds_toArray, List.set_cons_zero, List.set_cons_succ])
      refine wpAnyH_take (i := 17) (v := ?v17) (by simp only [List.getElem?_toArray, List.getElem?_cons_succ, List.getElem?_cons_zero]; rfl) (by kernel_rfl) (by kernel_rfl) (by kernel_rfl) (by exact fun _ _ _ h => h) (Or.inl ⟨by rfl, ?hy17⟩) (by assumption) ?rest17
      case hy17 =>
        intro w' hSw
        obtain rfl : w3 = w' := hSw
        go_simp
        with_reducible rfl
      (try simp only [Act.put, List.setIfInBounds_toArray, List.set_cons_zero, List.set_cons_succ])
      refine wpAnyH_take (i := 18) (v := ?v18) (by simp only [List.getElem?_toArray, List.getElem?_cons_succ, List.getElem?_cons_zero]; rfl) (by kernel_rfl) (by kernel_rfl) (by kernel_rfl) (by exact fun _ _ _ h => h) (Or.inl ⟨by rfl, ?hy18⟩) (by assumption) ?rest18
      case hy18 =>
        intro w' hSw
        obtain rfl : w3 = w' := hSw
        go_simp
        with_reducible rfl
      (try simp only [Act.put, List.setIfInBounds_toArray, List.set_cons_zero, List.set_cons_succ])
      refine wpAnyH_take (i := 19) (v := ?v19) (by simp only [List.getElem?_toArray, List.getElem?_cons_succ, List.getElem?_cons_zero]; rfl) (by kernel_rfl) (by kernel_rfl) (by kernel_rfl) (by exact fun _ _ _ h => h) (Or.inl ⟨by rfl, ?hy19⟩) (by assumption) ?rest19
      case hy19 =>
        intro w' hSw
        obtain rfl : w3 = w' := hSw
        go_simp
        with_reducible rfl
      (try simp only [Act.put, List.setIfInBounds_toArray, List.set_cons_zero, List.set_cons_succ])
      refine wpAnyH_take (i := 21) (v := ?v21) (by simp only [List.getElem?_toArray, List.getElem?_cons_succ, List.getElem?_cons_zero]; rfl) (by kernel_rfl) (by kernel_rfl) (by kernel_rfl) (by exact fun _ _ _ h => h) (Or.inl ⟨by rfl, ?hy21⟩) (by assumption) ?rest21
      case hy21 =>
        intro w' hSw
        obtain rfl : w3 = w' := hSw
        go_simp
        with_reducible rfl
      (try simp only [Act.put, List.setIfInBounds_toArray, List.set_cons_zero, List.set_cons_succ])
      refine wpAnyH_take (i := 22) (v := ?v22) (by simp only [List.getElem?_toArray, List.getElem?_cons_succ, List.getElem?_cons_zero]; rfl) (by kernel_rfl) (by kernel_rfl) (by kernel_rfl) (by exact fun _ _ _ h => h) (Or.inl ⟨by rfl, ?hy22⟩) (by assumption) ?rest22
      case hy22 =>
        intro w' hSw
        obtain rfl : w3 = w' := hSw
        go_simp
        with_reducible rfl
      (try simp only [Act.put, List.setIfInBounds_toArray, List.set_cons_zero, List.set_cons_succ])
      refine wpAnyH_take (i := 23) (v := ?v23) (by simp only [List.getElem?_toArray, List.getElem?_cons_succ, List.getElem?_cons_zero]; rfl) (by kernel_rfl) (by kernel_rfl) (by kernel_rfl) (by exact fun _ _ _ h => h) (Or.inl ⟨by rfl, ?hy23⟩) (by assumption) ?rest23
      case hy23 =>
        intro w' hSw
        obtain rfl : w3 = w' := hSw
        go_simp
        with_reducible rfl
      (try simp only [Act.put, List.setIfInBounds_toArray, List.set_cons_zero, List.set_cons_succ])
      refine wpAnyH_take (i := 24) (v := ?v24) (by simp only [List.getElem?_toArray, List.getElem?_cons_succ, List.getElem?_cons_zero]; rfl) (by kernel_rfl) (by kernel_rfl) (by kernel_rfl) (by exact fun _ _ _ h => h) (Or.inl ⟨by rfl, ?hy24⟩) (by assumption) ?rest24
      case hy24 =>
        intro w' hSw
        obtain rfl : w3 = w' := hSw
        go_simp
        with_reducible rfl
      (try simp only [Act.put, List.setIfInBounds_toArray, List.set_cons_zero, List.set_cons_succ])
      refine wpAnyH_ready (rs := [20]) (by kernel_rfl) (by simp) ?_
      refine AllReadyH.cons (by simp only [List.getElem?_toArray, List.getElem?_cons_succ, List.getElem?_cons_zero]; rfl) (fun K hK => ?_) AllReadyH.nil
      go_simp
      refine KP.out.2.mono ?_
      rintro e w4 ⟨rfl, rfl⟩
      refine hK.out _ _ rfl (fun hHeld => ?_)
      clear hK K
      (try simp only [Act.put, List.setIfInBounds_toArray, List.set_cons_zero, List.set_cons_succ])
      refine wpAnyH_take (i := 25) (v := ?v25) (by simp only [List.getElem?_toArray, List.getElem?_cons_succ, List.getElem?_cons_zero]; rfl) (by kernel_rfl) (by kernel_rfl) (by kernel_rfl) (by exact fun _ _ _ h => h) (Or.inl ⟨by rfl, ?hy25⟩) (by assumption) ?rest25
      case hy25 =>
        intro w' hSw
        obtain rfl : w3 = w' := hSw
        go_simp
        with_reducible rfl
      (try simp only [Act.put, List.setIfInBounds_toArray, List.set_cons_zero, List.set_cons_succ])
      refine wpAnyH_take (i := 26) (v := ?v26) (by simp only [List.getElem?_toArray, List.getElem?_cons_succ, List.getElem?_cons_zero]; rfl) (by kernel_rfl) (by kernel_rfl) (by kernel_rfl) (by exact fun _ _ _ h => h) (Or.inl ⟨by rfl, ?hy26⟩) (by assumption) ?rest26
      case hy26 =>
        intro w' hSw
        obtain rfl : w3 = w' := hSw
        go_simp
        with_reducible rfl
      (try simp only [Act.put, List.setIfInBounds_toArray, List.set_cons_zero, List.set_cons_succ])
      refine wpAnyH_done (by kernel_rfl) ?_ _
      have H5 := Lib.hid hl3
      clear hl3 hPA KP r2 r3 K1 hLd hbd
      go_wp2_with fail
      go_loopg [12] M.sec.length (fun p v12 wx => ∃ j : Nat, j + p = M.sec.length ∧ v12 = .int .i64 (j : Int) ∧ Aside (Law w wx (Both (D g M) (R r M))))
      case atStart => exact ⟨0, by omega, rfl, H5.out⟩
      case round =>
        obtain ⟨j, hjp, rfl, HJ⟩ := hrel
        obtain ⟨A7, a7, A8, a8, x0, -, -, -, -⟩ := HJ.out.rcells
        cases gk with
        | zero =>
          obtain rfl : j = M.sec.length := by omega
          go_wp2_with fail
          go_roundg q
          case measure => omega
          case rel => exact ⟨k + 1, by omega, by go_num, by rw [hsnoc]; exact HJ.out⟩
        | succ p =>
          have hj : (j : Int) < (M.sec.length : Int) := by omega
          go_wp2_with fail
          refine (HJ.out.opL (R.res _ _) (read_step j)).mono ?_
          rintro e w6 ⟨rfl, h6⟩
          have H6 := Lib.hid h6
          clear h6
          go_wp2_with fail
          refine (H6.out.opR (D.res _ _) (rread_at j)).mono ?_
          rintro e w7 ⟨rfl, h7⟩
          have H7 := Lib.hid h7
          clear h7
          go_wp2_with fail
          go_roundg p
          case measure => omega
          case rel => exact ⟨j + 1, by omega, by go_num, H7.out⟩

end Go.Proofs.Ytbmmbgobnoojjaa.Dk
