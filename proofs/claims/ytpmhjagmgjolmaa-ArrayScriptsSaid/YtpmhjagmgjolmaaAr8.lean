/- New of layer 10 where there is no such array; Copy. -/
import Derived.Test.YtpmhjagmgjolmaaAr7
import Derived.Deep.RegionHeld3
import Derived.Deep.AppendLies
namespace Go.Proofs.Ytpmhjagmgjolmaa.Dk
open Go.RowKit

/-- Whether an array may be made. -/
def anewOk (d n z : Int) : Prop := 1 ≤ d ∧ d ≤ 255 ∧ newOk n z

set_option maxRecDepth 100000 in
set_option maxHeartbeats 4000000 in
theorem anew_no (d n z : Int) (h : ¬ anewOk d n z) (w : World) :
    Calls Try.prog 10 #[.int .i64 d, .int .i64 n, .int .i64 z] w fun e w' => e = .returned (.tuple #[.pointer none, .int .i64 1]) ∧ Fr fresh w w' := by
  unfold anewOk at h
  by_cases h1 : d < 1
  · clear h
    go_enter Try.func10, Try.ntmps10
    go_wp2
    go_ret2
    exact ⟨rfl, Fr.refl _ _⟩
  by_cases h2 : 255 < d
  · clear h
    go_enter Try.func10, Try.ntmps10
    go_wp2
    go_ret2
    exact ⟨rfl, Fr.refl _ _⟩
  have h3 : ¬ newOk n z := by
    intro hk
    exact h ⟨by omega, by omega, hk⟩
  clear h
  have KN := Lib.hid (fun w => new_no n z h3 w)
  clear h3
  have h4 : 0 < d := by omega
  go_enter Try.func10, Try.ntmps10
  go_wp2_with fail
  have HF0 := Lib.hid ((Fr.refl fresh w).alloc (.cells #[.slice none 0 0, .int .i64 (-1), .bool false] 57))
  go_loopg [20] 1 (fun _ v20 wx => v20 = .int .i64 0 ∧ Aside (Fr fresh w wx))
  case atStart => exact ⟨rfl, HF0.out⟩
  case round =>
    obtain ⟨rfl, HI⟩ := hrel
    go_wp2_with fail
    refine (KN.out _).mono ?_
    rintro e w2 ⟨rfl, rfl⟩
    go_wp2_with fail
    go_ret2
    exact ⟨rfl, HI.out⟩

set_option maxRecDepth 100000 in
theorem acopy_nil (w : World) : Calls Try.prog 16 #[.pointer none] w fun e w' => e = .returned (.pointer none) ∧ w = w' := by
  go_enter Try.func16, Try.ntmps16
  go_wp2
  go_ret
  exact ⟨rfl, rfl⟩

set_option maxRecDepth 100000 in
theorem Ar.row {X : Nat → Dsk → Thing} {T P : TypeId} {ga : Nat} {sv : Value} {gs : List Nat} {a : Arr} {w : World} {S : Nat → Prop} (h : Ar X T P ga sv gs a w S) : gs.length = a.ds.length ∧ w.cell? ⟨ga, 0, none⟩ = some sv ∧ w.frozen? ⟨ga, 0, none⟩ = false ∧ sv.ownBlock ≠ some ga ∧ ga < w.heap.size ∧ w.ownsRow 0 P 1 sv gs.length (gs.map ptr) := by
  obtain ⟨A, c, -, -, -, x0, -, -, xf, -⟩ := h.reads
  obtain ⟨hl, S3, S4, ⟨hb, hr, hn', -⟩, -⟩ := h
  exact ⟨hl, x0, xf 0, hn', (Array.getElem?_eq_some_iff.1 hb).1, hr⟩
set_option maxRecDepth 100000 in
theorem Both.first {A B : Thing} {w : World} {S : Nat → Prop} (h : Both A B w S) : A w (h.choose) ∧ A w (h.choose) := by
  obtain ⟨T, hA, hB, hd, e⟩ := h.choose_spec
  exact ⟨hA, hA⟩
set_option maxRecDepth 100000 in
theorem Both.second {A B : Thing} {w : World} {S : Nat → Prop} (h : Both A B w S) : B w (h.choose_spec.choose) := h.choose_spec.choose_spec.2.1
theorem Both.assoc {A B C : Thing} {w : World} {S : Nat → Prop} (h : Both (Both A B) C w S) : Both A (Both B C) w S := by
  obtain ⟨U, S3, ⟨S1, S2, h1, h2, hd, rfl⟩, h3, hd2, rfl⟩ := h
  exact ⟨S1, _, h1, ⟨S2, S3, h2, h3, fun k hk => hd2 k (.inr hk), rfl⟩, fun k hk h' => h'.elim (hd k hk) (hd2 k (.inl hk)), by funext k; simp [or_assoc]⟩

set_option maxRecDepth 100000 in
theorem copied_step {ga gc : Nat} {sv sv' : Value} {gs gs' : List Nat} {a b : Arr} {w wr w3 : World} {S S1 : Nat → Prop} {g' : Nat} {m : Dsk} (hAB : Both (Pa ga sv gs a) (Pa gc sv' gs' b) wr S1) (hf : Fr S w wr) (hg : ∀ k, S1 k → S k ∨ w.heap.size ≤ k) (hmade : Made wr.drew w3 (D g' m w3)) :
    Step w w3 S (Both (Pa ga sv gs a) (Both (Pa gc sv' gs' b) (D g' m)) w3) := by
  have hAB' : Both (Pa ga sv gs a) (Pa gc sv' gs' b) wr.drew S1 := (Both.res (Pa.res _ _ _ _) (Pa.res _ _ _ _)).frame hAB ((Fr.refl fresh _).drew) (fun _ _ h => h)
  obtain ⟨S2, h2, hf2, hg2⟩ := Made.with (Both.res (Pa.res _ _ _ _) (Pa.res _ _ _ _)) hAB' hmade
  exact Step.on hf.drew hg ⟨S2, h2.assoc, hf2, hg2⟩
set_option maxRecDepth 100000 in
theorem Ar.append2 {X : Nat → Dsk → Thing} (hX : ∀ g m, Res (X g m)) {A : Thing} (a0 : Res A) {T P : TypeId} {ga g' gv cv : Nat} {sv : Value} {gs : List Nat} {a : Arr} {m : Dsk} {w w1 : World} {S : Nat → Prop} (h : Both A (Both (Ar X T P ga sv gs a) (X g' m)) w S) (o : Obj)
    (hgrow : (w.alloc o).grownBy w1 sv.ownBlock) (hown : w1.ownsRow 0 P 1 (.slice (some ⟨gv, 0, none⟩) (gs.length + 1) cv) (gs.length + 1) (gs.map ptr ++ [ptr g'])) (hat : gv = (w.alloc o).heap.size ∨ sv.ownBlock = some gv) :
    Step w (w1.setCell ⟨ga, 0, none⟩ (.slice (some ⟨gv, 0, none⟩) (gs.length + 1) cv)) S (Both A (Ar X T P ga (.slice (some ⟨gv, 0, none⟩) (gs.length + 1) cv) (gs ++ [g']) { a with ds := a.ds ++ [m] }) (w1.setCell ⟨ga, 0, none⟩ (.slice (some ⟨gv, 0, none⟩) (gs.length + 1) cv))) := by
  obtain ⟨S1, S2, h1, h2, hd, rfl⟩ := h
  refine Step.right a0 h1 (Ar.append hX h2 o hgrow hown ?_) hd
  rcases hat with e | e
  · exact .inr (by rw [e]; rfl)
  · exact .inl (by rw [e]; rfl)

set_option linter.unusedSimpArgs false in
set_option maxRecDepth 100000 in
set_option maxHeartbeats 4000000 in
theorem acopy_at {ga : Nat} {sv : Value} {gs : List Nat} {a : Arr} {w : World} {S : Nat → Prop} (hmany : ∀ m ∈ a.ds, m.wait.length ≤ 1000000) (hfew : a.ds.length ≤ 255) (h : Pa ga sv gs a w S) :
    Calls Try.prog 16 #[.pointer (some ⟨ga, 0, none⟩)] w fun e w' => ∃ gc sv' gs', e = .returned (.pointer (some ⟨gc, 0, none⟩)) ∧ Step w w' S (Both (Pa ga sv gs a) (Pa gc sv' gs' a) w') := by
  have H := Lib.hid h
  obtain ⟨A, c, rfl, hlm, hl, c0, c1, c2, -, -⟩ := h.reads
  clear h
  obtain ⟨i0, hi, hz0, hz1, hz2⟩ := info_parts ptrInfo
  go_enter Try.func16, Try.ntmps16
  go_wp2_with fail
  go_still_tail 9, (by kernel_rfl)
  change wpList _ _ _ _ _ w.drew
  have e0 : (w.alloc (.cells #[.slice none 0 0, .int .i64 a.left, .bool a.down] 57)).drew.cell? ⟨ga, 0, none⟩ = some (.slice A a.ds.length c) := (World.cell?_alloc_lt _ _ _ (World.block_lt_of_cell? w _ c0)).trans c0
  have HF0 : Made w (w.alloc (.cells #[.slice none 0 0, .int .i64 a.left, .bool a.down] 57)).drew (Pa w.heap.size (.slice none 0 0) [] ⟨[], a.left, a.down⟩ (w.alloc (.cells #[.slice none 0 0, .int .i64 a.left, .bool a.down] 57)).drew) := by
    obtain ⟨T, hA, hf, hn⟩ := Ar.first (X := D) 57 58 w a.left a.down
    exact ⟨T, (Pa.res _ _ _ _).frame hA ((Fr.refl fresh _).drew) (fun _ _ h => h), hf.drew, hn⟩
  have HS0 := Lib.hid (Made.with (Pa.res _ _ _ _) H.out HF0)
  clear HF0
  go_wp2_with fail
  go_loopg [23] a.ds.length (fun q v23 wx => ∃ (k : Nat) (sv' : Value) (gs' : List Nat), k + q = a.ds.length ∧ v23 = .int .i64 (k : Int) ∧ Aside (Step w wx S (Both (Pa ga (.slice A a.ds.length c) gs a) (Pa w.heap.size sv' gs' ⟨a.ds.take k, a.left, a.down⟩) wx)))
  case atStart => exact ⟨0, _, _, by omega, rfl, by rw [List.take_zero]; exact HS0.out⟩
  case round =>
    obtain ⟨k, sv', gs', hkq, rfl, HI⟩ := hrel
    cases gk with
    | zero =>
      obtain rfl : k = a.ds.length := by omega
      rw [List.take_of_length_le (Nat.le_refl _)] at HI
      go_wp2_with fail
      go_ret
      exact ⟨w.heap.size, sv', gs', rfl, HI.out⟩
    | succ q =>
      have hm : k < a.ds.length := by omega
      have hmi : (k : Int) < (a.ds.length : Int) := by omega
      obtain ⟨S1, hAB, hf, hg1⟩ := HI.out
      obtain ⟨g, hg⟩ : ∃ g, gs[k]? = some g := ⟨_, List.getElem?_eq_getElem (by omega)⟩
      obtain ⟨m, hmk⟩ : ∃ m, a.ds[k]? = some m := ⟨_, List.getElem?_eq_getElem hm⟩
      have hmw : m.wait.length ≤ 1000000 := hmany m (List.mem_of_getElem? hmk)
      obtain ⟨ad, rfl, hc⟩ := hAB.first.2.elem hg
      obtain ⟨U, hU, -⟩ := Ar.get hmk hg hAB.first.2
      obtain ⟨hl0, x0, xf0, hne0, hga0, hrow0⟩ := hAB.second.row
      have x0' : wr.drew.cell? ⟨w.heap.size, 0, none⟩ = some sv' := x0
      have KC := Lib.hid (copy_at (w := wr.drew) hmw (At.drew hU))
      have KS := Lib.hid (fun w3 g' (hmade : Made wr.drew w3 (D g' m w3)) => copied_step hAB hf hg1 hmade)
      clear hU hrow0 hAB HI
      go_wp2_with fail
      refine wp_region_held_drew (S := fun _ => True) (by kernel_rfl) trivial (fun _ => ?_)
      refine wpAnyH_take (i := 0) (v := ?v0_7) (by simp only [List.getElem?_toArray, List.getElem?_cons_succ, List.getElem?_cons_zero]; rfl) (by kernel_rfl) (by kernel_rfl) (by kernel_rfl) (by exact fun _ _ _ h => h) (Or.inl ⟨by rfl, ?hy0_7⟩) trivial ?rest0_7
      case hy0_7 =>
        intro w' hSw
        go_simp
        with_reducible rfl
      (try simp only [Act.put, List.setIfInBounds_toArray, List.set_cons_zero, List.set_cons_succ])
      refine wpAnyH_take (i := 1) (v := ?v1_8) (by simp only [List.getElem?_toArray, List.getElem?_cons_succ, List.getElem?_cons_zero]; rfl) (by kernel_rfl) (by kernel_rfl) (by kernel_rfl) (by exact fun _ _ _ h => h) (Or.inl ⟨by rfl, ?hy1_8⟩) trivial ?rest1_8
      case hy1_8 =>
        intro w' hSw
        go_simp
        with_reducible rfl
      (try simp only [Act.put, List.setIfInBounds_toArray, List.set_cons_zero, List.set_cons_succ])
      refine wpAnyH_take (i := 2) (v := ?v2_9) (by simp only [List.getElem?_toArray, List.getElem?_cons_succ, List.getElem?_cons_zero]; rfl) (by kernel_rfl) (by kernel_rfl) (by kernel_rfl) (by exact fun _ _ _ h => h) (Or.inl ⟨by rfl, ?hy2_9⟩) trivial ?rest2_9
      case hy2_9 =>
        intro w' hSw
        go_simp
        with_reducible rfl
      (try simp only [Act.put, List.setIfInBounds_toArray, List.set_cons_zero, List.set_cons_succ])
      refine wpAnyH_take (i := 3) (v := ?v3_10) (by simp only [List.getElem?_toArray, List.getElem?_cons_succ, List.getElem?_cons_zero]; rfl) (by kernel_rfl) (by kernel_rfl) (by kernel_rfl) (by exact fun _ _ _ h => h) (Or.inl ⟨by rfl, ?hy3_10⟩) trivial ?rest3_10
      case hy3_10 =>
        intro w' hSw
        go_simp
        with_reducible rfl
      (try simp only [Act.put, List.setIfInBounds_toArray, List.set_cons_zero, List.set_cons_succ])
      refine wpAnyH_take (i := 5) (v := ?v5_11) (by simp only [List.getElem?_toArray, List.getElem?_cons_succ, List.getElem?_cons_zero]; rfl) (by kernel_rfl) (by kernel_rfl) (by kernel_rfl) (by exact fun _ _ _ h => h) (Or.inl ⟨by rfl, ?hy5_11⟩) trivial ?rest5_11
      case hy5_11 =>
        intro w' hSw
        go_simp
        with_reducible rfl
      (try simp only [Act.put, List.setIfInBounds_toArray, List.set_cons_zero, List.set_cons_succ])
      refine wpAnyH_ready (rs := [4, 6]) (by kernel_rfl) (by simp) ?_
      refine AllReadyH.cons (by simp only [List.getElem?_toArray, List.getElem?_cons_succ, List.getElem?_cons_zero]; rfl) (fun K hK => ?_) (AllReadyH.cons (by simp only [List.getElem?_toArray, List.getElem?_cons_succ, List.getElem?_cons_zero]; rfl) (fun K hK => ?_) AllReadyH.nil)
      · go_simp
        refine hK.out _ _ trivial (fun _ => ?_)
        clear hK K
        (try simp only [Act.put, List.setIfInBounds_toArray, List.set_cons_zero, List.set_cons_succ])
        refine wpAnyH_ready (rs := [6]) (by kernel_rfl) (by simp) ?_
        refine AllReadyH.cons (by simp only [List.getElem?_toArray, List.getElem?_cons_succ, List.getElem?_cons_zero]; rfl) (fun K hK => ?_) AllReadyH.nil
        go_simp
        refine (KC.out).mono ?_
        rintro e w3 ⟨g', rfl, hmade⟩
        obtain ⟨S3, hB3, hf3, hg3⟩ := KS.out w3 g' hmade
        obtain ⟨hl3, x3, xf3, hne3, hga3, hrow3⟩ := hB3.second.first.1.row
        refine hK.out _ _ trivial (fun _ => ?_)
        clear hK K
        (try simp only [Act.put, List.setIfInBounds_toArray, List.set_cons_zero, List.set_cons_succ])
        refine wpAnyH_ready (rs := [7]) (by kernel_rfl) (by simp) ?_
        refine AllReadyH.cons (by simp only [List.getElem?_toArray, List.getElem?_cons_succ, List.getElem?_cons_zero]; rfl) (fun K hK => ?_) AllReadyH.nil
        go_simp
        refine hK.out _ _ trivial (fun _ => ?_)
        clear hK K
        (try simp only [Act.put, List.setIfInBounds_toArray, List.set_cons_zero, List.set_cons_succ])
        have hown := Lib.hid (hrow3.alloc (.cells #[ptr g'] 58))
        have hlk : gs'.length = k := by rw [hl3]; simp; omega
        refine wpAnyH_ready (rs := [8]) (by kernel_rfl) (by simp) ?_
        refine AllReadyH.cons (by simp only [List.getElem?_toArray, List.getElem?_cons_succ, List.getElem?_cons_zero]; rfl) (fun K hK => ?_) AllReadyH.nil
        refine step_append_lies _ rfl _ _ 55 rfl 0 58 i0 (.pointer none) 1 8 Try.underlying55 hi hz0 hz1 hz2 rfl (by decide) sv' gs'.length (gs'.map ptr) rfl hown.out ⟨w3.heap.size, 0, none⟩ 1 1 [ptr g'] rfl rfl ?ca1 ?cb1 (by decide) ?cc1 ?cd1 (Nat.zero_le _) _ rfl ?_
        case ca1 =>
          intro j u hj
          cases j with
          | zero =>
            simp at hj
            subst hj
            exact cell_of_row _ w3.heap.size 0 _ _ _ (heap_alloc_new w3 (.cells #[ptr g'] 58))
          | succ j => simp at hj
        case cb1 => intro u hu; simp at hu; subst hu; rfl
        case cc1 => unfold maxLen; omega
        case cd1 => omega
        intro gv cv w1 hown' hgrow hat hlt
        refine hK.out _ _ trivial (fun _ => ?_)
        clear hK K
        (try simp only [Act.put, List.setIfInBounds_toArray, List.set_cons_zero, List.set_cons_succ])
        refine wpAnyH_take (i := 9) (v := ?v9_1) (by simp only [List.getElem?_toArray, List.getElem?_cons_succ, List.getElem?_cons_zero]; rfl) (by kernel_rfl) (by kernel_rfl) (by kernel_rfl) (by exact fun _ _ _ h => h) (Or.inl ⟨by rfl, ?hy9_1⟩) trivial ?rest9_1
        case hy9_1 =>
          intro w' hSw
          go_simp
          with_reducible rfl
        (try simp only [Act.put, List.setIfInBounds_toArray, List.set_cons_zero, List.set_cons_succ])
        refine wpAnyH_take (i := 10) (v := ?v10_2) (by simp only [List.getElem?_toArray, List.getElem?_cons_succ, List.getElem?_cons_zero]; rfl) (by kernel_rfl) (by kernel_rfl) (by kernel_rfl) (by exact fun _ _ _ h => h) (Or.inl ⟨by rfl, ?hy10_2⟩) trivial ?rest10_2
        case hy10_2 =>
          intro w' hSw
          go_simp
          with_reducible rfl
        (try simp only [Act.put, List.setIfInBounds_toArray, List.set_cons_zero, List.set_cons_succ])
        have bg : w1.heap[w.heap.size]? = w3.heap[w.heap.size]? := (hgrow.block w.heap.size (by simp; omega) (fun e => hne3 e.symm)).trans (Below.heap_alloc w3 _ _ hga3)
        have hcell : w1.cell? ⟨w.heap.size, 0, none⟩ = some sv' := (World.cell?_of_block bg).trans x3
        have hfro : w1.frozen? ⟨w.heap.size, 0, none⟩ = false := (World.frozen?_of_block bg).trans xf3
        have hap := Ar.append2 D.res (Pa.res _ _ _ _) hB3 _ hgrow hown' (hat.symm.imp (fun h => h) (fun h => h))
        have HFin := Lib.hid (Step.on hf3 hg3 hap)
        refine wpAnyH_ready (rs := [11]) (by kernel_rfl) (by simp) ?_
        refine AllReadyH.cons (by simp only [List.getElem?_toArray, List.getElem?_cons_succ, List.getElem?_cons_zero]; rfl) (fun K hK => ?_) AllReadyH.nil
        go_simp
        refine hK.out _ _ trivial (fun _ => ?_)
        clear hK K
        (try simp only [Act.put, List.setIfInBounds_toArray, List.set_cons_zero, List.set_cons_succ])
        refine wpAnyH_done (by kernel_rfl) ?_ _
        have hmin : min k a.ds.length = k := by omega
        have ht : a.ds.take (k + 1) = a.ds.take k ++ [m] := by rw [List.take_add_one, hmk]; rfl
        rw [hlk] at HFin
        rw [hmin]
        clear hrow3 hown hown' hgrow hat hlt hap hB3 hcell hfro x3 xf3 x0 x0'
        go_wp2
        go_roundg q
        case measure => omega
        case rel => exact ⟨k + 1, _, gs' ++ [g'], by omega, by go_num, by rw [ht]; exact HFin.out⟩
      · go_simp
        refine (KC.out).mono ?_
        rintro e w3 ⟨g', rfl, hmade⟩
        obtain ⟨S3, hB3, hf3, hg3⟩ := KS.out w3 g' hmade
        obtain ⟨hl3, x3, xf3, hne3, hga3, hrow3⟩ := hB3.second.first.1.row
        refine hK.out _ _ trivial (fun _ => ?_)
        clear hK K
        (try simp only [Act.put, List.setIfInBounds_toArray, List.set_cons_zero, List.set_cons_succ])
        refine wpAnyH_ready (rs := [4, 7]) (by kernel_rfl) (by simp) ?_
        refine AllReadyH.cons (by simp only [List.getElem?_toArray, List.getElem?_cons_succ, List.getElem?_cons_zero]; rfl) (fun K hK => ?_) (AllReadyH.cons (by simp only [List.getElem?_toArray, List.getElem?_cons_succ, List.getElem?_cons_zero]; rfl) (fun K hK => ?_) AllReadyH.nil)
        · go_simp
          refine hK.out _ _ trivial (fun _ => ?_)
          clear hK K
          (try simp only [Act.put, List.setIfInBounds_toArray, List.set_cons_zero, List.set_cons_succ])
          refine wpAnyH_ready (rs := [7]) (by kernel_rfl) (by simp) ?_
          refine AllReadyH.cons (by simp only [List.getElem?_toArray, List.getElem?_cons_succ, List.getElem?_cons_zero]; rfl) (fun K hK => ?_) AllReadyH.nil
          go_simp
          refine hK.out _ _ trivial (fun _ => ?_)
          clear hK K
          (try simp only [Act.put, List.setIfInBounds_toArray, List.set_cons_zero, List.set_cons_succ])
          have hown := Lib.hid (hrow3.alloc (.cells #[ptr g'] 58))
          have hlk : gs'.length = k := by rw [hl3]; simp; omega
          refine wpAnyH_ready (rs := [8]) (by kernel_rfl) (by simp) ?_
          refine AllReadyH.cons (by simp only [List.getElem?_toArray, List.getElem?_cons_succ, List.getElem?_cons_zero]; rfl) (fun K hK => ?_) AllReadyH.nil
          refine step_append_lies _ rfl _ _ 55 rfl 0 58 i0 (.pointer none) 1 8 Try.underlying55 hi hz0 hz1 hz2 rfl (by decide) sv' gs'.length (gs'.map ptr) rfl hown.out ⟨w3.heap.size, 0, none⟩ 1 1 [ptr g'] rfl rfl ?ca2 ?cb2 (by decide) ?cc2 ?cd2 (Nat.zero_le _) _ rfl ?_
          case ca2 =>
            intro j u hj
            cases j with
            | zero =>
              simp at hj
              subst hj
              exact cell_of_row _ w3.heap.size 0 _ _ _ (heap_alloc_new w3 (.cells #[ptr g'] 58))
            | succ j => simp at hj
          case cb2 => intro u hu; simp at hu; subst hu; rfl
          case cc2 => unfold maxLen; omega
          case cd2 => omega
          intro gv cv w1 hown' hgrow hat hlt
          refine hK.out _ _ trivial (fun _ => ?_)
          clear hK K
          (try simp only [Act.put, List.setIfInBounds_toArray, List.set_cons_zero, List.set_cons_succ])
          refine wpAnyH_take (i := 9) (v := ?v9_3) (by simp only [List.getElem?_toArray, List.getElem?_cons_succ, List.getElem?_cons_zero]; rfl) (by kernel_rfl) (by kernel_rfl) (by kernel_rfl) (by exact fun _ _ _ h => h) (Or.inl ⟨by rfl, ?hy9_3⟩) trivial ?rest9_3
          case hy9_3 =>
            intro w' hSw
            go_simp
            with_reducible rfl
          (try simp only [Act.put, List.setIfInBounds_toArray, List.set_cons_zero, List.set_cons_succ])
          refine wpAnyH_take (i := 10) (v := ?v10_4) (by simp only [List.getElem?_toArray, List.getElem?_cons_succ, List.getElem?_cons_zero]; rfl) (by kernel_rfl) (by kernel_rfl) (by kernel_rfl) (by exact fun _ _ _ h => h) (Or.inl ⟨by rfl, ?hy10_4⟩) trivial ?rest10_4
          case hy10_4 =>
            intro w' hSw
            go_simp
            with_reducible rfl
          (try simp only [Act.put, List.setIfInBounds_toArray, List.set_cons_zero, List.set_cons_succ])
          have bg : w1.heap[w.heap.size]? = w3.heap[w.heap.size]? := (hgrow.block w.heap.size (by simp; omega) (fun e => hne3 e.symm)).trans (Below.heap_alloc w3 _ _ hga3)
          have hcell : w1.cell? ⟨w.heap.size, 0, none⟩ = some sv' := (World.cell?_of_block bg).trans x3
          have hfro : w1.frozen? ⟨w.heap.size, 0, none⟩ = false := (World.frozen?_of_block bg).trans xf3
          have hap := Ar.append2 D.res (Pa.res _ _ _ _) hB3 _ hgrow hown' (hat.symm.imp (fun h => h) (fun h => h))
          have HFin := Lib.hid (Step.on hf3 hg3 hap)
          refine wpAnyH_ready (rs := [11]) (by kernel_rfl) (by simp) ?_
          refine AllReadyH.cons (by simp only [List.getElem?_toArray, List.getElem?_cons_succ, List.getElem?_cons_zero]; rfl) (fun K hK => ?_) AllReadyH.nil
          go_simp
          refine hK.out _ _ trivial (fun _ => ?_)
          clear hK K
          (try simp only [Act.put, List.setIfInBounds_toArray, List.set_cons_zero, List.set_cons_succ])
          refine wpAnyH_done (by kernel_rfl) ?_ _
          have hmin : min k a.ds.length = k := by omega
          have ht : a.ds.take (k + 1) = a.ds.take k ++ [m] := by rw [List.take_add_one, hmk]; rfl
          rw [hlk] at HFin
          rw [hmin]
          clear hrow3 hown hown' hgrow hat hlt hap hB3 hcell hfro x3 xf3 x0 x0'
          go_wp2
          go_roundg q
          case measure => omega
          case rel => exact ⟨k + 1, _, gs' ++ [g'], by omega, by go_num, by rw [ht]; exact HFin.out⟩
        · go_simp
          refine hK.out _ _ trivial (fun _ => ?_)
          clear hK K
          (try simp only [Act.put, List.setIfInBounds_toArray, List.set_cons_zero, List.set_cons_succ])
          have x4 : (w3.alloc (.cells #[.pointer (some ⟨g', 0, none⟩)] 58)).cell? ⟨w.heap.size, 0, none⟩ = some sv' := (World.cell?_alloc_lt _ _ _ (World.block_lt_of_cell? w3 _ x3)).trans x3
          refine wpAnyH_ready (rs := [4]) (by kernel_rfl) (by simp) ?_
          refine AllReadyH.cons (by simp only [List.getElem?_toArray, List.getElem?_cons_succ, List.getElem?_cons_zero]; rfl) (fun K hK => ?_) AllReadyH.nil
          go_simp
          refine hK.out _ _ trivial (fun _ => ?_)
          clear hK K
          (try simp only [Act.put, List.setIfInBounds_toArray, List.set_cons_zero, List.set_cons_succ])
          have hown := Lib.hid (hrow3.alloc (.cells #[ptr g'] 58))
          have hlk : gs'.length = k := by rw [hl3]; simp; omega
          refine wpAnyH_ready (rs := [8]) (by kernel_rfl) (by simp) ?_
          refine AllReadyH.cons (by simp only [List.getElem?_toArray, List.getElem?_cons_succ, List.getElem?_cons_zero]; rfl) (fun K hK => ?_) AllReadyH.nil
          refine step_append_lies _ rfl _ _ 55 rfl 0 58 i0 (.pointer none) 1 8 Try.underlying55 hi hz0 hz1 hz2 rfl (by decide) sv' gs'.length (gs'.map ptr) rfl hown.out ⟨w3.heap.size, 0, none⟩ 1 1 [ptr g'] rfl rfl ?ca3 ?cb3 (by decide) ?cc3 ?cd3 (Nat.zero_le _) _ rfl ?_
          case ca3 =>
            intro j u hj
            cases j with
            | zero =>
              simp at hj
              subst hj
              exact cell_of_row _ w3.heap.size 0 _ _ _ (heap_alloc_new w3 (.cells #[ptr g'] 58))
            | succ j => simp at hj
          case cb3 => intro u hu; simp at hu; subst hu; rfl
          case cc3 => unfold maxLen; omega
          case cd3 => omega
          intro gv cv w1 hown' hgrow hat hlt
          refine hK.out _ _ trivial (fun _ => ?_)
          clear hK K
          (try simp only [Act.put, List.setIfInBounds_toArray, List.set_cons_zero, List.set_cons_succ])
          refine wpAnyH_take (i := 9) (v := ?v9_5) (by simp only [List.getElem?_toArray, List.getElem?_cons_succ, List.getElem?_cons_zero]; rfl) (by kernel_rfl) (by kernel_rfl) (by kernel_rfl) (by exact fun _ _ _ h => h) (Or.inl ⟨by rfl, ?hy9_5⟩) trivial ?rest9_5
          case hy9_5 =>
            intro w' hSw
            go_simp
            with_reducible rfl
          (try simp only [Act.put, List.setIfInBounds_toArray, List.set_cons_zero, List.set_cons_succ])
          refine wpAnyH_take (i := 10) (v := ?v10_6) (by simp only [List.getElem?_toArray, List.getElem?_cons_succ, List.getElem?_cons_zero]; rfl) (by kernel_rfl) (by kernel_rfl) (by kernel_rfl) (by exact fun _ _ _ h => h) (Or.inl ⟨by rfl, ?hy10_6⟩) trivial ?rest10_6
          case hy10_6 =>
            intro w' hSw
            go_simp
            with_reducible rfl
          (try simp only [Act.put, List.setIfInBounds_toArray, List.set_cons_zero, List.set_cons_succ])
          have bg : w1.heap[w.heap.size]? = w3.heap[w.heap.size]? := (hgrow.block w.heap.size (by simp; omega) (fun e => hne3 e.symm)).trans (Below.heap_alloc w3 _ _ hga3)
          have hcell : w1.cell? ⟨w.heap.size, 0, none⟩ = some sv' := (World.cell?_of_block bg).trans x3
          have hfro : w1.frozen? ⟨w.heap.size, 0, none⟩ = false := (World.frozen?_of_block bg).trans xf3
          have hap := Ar.append2 D.res (Pa.res _ _ _ _) hB3 _ hgrow hown' (hat.symm.imp (fun h => h) (fun h => h))
          have HFin := Lib.hid (Step.on hf3 hg3 hap)
          refine wpAnyH_ready (rs := [11]) (by kernel_rfl) (by simp) ?_
          refine AllReadyH.cons (by simp only [List.getElem?_toArray, List.getElem?_cons_succ, List.getElem?_cons_zero]; rfl) (fun K hK => ?_) AllReadyH.nil
          go_simp
          refine hK.out _ _ trivial (fun _ => ?_)
          clear hK K
          (try simp only [Act.put, List.setIfInBounds_toArray, List.set_cons_zero, List.set_cons_succ])
          refine wpAnyH_done (by kernel_rfl) ?_ _
          have hmin : min k a.ds.length = k := by omega
          have ht : a.ds.take (k + 1) = a.ds.take k ++ [m] := by rw [List.take_add_one, hmk]; rfl
          rw [hlk] at HFin
          rw [hmin]
          clear hrow3 hown hown' hgrow hat hlt hap hB3 hcell hfro x3 xf3 x0 x0'
          go_wp2
          go_roundg q
          case measure => omega
          case rel => exact ⟨k + 1, _, gs' ++ [g'], by omega, by go_num, by rw [ht]; exact HFin.out⟩

end Go.Proofs.Ytpmhjagmgjolmaa.Dk
