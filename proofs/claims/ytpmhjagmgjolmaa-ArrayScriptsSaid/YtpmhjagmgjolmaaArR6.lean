/- The document's array (layer 10): New. Turned by program out of Ar7, Ar8. -/
import Derived.Test.YtpmhjagmgjolmaaArR5
namespace Go.Proofs.Ytpmhjagmgjolmaa.Dk
open Go.RowKit

set_option maxRecDepth 100000 in
theorem rptrInfo : (Try.prog.info? 52).map (fun i => (i.zero, i.size, i.bytes)) = some (some (.pointer none), 1, 8) := by kernel_rfl

set_option maxRecDepth 100000 in
set_option maxHeartbeats 4000000 in
theorem ranew_yes (d n z : Nat) (h0 : 1 ≤ d) (h0' : d ≤ 255) (h1 : 1 ≤ n) (h2 : n ≤ 4096) (h3 : 1 ≤ z) (h4 : z ≤ 4096) (w : World) :
    Calls Try.prog 21 #[.int .i64 (d : Int), .int .i64 (n : Int), .int .i64 (z : Int)] w fun e w' => ∃ ga sv gs, e = .returned (.tuple #[.pointer (some ⟨ga, 0, none⟩), .int .i64 0]) ∧ Made w w' (Rf ga sv gs (blanks d n z) w') := by
  have KN := Lib.hid (fun w => rnew_made n z h1 h2 h3 h4 w)
  have g1 : ¬ (d : Int) < 1 := by omega
  have g2 : ¬ 255 < (d : Int) := by omega
  have g3 : (d : Int) ≤ 9223372036854775807 := by omega
  obtain ⟨i0, hi, hz0, hz1, hz2⟩ := info_parts rptrInfo
  go_enter Try.func21, Try.ntmps21
  go_wp2_with fail
  have HF0 := Lib.hid (Ar.first (X := R) 46 52 w (-1) false)
  generalize w.heap.size = ga at HF0 ⊢
  go_loopg [9] d (fun q v9 wx => ∃ (k : Nat) (sv : Value) (gs : List Nat), k + q = d ∧ v9 = .int .i64 (k : Int) ∧ Aside (Made w wx (Rf ga sv gs (blanks k n z) wx)))
  case atStart => exact ⟨0, _, _, by omega, rfl, HF0.out⟩
  case round =>
    obtain ⟨k, sv, gs, hkq, rfl, HI⟩ := hrel
    cases gk with
    | zero =>
      obtain rfl : k = d := by omega
      go_wp2_with fail
      go_ret2
      exact ⟨ga, sv, gs, rfl, HI.out⟩
    | succ q =>
      have hm : k < d := by omega
      have hmi : (k : Int) < (d : Int) := by omega
      go_wp2_with fail
      refine (KN.out _).mono ?_
      rintro e w2 ⟨rfl, hmade⟩
      have h2 : Made w w2 (Both (Rf ga sv gs (blanks k n z)) (R (wr.heap.size + 1) (blank n z)) w2) := Made.step (A := fun w => Rf ga sv gs (blanks k n z) w) HI.out (fun S hS => Made.with (Rf.res _ _ _ _) hS hmade)
      have H2 := Lib.hid h2
      clear h2 hmade HI
      generalize wr.heap.size + 1 = g' at H2 ⊢
      obtain ⟨U, hB, hf, hn⟩ := H2.out
      obtain ⟨hAr, hgs, hne, hga, hrow⟩ : (∃ T, Rf ga sv gs (blanks k n z) w2 T) ∧ gs.length = k ∧ sv.ownBlock ≠ some ga ∧ ga < w2.heap.size ∧ w2.ownsRow 0 52 1 sv gs.length (gs.map ptr) := by
        obtain ⟨S1, S2, h1, -, -, -⟩ := hB
        have h1' := h1
        obtain ⟨hl, S3, S4, ⟨hb, hr, hn', -⟩, -⟩ := h1
        exact ⟨⟨_, h1'⟩, by simpa [blanks] using hl, hn', (Array.getElem?_eq_some_iff.1 hb).1, hr⟩
      obtain ⟨T, hT⟩ := hAr
      obtain ⟨A, c, -, -, -, x0, -, -, xf, -⟩ := hT.reads
      have xf0 := xf 0
      clear xf hT
      have hown := Lib.hid (hrow.alloc (.cells #[ptr g'] 52))
      clear hrow
      have hg' : (w2.alloc (.cells #[ptr g'] 52)).cell? ⟨w2.heap.size, 0, none⟩ = some (ptr g') := cell_of_row _ w2.heap.size 0 _ _ _ (heap_alloc_new w2 (.cells #[ptr g'] 52))
      go_wp2_with (at_builtin; go_loud (refine wpList_append_own_at _ rfl _ _ 44 rfl 0 52 i0 (.pointer none) 1 8 Try.underlying44 hi hz0 hz1 hz2 rfl (by decide) sv gs.length (gs.map ptr) rfl hown.out ⟨w2.heap.size, 0, none⟩ 1 1 [ptr g'] rfl rfl ?c1 ?c2 ?c3 ?c4 (Nat.zero_le _) ?_))
      case c1 =>
        intro j u hj
        cases j with
        | zero =>
          simp at hj
          subst hj
          exact hg'
        | succ j => simp at hj
      case c2 => intro u hu; simp at hu; subst hu; rfl
      case c3 => unfold maxLen; omega
      case c4 => omega
      intro v' w1 hown' hgrow hnil hat
      have bg : w1.heap[ga]? = w2.heap[ga]? := (hgrow.block ga (by simp; omega) (fun e => hne e.symm)).trans (Below.heap_alloc w2 _ ga hga)
      have hcell : w1.cell? ⟨ga, 0, none⟩ = some sv := (World.cell?_of_block bg).trans x0
      have hfro : w1.frozen? ⟨ga, 0, none⟩ = false := (World.frozen?_of_block bg).trans xf0
      have hap := Ar.append R.res hB _ hgrow (by rw [hgs]; simpa using hown') (hat.imp id (by intro e; simpa using e))
      have hfin : Made w (w1.setCell ⟨ga, 0, none⟩ v') (Rf ga v' (gs ++ [g']) (blanks (k + 1) n z) (w1.setCell ⟨ga, 0, none⟩ v')) := by
        have hb : (⟨(blanks k n z).ds ++ [blank n z], (blanks k n z).left, (blanks k n z).down⟩ : Arr) = blanks (k + 1) n z := by
          unfold blanks
          rw [List.replicate_succ']
        rw [← hb]
        obtain ⟨S', hB', hf', hg''⟩ := hap
        exact ⟨S', hB', hf.then hf' (fun i hi ht => by have := hn i ht; omega), fun i hi => (hg'' i hi).elim (hn i) (fun e => Nat.le_trans hf.size e)⟩
      obtain ⟨gv, cv, rfl⟩ : ∃ gv cv, v' = .slice (some ⟨gv, 0, none⟩) (k + 1) cv := by
        rcases owns_form hown' with ⟨_, h0⟩ | ⟨gv, cv, h0, _⟩
        · omega
        · exact ⟨gv, cv, by rw [h0]⟩
      have HFin := Lib.hid hfin
      clear hfin hap hB hf hn hown hown' hgrow hnil hat hg' xf0 x0
      go_wp2
      go_roundg q
      case measure => omega
      case rel => exact ⟨k + 1, _, gs ++ [g'], by omega, by go_num, HFin.out⟩

set_option maxRecDepth 100000 in
set_option maxHeartbeats 4000000 in
theorem ranew_no (d n z : Int) (h : ¬ anewOk d n z) (w : World) :
    Calls Try.prog 21 #[.int .i64 d, .int .i64 n, .int .i64 z] w fun e w' => e = .returned (.tuple #[.pointer none, .int .i64 1]) ∧ Fr fresh w w' := by
  unfold anewOk at h
  by_cases h1 : d < 1
  · clear h
    go_enter Try.func21, Try.ntmps21
    go_wp2
    go_ret2
    exact ⟨rfl, Fr.refl _ _⟩
  by_cases h2 : 255 < d
  · clear h
    go_enter Try.func21, Try.ntmps21
    go_wp2
    go_ret2
    exact ⟨rfl, Fr.refl _ _⟩
  have h3 : ¬ newOk n z := by
    intro hk
    exact h ⟨by omega, by omega, hk⟩
  clear h
  have KN := Lib.hid (fun w => rnew_no n z h3 w)
  clear h3
  have h4 : 0 < d := by omega
  go_enter Try.func21, Try.ntmps21
  go_wp2_with fail
  have HF0 := Lib.hid ((Fr.refl fresh w).alloc (.cells #[.slice none 0 0, .int .i64 (-1), .bool false] 46))
  go_loopg [9] 1 (fun _ v9 wx => v9 = .int .i64 0 ∧ Aside (Fr fresh w wx))
  case atStart => exact ⟨rfl, HF0.out⟩
  case round =>
    obtain ⟨rfl, HI⟩ := hrel
    go_wp2_with fail
    refine (KN.out _).mono ?_
    rintro e w2 ⟨rfl, rfl⟩
    go_wp2_with fail
    go_ret2
    exact ⟨rfl, HI.out⟩


end Go.Proofs.Ytpmhjagmgjolmaa.Dk
