/- The walk of New of layer 10. -/
import Derived.Test.YtpmhjagmgjolmaaAr6
namespace Go.Proofs.Ytpmhjagmgjolmaa.Dk
open Go.RowKit

/-- One disk more. -/
theorem Ar.append {X : Nat → Dsk → Thing} (hX : ∀ g m, Res (X g m)) {T P : TypeId} {ga g' : Nat} {sv v' : Value} {gs : List Nat} {a : Arr} {m : Dsk} {w w1 : World} {S : Nat → Prop} (h : Both (Ar X T P ga sv gs a) (X g' m) w S) (o : Obj)
    (hgrow : (w.alloc o).grownBy w1 sv.ownBlock) (hown : w1.ownsRow 0 P 1 v' (gs.length + 1) (gs.map ptr ++ [ptr g'])) (hat : v'.ownBlock = sv.ownBlock ∨ v'.ownBlock = some (w.alloc o).heap.size) :
    Step w (w1.setCell ⟨ga, 0, none⟩ v') S (Ar X T P ga v' (gs ++ [g']) { a with ds := a.ds ++ [m] } (w1.setCell ⟨ga, 0, none⟩ v')) := by
  obtain ⟨U, S3, ⟨hl, S1, S2, ⟨hb, hr, hn, rfl⟩, h2, hd, rfl⟩, h3, hd2, rfl⟩ := h
  have hga := (Array.getElem?_eq_some_iff.1 hb).1
  have hsz : (w.alloc o).heap.size = w.heap.size + 1 := by simp
  have hfr : Fr (fun k => k = ga ∨ sv.ownBlock = some k) w w1 := ((Fr.refl _ w).alloc o).grown hgrow (fun k hk => .inl (.inr hk))
  have hfr2 := hfr.setCell (p := ⟨ga, 0, none⟩) (.inl (.inl rfl)) v'
  have hvn : v'.ownBlock ≠ some ga := by
    rcases hat with e | e
    · rw [e]; exact hn
    · rw [e, hsz]
      intro e'
      simp at e'
      omega
  have bg : w1.heap[ga]? = w.heap[ga]? := (hgrow.block ga (by rw [hsz]; omega) (fun e => hn e.symm)).trans (Below.heap_alloc w o ga hga)
  have hHead : Head T P ga v' (gs ++ [g']) a.left a.down (w1.setCell ⟨ga, 0, none⟩ v') (fun k => k = ga ∨ v'.ownBlock = some k) := by
    refine ⟨?_, ?_, hvn, rfl⟩
    · have := heap_setCell_same w1 ga 0 _ _ v' (bg.trans hb)
      simpa using this
    · refine owns_move (w := w1) (by simpa [ptr] using hown) (fun k e => heap_setCell_other w1 _ k _ (fun e' => ?_))
      simp at e'
      subst e'
      exact hvn e
  have hAll := (All.res _ (Ar.disks hX gs a.ds)).frame h2 hfr2 (fun k hk hk' => hd k hk' hk)
  have hNew := (hX g' m).frame h3 hfr2 (fun k hk hk' => hd2 k (.inl hk') hk)
  have hlt : ∀ k, (S2 k ∨ S3 k) → k < w.heap.size := fun k hk => hk.elim ((All.res _ (Ar.disks hX gs a.ds)).lt h2 k) ((hX g' m).lt h3 k)
  have hv : ∀ k, v'.ownBlock = some k → sv.ownBlock = some k ∨ w.heap.size ≤ k := by
    intro k hk
    rcases hat with e | e
    · exact .inl (e ▸ hk)
    · rw [e, hsz] at hk
      simp at hk
      exact .inr (by omega)
  have hsn := All.snoc _ _ _ _ ⟨S2, S3, hAll, hNew, fun k h1 h2 => hd2 k (.inr h1) h2, rfl⟩
  have hz : List.zipWith X (gs ++ [g']) (a.ds ++ [m]) = List.zipWith X gs a.ds ++ [X g' m] := by rw [List.zipWith_append hl]; rfl
  refine ⟨_, ⟨by simp [hl], ⟨_, _, hHead, by rw [hz]; exact hsn, ?_, rfl⟩⟩, hfr2.mono (fun k _ hk => .inl (.inl hk)), ?_⟩
  · rintro k (rfl | hk) h'
    · exact h'.elim (hd _ (.inl rfl)) (hd2 _ (.inl (.inl rfl)))
    · rcases hv k hk with e | e
      · exact h'.elim (hd _ (.inr e)) (hd2 _ (.inl (.inr e)))
      · have := hlt k h'; omega
  · rintro k ((rfl | hk) | (hk | hk))
    · exact .inl (.inl (.inl (.inl rfl)))
    · rcases hv k hk with e | e
      · exact .inl (.inl (.inl (.inr e)))
      · exact .inr e
    · exact .inl (.inl (.inr hk))
    · exact .inl (.inr hk)

set_option maxRecDepth 100000 in
theorem Made.step {w wx w2 : World} {A B : World → (Nat → Prop) → Prop} (h : Made w wx (A wx)) (k : ∀ S, A wx S → Step wx w2 S (B w2)) : Made w w2 (B w2) := by
  obtain ⟨T, hA, hf, hn⟩ := h
  obtain ⟨S', hB, hf2, hg⟩ := k T hA
  refine ⟨S', hB, hf.then hf2 (fun i hi ht => by have := hn i ht; omega), fun i hi => ?_⟩
  rcases hg i hi with e | e
  · exact hn i e
  · exact Nat.le_trans hf.size e

set_option maxRecDepth 100000 in
theorem ptrInfo : (Try.prog.info? 58).map (fun i => (i.zero, i.size, i.bytes)) = some (some (.pointer none), 1, 8) := by kernel_rfl

set_option maxRecDepth 100000 in
theorem Head.first (T P : TypeId) (w : World) (left : Int) (down : Bool) : Head T P w.heap.size (.slice none 0 0) [] left down (w.alloc (.cells #[.slice none 0 0, .int .i64 left, .bool down] T)) (fun k => k = w.heap.size ∨ (Value.slice none 0 0).ownBlock = some k) :=
  ⟨heap_alloc_new w _, World.ownsRow_nil _ _ _ _, by simp [Value.ownBlock], rfl⟩
set_option maxRecDepth 100000 in
theorem Ar.first {X : Nat → Dsk → Thing} (T P : TypeId) (w : World) (left : Int) (down : Bool) : Made w (w.alloc (.cells #[.slice none 0 0, .int .i64 left, .bool down] T)) (Ar X T P w.heap.size (.slice none 0 0) [] ⟨[], left, down⟩ (w.alloc (.cells #[.slice none 0 0, .int .i64 left, .bool down] T))) := by
  refine ⟨_, ⟨rfl, _, _, Head.first T P w left down, rfl, fun _ _ h => h, rfl⟩, (Fr.refl _ w).alloc _, ?_⟩
  rintro k ((rfl | hk) | hk)
  · exact Nat.le_refl _
  · simp [Value.ownBlock] at hk
  · exact hk.elim

/-- A new array. -/
def blanks (d n z : Nat) : Arr := { ds := List.replicate d (blank n z), left := -1, down := false }

set_option maxRecDepth 100000 in
set_option maxHeartbeats 4000000 in
theorem anew_yes (d n z : Nat) (h0 : 1 ≤ d) (h0' : d ≤ 255) (h1 : 1 ≤ n) (h2 : n ≤ 4096) (h3 : 1 ≤ z) (h4 : z ≤ 4096) (w : World) :
    Calls Try.prog 10 #[.int .i64 (d : Int), .int .i64 (n : Int), .int .i64 (z : Int)] w fun e w' => ∃ ga sv gs, e = .returned (.tuple #[.pointer (some ⟨ga, 0, none⟩), .int .i64 0]) ∧ Made w w' (Pa ga sv gs (blanks d n z) w') := by
  have KN := Lib.hid (fun w => new_made n z h1 h2 h3 h4 w)
  have g1 : ¬ (d : Int) < 1 := by omega
  have g2 : ¬ 255 < (d : Int) := by omega
  have g3 : (d : Int) ≤ 9223372036854775807 := by omega
  obtain ⟨i0, hi, hz0, hz1, hz2⟩ := info_parts ptrInfo
  go_enter Try.func10, Try.ntmps10
  go_wp2_with fail
  have HF0 := Lib.hid (Ar.first (X := D) 57 58 w (-1) false)
  generalize w.heap.size = ga at HF0 ⊢
  go_loopg [20] d (fun q v20 wx => ∃ (k : Nat) (sv : Value) (gs : List Nat), k + q = d ∧ v20 = .int .i64 (k : Int) ∧ Aside (Made w wx (Pa ga sv gs (blanks k n z) wx)))
  case atStart => exact ⟨0, _, _, by omega, rfl, HF0.out⟩
  case round =>
    obtain ⟨k, sv, gs, hkq, rfl, HI⟩ := hrel
    cases gk with
    | zero =>
      obtain rfl : k = d := by omega
      go_wp2_with fail
      go_ret2
      exact ⟨ga, sv, gs, rfl, HI.out⟩
    | succ q =>
      have hm : k < d := by omega
      have hmi : (k : Int) < (d : Int) := by omega
      go_wp2_with fail
      refine (KN.out _).mono ?_
      rintro e w2 ⟨rfl, hmade⟩
      have h2 : Made w w2 (Both (Pa ga sv gs (blanks k n z)) (D (wr.heap.size + 1) (blank n z)) w2) := Made.step (A := fun w => Pa ga sv gs (blanks k n z) w) HI.out (fun S hS => Made.with (Pa.res _ _ _ _) hS hmade)
      have H2 := Lib.hid h2
      clear h2 hmade HI
      generalize wr.heap.size + 1 = g' at H2 ⊢
      obtain ⟨U, hB, hf, hn⟩ := H2.out
      obtain ⟨hAr, hgs, hne, hga, hrow⟩ : (∃ T, Pa ga sv gs (blanks k n z) w2 T) ∧ gs.length = k ∧ sv.ownBlock ≠ some ga ∧ ga < w2.heap.size ∧ w2.ownsRow 0 58 1 sv gs.length (gs.map ptr) := by
        obtain ⟨S1, S2, h1, -, -, -⟩ := hB
        have h1' := h1
        obtain ⟨hl, S3, S4, ⟨hb, hr, hn', -⟩, -⟩ := h1
        exact ⟨⟨_, h1'⟩, by simpa [blanks] using hl, hn', (Array.getElem?_eq_some_iff.1 hb).1, hr⟩
      obtain ⟨T, hT⟩ := hAr
      obtain ⟨A, c, -, -, -, x0, -, -, xf, -⟩ := hT.reads
      have xf0 := xf 0
      clear xf hT
      have hown := Lib.hid (hrow.alloc (.cells #[ptr g'] 58))
      clear hrow
      have hg' : (w2.alloc (.cells #[ptr g'] 58)).cell? ⟨w2.heap.size, 0, none⟩ = some (ptr g') := cell_of_row _ w2.heap.size 0 _ _ _ (heap_alloc_new w2 (.cells #[ptr g'] 58))
      go_wp2_with (at_builtin; go_loud (refine wpList_append_own_at _ rfl _ _ 55 rfl 0 58 i0 (.pointer none) 1 8 Try.underlying55 hi hz0 hz1 hz2 rfl (by decide) sv gs.length (gs.map ptr) rfl hown.out ⟨w2.heap.size, 0, none⟩ 1 1 [ptr g'] rfl rfl ?c1 ?c2 ?c3 ?c4 (Nat.zero_le _) ?_))
      case c1 =>
        intro j u hj
        cases j with
        | zero =>
          simp at hj
          subst hj
          exact hg'
        | succ j => simp at hj
      case c2 => intro u hu; simp at hu; subst hu; rfl
      case c3 => unfold maxLen; omega
      case c4 => omega
      intro v' w1 hown' hgrow hnil hat
      have bg : w1.heap[ga]? = w2.heap[ga]? := (hgrow.block ga (by simp; omega) (fun e => hne e.symm)).trans (Below.heap_alloc w2 _ ga hga)
      have hcell : w1.cell? ⟨ga, 0, none⟩ = some sv := (World.cell?_of_block bg).trans x0
      have hfro : w1.frozen? ⟨ga, 0, none⟩ = false := (World.frozen?_of_block bg).trans xf0
      have hap := Ar.append D.res hB _ hgrow (by rw [hgs]; simpa using hown') (hat.imp id (by intro e; simpa using e))
      have hfin : Made w (w1.setCell ⟨ga, 0, none⟩ v') (Pa ga v' (gs ++ [g']) (blanks (k + 1) n z) (w1.setCell ⟨ga, 0, none⟩ v')) := by
        have hb : (⟨(blanks k n z).ds ++ [blank n z], (blanks k n z).left, (blanks k n z).down⟩ : Arr) = blanks (k + 1) n z := by
          unfold blanks
          rw [List.replicate_succ']
        rw [← hb]
        obtain ⟨S', hB', hf', hg''⟩ := hap
        exact ⟨S', hB', hf.then hf' (fun i hi ht => by have := hn i ht; omega), fun i hi => (hg'' i hi).elim (hn i) (fun e => Nat.le_trans hf.size e)⟩
      obtain ⟨gv, cv, rfl⟩ : ∃ gv cv, v' = .slice (some ⟨gv, 0, none⟩) (k + 1) cv := by
        rcases owns_form hown' with ⟨_, h0⟩ | ⟨gv, cv, h0, _⟩
        · omega
        · exact ⟨gv, cv, by rw [h0]⟩
      have HFin := Lib.hid hfin
      clear hfin hap hB hf hn hown hown' hgrow hnil hat hg' xf0 x0
      go_wp2
      go_roundg q
      case measure => omega
      case rel => exact ⟨k + 1, _, gs ++ [g'], by omega, by go_num, HFin.out⟩

end Go.Proofs.Ytpmhjagmgjolmaa.Dk
