/- A row of truths that a law of layer 10 makes; a call beside what there is. -/
import Derived.Test.YtpmhjagmgjolmaaArLive
namespace Go.Proofs.Ytpmhjagmgjolmaa.Dk
open Go.RowKit

set_option maxRecDepth 100000 in
theorem Law.opL {A A' B : Thing} (b : Res B) {w0 w : World} (h : Law w0 w (Both A B)) {f : FuncId} {args : Array Value} {X : Ending} (hop : ∀ S, A w S → Calls Try.prog f args w fun e w' => e = X ∧ Step w w' S (A' w')) :
    Calls Try.prog f args w fun e w' => e = X ∧ Law w0 w' (Both A' B) := by
  obtain ⟨U, ⟨S, T, hA, hB, hd, rfl⟩, hn, hb⟩ := h
  exact (hop S hA).mono fun e w' ⟨he, hs⟩ => ⟨he, Law.step hn hb (Step.left b hs hB hd)⟩
set_option maxRecDepth 100000 in
theorem Law.opR {A B B' : Thing} (a : Res A) {w0 w : World} (h : Law w0 w (Both A B)) {f : FuncId} {args : Array Value} {X : Ending} (hop : ∀ S, B w S → Calls Try.prog f args w fun e w' => e = X ∧ Step w w' S (B' w')) :
    Calls Try.prog f args w fun e w' => e = X ∧ Law w0 w' (Both A B') := by
  obtain ⟨U, ⟨S, T, hA, hB, hd, rfl⟩, hn, hb⟩ := h
  exact (hop T hB).mono fun e w' ⟨he, hs⟩ => ⟨he, Law.step hn hb (Step.right a hA hs hd)⟩

/-- A row of L truths at block b, the first k of them set. -/
def RowT (b L k : Nat) : Thing := fun w S => w.heap[b]? = some (.cells (upTo L k).toArray 4 (0, 0)) ∧ S = fun i => i = b
set_option maxRecDepth 100000 in
theorem RowT.res (b L k : Nat) : Res (RowT b L k) := by
  refine ⟨?_, ?_⟩
  · rintro w S ⟨h, rfl⟩ k rfl
    exact (Array.getElem?_eq_some_iff.1 h).1
  · rintro w w' S T ⟨h, rfl⟩ hf hd
    exact ⟨hf.heap h (hd b rfl), rfl⟩
set_option maxRecDepth 100000 in
theorem RowT.made (w : World) (L : Nat) : Made w (w.alloc (.cells (madeCells #[.bool false] L) 4)) (RowT w.heap.size L 0 (w.alloc (.cells (madeCells #[.bool false] L) 4))) :=
  ⟨_, ⟨(RepW.first w L).row, rfl⟩, (Fr.refl _ w).alloc _, by rintro k rfl; exact Nat.le_refl _⟩
set_option maxRecDepth 100000 in
theorem upTo_at (L k : Nat) (h : k < L) : (upTo L k)[k]? = some (.bool false) := by
  unfold upTo
  rw [List.getElem?_append_right (by simp), List.length_replicate, Nat.sub_self, List.getElem?_replicate, if_pos (by omega)]
set_option maxRecDepth 100000 in
theorem upTo_set (L k : Nat) (h : k < L) : (upTo L k).set k (.bool true) = upTo L (k + 1) := by
  unfold upTo
  rw [List.set_append_right _ _ (by simp)]
  simp only [List.length_replicate, Nat.sub_self]
  obtain ⟨r, hr⟩ : ∃ r, L - k = r + 1 := ⟨L - k - 1, by omega⟩
  rw [hr, List.replicate_succ, List.set_cons_zero, show L - (k + 1) = r by omega, List.replicate_succ', List.append_assoc]
  rfl
set_option maxRecDepth 100000 in
theorem RowT.put {w : World} {b L k : Nat} {S : Nat → Prop} (h : RowT b L k w S) (hk : k < L) : Step w (w.setCell ⟨b, k, none⟩ (.bool true)) S (RowT b L (k + 1) (w.setCell ⟨b, k, none⟩ (.bool true))) := by
  obtain ⟨h, rfl⟩ := h
  refine ⟨_, ⟨?_, rfl⟩, Fr.setCell (S := fun i => i = b) (Fr.refl _ w) (p := ⟨b, k, none⟩) (.inl rfl) _, fun i hi => .inl hi⟩
  have := heap_setCell_same w b k _ _ (.bool true) h
  rw [this]
  congr 2
  apply Array.ext'
  simp [upTo_set L k hk]
set_option maxRecDepth 100000 in
theorem Law.put {A : Thing} (a : Res A) {w0 w : World} {b L k : Nat} (h : Law w0 w (Both A (RowT b L k))) (hk : k < L) : Law w0 (w.setCell ⟨b, k, none⟩ (.bool true)) (Both A (RowT b L (k + 1))) := by
  obtain ⟨U, ⟨S, T, hA, hB, hd, rfl⟩, hn, hb⟩ := h
  exact Law.step hn hb (Step.right a hA (hB.put hk) hd)
set_option maxRecDepth 100000 in
theorem Law.rowCells {A : Thing} {w0 w : World} {b L k : Nat} (h : Law w0 w (Both A (RowT b L k))) : w.heap[b]? = some (.cells (upTo L k).toArray 4 (0, 0)) := by
  obtain ⟨U, ⟨S, T, hA, hB, hd, rfl⟩, hn, hb⟩ := h
  exact hB.1

/-- What Read tells of a sector that there is. -/
theorem read_fine (m : Dsk) (i : Nat) (hg : m.gone = false) (hi : i < m.sec.length) : checkE m i 0 = 0 ∧ readV m i = latest m i := by
  have he : checkE m i 0 = 0 := by
    unfold checkE
    rw [if_neg (by rw [hg]; decide), if_neg (by omega), if_neg (by omega)]
  exact ⟨he, by unfold readV; rw [if_pos he]; rfl⟩


/-- Crash of layer 10, with a row that is a law's own. -/
theorem Law.acrashRow {w0 w : World} {ga b L : Nat} {sv : Value} {gs : List Nat} {a : Arr} (hL : L ≤ 1000000) (hL0 : 0 < L) (h : Law w0 w (Both (Pa ga sv gs a) (RowT b L L))) :
    Calls Try.prog 14 #[.pointer (some ⟨ga, 0, none⟩), .slice (some ⟨b, 0, none⟩) L L] w fun e w' => e = .returned (.int .i64 0) ∧ Law w0 w' (Both (Pa ga sv gs (acrashed a (List.replicate L true))) (RowT b L L)) := by
  obtain ⟨U, ⟨S, T, hA, ⟨hrow, rfl⟩, hd, rfl⟩, hn, hb⟩ := h
  have hr : ReadsBools w S (some ⟨b, 0, none⟩) (List.replicate L true) := by
    intro j v hj
    have hl := (List.getElem?_eq_some_iff.1 hj).1
    simp at hl
    simp [hl] at hj
    subst hj
    have hadd : (⟨b, 0, none⟩ : Addr).add j = ⟨b, j, none⟩ := by unfold Addr.add; split <;> simp_all
    refine ⟨_, rfl, ?_, fun hk => hd b hk rfl⟩
    rw [hadd, cell_of_row _ b j _ _ _ hrow]
    have := upTo_get L L j hl
    simpa using this
  have hc := acrash_at (some ⟨b, 0, none⟩) L (List.replicate L true) (by simp) (by omega) (by simp) S hr hA
  rw [List.length_replicate] at hc
  exact hc.mono fun e w' ⟨he, hs⟩ => ⟨he, Law.step hn hb (Step.left (RowT.res _ _ _) hs ⟨hrow, rfl⟩ hd)⟩

end Go.Proofs.Ytpmhjagmgjolmaa.Dk
