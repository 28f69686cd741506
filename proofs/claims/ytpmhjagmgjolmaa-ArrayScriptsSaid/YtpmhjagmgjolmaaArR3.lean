/- The document's array (layer 10): Write. -/
import Derived.Test.YtpmhjagmgjolmaaArR2
namespace Go.Proofs.Ytpmhjagmgjolmaa.Dk
open Go.RowKit

/-- A step on one of many things that is no call. -/
theorem All.stepIn {w w' : World} {A A' : Thing} (hst : ∀ S, A w S → Step w w' S (A' w')) :
    ∀ (l : List Thing) (i : Nat), (∀ B ∈ l, Res B) → l[i]? = some A → ∀ S, All l w S → Step w w' S (All (l.set i A') w')
  | [], _, _, h => by simp at h
  | B :: r, 0, hr, h => by
    simp at h
    subst h
    rintro U ⟨S, T, hA, hB, hd, rfl⟩
    exact Step.left (All.res r fun C hC => hr C (by simp [hC])) (hst S hA) hB hd
  | B :: r, i + 1, hr, h => by
    rintro U ⟨S, T, hA, hB, hd, rfl⟩
    exact Step.right (hr B (by simp)) hA (All.stepIn hst r i (fun C hC => hr C (by simp [hC])) (by simpa using h) T hB) hd
set_option maxRecDepth 100000 in
theorem Ar.stepAt {X : Nat → Dsk → Thing} (hX : ∀ g m, Res (X g m)) {T P : TypeId} {ga : Nat} {sv : Value} {gs : List Nat} {a : Arr} {w w' : World} {i g : Nat} {m m' : Dsk} (hi : a.ds[i]? = some m) (hg : gs[i]? = some g) (S : Nat → Prop)
    (hst : ∀ U, X g m w U → Step w w' U (X g m' w')) (h : Ar X T P ga sv gs a w S) : Step w w' S (Ar X T P ga sv gs { a with ds := a.ds.set i m' } w') := by
  obtain ⟨hl, S1, S2, h1, h2, hd, rfl⟩ := h
  have hz : (List.zipWith X gs a.ds)[i]? = some (X g m) := by simp [List.getElem?_zipWith, hi, hg]
  obtain ⟨S', hB, hf, hg'⟩ := Step.right (Head.res T P ga sv gs a.left a.down) h1 (All.stepIn hst _ i (Ar.disks hX gs a.ds) hz S2 h2) hd
  refine ⟨S', ⟨by simpa using hl, ?_⟩, hf, hg'⟩
  have hset : (List.zipWith X gs a.ds).set i (X g m') = List.zipWith X gs (a.ds.set i m') := by
    apply List.ext_getElem?
    intro j
    by_cases e : i = j
    · subst e
      have h1 := (List.getElem?_eq_some_iff.1 hi).1
      have h2 := (List.getElem?_eq_some_iff.1 hg).1
      rw [List.getElem?_set_self (by simp; omega), List.getElem?_zipWith, hg, List.getElem?_set_self h1]
    · rw [List.getElem?_set_ne e, List.getElem?_zipWith, List.getElem?_zipWith, List.getElem?_set_ne e]
  rw [hset] at hB
  exact hB

/-- What waits on a disk where something does. -/
theorem R.wcell {g : Nat} {m : Dsk} {e : Ev} {w : World} {U : Nat → Prop} (h : R g { m with wait := m.wait ++ [e] } w U) : ∃ gw cap, w.cell? ⟨g, 2, none⟩ = some (.slice (some ⟨gw, 0, none⟩) (m.wait.length + 1) cap) ∧ w.frozen? ⟨g, 2, none⟩ = false ∧ m.wait.length + 1 ≤ cap ∧ cap ≤ 9223372036854775807 := by
  obtain ⟨s, wv, h, rfl⟩ := h
  obtain ⟨c, -, -, -, c2, -, cf, -⟩ := h.reads
  rcases owns_form h.wait with ⟨_, h0⟩ | ⟨gw, cap, rfl, -, -, h1, h2⟩
  · simp at h0
  · refine ⟨gw, cap, by rw [c2]; simp, cf 2, by simpa using h1, by unfold maxLen at h2; omega⟩
set_option maxRecDepth 100000 in
theorem R.unwrite {g gw cap : Nat} {m : Dsk} {e : Ev} {w : World} {U : Nat → Prop} (h : R g { m with wait := m.wait ++ [e] } w U) (hc : w.cell? ⟨g, 2, none⟩ = some (.slice (some ⟨gw, 0, none⟩) (m.wait.length + 1) cap)) :
    Step w (w.setCell ⟨g, 2, none⟩ (.slice (some ⟨gw, 0, none⟩) m.wait.length cap)) U (R g m (w.setCell ⟨g, 2, none⟩ (.slice (some ⟨gw, 0, none⟩) m.wait.length cap))) := by
  obtain ⟨s, wv, h, rfl⟩ := h
  obtain ⟨c, -, -, -, c2, -, cf, -⟩ := h.reads
  rw [hc] at c2
  obtain rfl := Option.some.inj c2
  have hw := h.wait
  have hown : w.ownsRow 0 87 2 (.slice (some ⟨gw, 0, none⟩) m.wait.length cap) m.wait.length (m.wait.flatMap wcells) := by
    refine ⟨flat_len _, ?_⟩
    rcases hw.2 with ⟨h1, _⟩ | ⟨g', cap', cur, e1, hb, hg, hn, hm, hs, ht⟩
    · simp at h1
    · simp only [Value.slice.injEq, Option.some.injEq, Addr.mk.injEq] at e1
      obtain ⟨⟨rfl, _, _⟩, _, rfl⟩ := e1
      refine .inr ⟨gw, cap, cur, rfl, hb, hg, ?_, hm, hs, ?_⟩
      · simp at hn; omega
      · have e2 : ({ m with wait := m.wait ++ [e] } : Dsk).wait.length * 2 = (m.wait.length + 1) * 2 := by simp
        rw [e2] at ht
        change _ = (m.wait ++ [e]).flatMap wcells at ht
        rw [List.flatMap_append] at ht
        have h3 : cur.toList.take (m.wait.length * 2) = (cur.toList.take ((m.wait.length + 1) * 2)).take (m.wait.length * 2) := by
          rw [List.take_take]
          exact congrArg (fun q => List.take q _) (by omega)
        rw [h3, ht, List.take_append_of_le_length (by rw [flat_len]; omega), List.take_of_length_le (by rw [flat_len]; omega)]
  have hset := h.setWait (.slice (some ⟨gw, 0, none⟩) m.wait.length cap) m.wait hown (fun x hx => h.ok x (by simp [hx]))
  refine ⟨foot g s (.slice (some ⟨gw, 0, none⟩) m.wait.length cap), ⟨s, _, hset, rfl⟩, (Fr.refl _ w).setCell (p := ⟨g, 2, none⟩) (.inl (foot_g _ _ _)) _, fun k hk => .inl ?_⟩
  rcases hk with rfl | rfl | hk
  · exact foot_g _ _ _
  · exact foot_s _ _ _
  · exact .inr (.inr (by simpa [Value.ownBlock] using hk))

end Go.Proofs.Ytpmhjagmgjolmaa.Dk
