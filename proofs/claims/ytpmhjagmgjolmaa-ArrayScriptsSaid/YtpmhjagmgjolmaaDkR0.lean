/- The document's disk (layer 9) as plain data, how it lies in memory. Turned by program out of Dk0 and Dk3. -/
import Derived.Test.YtpmhjagmgjolmaaDkNil
import Derived.Test.YtpmhjagmgjolmaaDkRep
namespace Go.Proofs.Ytpmhjagmgjolmaa.Dk
open Go.RowKit

/-- A write that waits, as the document's disk holds it: two cells. -/
def wcells (x : Ev) : List Value := [.int .i64 (x.1 : Int), .string x.2]

/-- A disk lies at block g; its sectors' row at block s; wv: what waits. -/
structure IsRef (w : World) (g s : Nat) (wv : Value) (m : Dsk) : Prop where
  blk : ∃ cap, w.heap[g]? = some (.cells #[.slice (some ⟨s, 0, none⟩) m.sec.length cap, .int .i64 (m.size : Int), wv, .bool m.gone] 51 (0, 0)) ∧
    w.ownsRow 0 9 1 (.slice (some ⟨s, 0, none⟩) m.sec.length cap) m.sec.length (m.sec.map .string)
  wait : w.ownsRow 0 87 2 wv m.wait.length (m.wait.flatMap wcells)
  ok : ∀ x ∈ m.wait, x.1 < m.sec.length
  pos : 0 < m.sec.length
  most : m.sec.length ≤ 4096
  fits : m.size ≤ 4096

section
variable {w w' : World} {g s : Nat} {wv : Value} {m : Dsk}

theorem IsRef.lt (h : IsRef w g s wv m) : ∀ k, foot g s wv k → k < w.heap.size := by
  intro k hk
  obtain ⟨cap, hb, hr⟩ := h.blk
  rcases hk with rfl | rfl | hk
  · exact (Array.getElem?_eq_some_iff.1 hb).1
  · exact (hr.lt k rfl).2
  · exact (h.wait.lt k hk).2

/-- What keeps a disk's blocks keeps the disk. -/
theorem IsRef.keep (h : IsRef w g s wv m) (hk : ∀ k, foot g s wv k → w'.heap[k]? = w.heap[k]?) : IsRef w' g s wv m := by
  obtain ⟨cap, hb, hr⟩ := h.blk
  exact ⟨⟨cap, (hk g (foot_g _ _ _)).trans hb, owns_move hr (fun k e => hk k (.inr (.inl (by simpa [Value.ownBlock] using e.symm))))⟩,
    owns_move h.wait (fun k e => hk k (.inr (.inr e))), h.ok, h.pos, h.most, h.fits⟩
theorem IsRef.frame {S : Nat → Prop} (h : IsRef w g s wv m) (hf : Fr S w w') (hd : ∀ k, foot g s wv k → ¬ S k) : IsRef w' g s wv m :=
  h.keep fun k hk => hf.same k (h.lt k hk) (hd k hk)
theorem IsRef.drew (h : IsRef w g s wv m) : IsRef w.drew g s wv m := h.keep fun _ _ => rfl
theorem IsRef.drewN (h : IsRef w g s wv m) (n : Nat) : IsRef (w.drewN n) g s wv m := h.keep fun _ _ => rfl
theorem IsRef.alloc (h : IsRef w g s wv m) (o : Obj) : IsRef (w.alloc o) g s wv m := h.keep fun k hk => Below.heap_alloc w o k (h.lt k hk)

/-- The blocks are three: of three types. -/
theorem IsRef.gs (h : IsRef w g s wv m) : g ≠ s := by
  obtain ⟨cap, hb, hr⟩ := h.blk
  obtain ⟨cs, hc⟩ := owns_typed hr s rfl
  rintro rfl
  rw [hb] at hc
  simp at hc
theorem IsRef.gw (h : IsRef w g s wv m) : wv.ownBlock ≠ some g := by
  intro e
  obtain ⟨cap, hb, hr⟩ := h.blk
  obtain ⟨cs, hc⟩ := owns_typed h.wait g e
  rw [hb] at hc
  simp at hc
theorem IsRef.sw (h : IsRef w g s wv m) : wv.ownBlock ≠ some s := by
  intro e
  obtain ⟨cap, hb, hr⟩ := h.blk
  obtain ⟨cs, hc⟩ := owns_typed hr s rfl
  obtain ⟨cs', hc'⟩ := owns_typed h.wait s e
  rw [hc] at hc'
  simp at hc'

/-- What the walks read of a disk. -/
theorem IsRef.reads (h : IsRef w g s wv m) : ∃ cap, m.sec.length ≤ cap ∧ w.cell? ⟨g, 0, none⟩ = some (.slice (some ⟨s, 0, none⟩) m.sec.length cap) ∧ w.cell? ⟨g, 1, none⟩ = some (.int .i64 (m.size : Int)) ∧
    w.cell? ⟨g, 2, none⟩ = some wv ∧ w.cell? ⟨g, 3, none⟩ = some (.bool m.gone) ∧ (∀ j, w.frozen? ⟨g, j, none⟩ = false) ∧
    (∀ (j : Nat) x, m.sec[j]? = some x → w.cell? ⟨s, j, none⟩ = some (.string x)) ∧ (∀ j, w.frozen? ⟨s, j, none⟩ = false) := by
  obtain ⟨cap, hb, hr⟩ := h.blk
  have hcap : m.sec.length ≤ cap := by
    rcases owns_form hr with ⟨e, _⟩ | ⟨g', cap', e, _, _, h1, _⟩
    · simp at e
    · simp at e; omega
  refine ⟨cap, hcap, ?_, ?_, ?_, ?_, fun j => frozen_of_row w g j _ _ hb, fun j x hx => ?_, fun j => hr.frozenAt j⟩
  · rw [cell_of_row w g 0 _ _ _ hb]; rfl
  · rw [cell_of_row w g 1 _ _ _ hb]; rfl
  · rw [cell_of_row w g 2 _ _ _ hb]; rfl
  · rw [cell_of_row w g 3 _ _ _ hb]; rfl
  · have hj := (List.getElem?_eq_some_iff.1 hx).1
    rw [hr.cellAt j (by omega), List.getElem?_map, hx]
    rfl
end


/-! Stores into a disk's blocks. -/
section
variable {w : World} {g s : Nat} {wv : Value} {m : Dsk}

theorem IsRef.setWait' (h : IsRef w g s wv m) {w1 : World} (bg : w1.heap[g]? = w.heap[g]?) (bs : w1.heap[s]? = w.heap[s]?) (wv' : Value) (ws : List (Nat × ByteArray)) (hw : w1.ownsRow 0 87 2 wv' ws.length (ws.flatMap wcells)) (hok : ∀ x ∈ ws, x.1 < m.sec.length) :
    IsRef (w1.setCell ⟨g, 2, none⟩ wv') g s wv' { m with wait := ws } := by
  have hgs := h.gs
  obtain ⟨cap, hb, hr⟩ := h.blk
  have hb1 := bg.trans hb
  have hr1 : w1.ownsRow 0 9 1 (.slice (some ⟨s, 0, none⟩) m.sec.length cap) m.sec.length (m.sec.map .string) := owns_move hr (fun k e => by simp [Value.ownBlock] at e; subst e; exact bs)
  refine ⟨⟨cap, ?_, owns_move hr1 (fun k e => heap_setCell_other w1 _ k _ (fun e' => ?_))⟩, owns_move hw (fun k e => heap_setCell_other w1 _ k _ (fun e' => ?_)), hok, h.pos, h.most, h.fits⟩
  · have := heap_setCell_same w1 g 2 _ _ wv' hb1
    simpa using this
  · simp [Value.ownBlock] at e
    simp at e'
    omega
  · simp at e'
    subst e'
    obtain ⟨cs, hc⟩ := owns_typed hw _ e
    rw [hb1] at hc
    simp at hc

theorem IsRef.setWait (h : IsRef w g s wv m) (wv' : Value) (ws : List (Nat × ByteArray)) (hw : w.ownsRow 0 87 2 wv' ws.length (ws.flatMap wcells)) (hok : ∀ x ∈ ws, x.1 < m.sec.length) :
    IsRef (w.setCell ⟨g, 2, none⟩ wv') g s wv' { m with wait := ws } := h.setWait' rfl rfl wv' ws hw hok

theorem IsRef.setGone (h : IsRef w g s wv m) (b : Bool) : IsRef (w.setCell ⟨g, 3, none⟩ (.bool b)) g s wv { m with gone := b } := by
  have hgs := h.gs
  have hgw := h.gw
  obtain ⟨cap, hb, hr⟩ := h.blk
  refine ⟨⟨cap, ?_, owns_move hr (fun k e => heap_setCell_other w _ k _ (fun e' => ?_))⟩, owns_move h.wait (fun k e => heap_setCell_other w _ k _ (fun e' => ?_)), h.ok, h.pos, h.most, h.fits⟩
  · have := heap_setCell_same w g 3 _ _ (.bool b) hb
    simpa using this
  · simp [Value.ownBlock] at e
    simp at e'
    omega
  · simp at e'
    subst e'
    exact hgw e

theorem IsRef.setSec (h : IsRef w g s wv m) (j : Nat) (x : ByteArray) : IsRef (w.setCell ⟨s, j, none⟩ (.string x)) g s wv { m with sec := m.sec.set j x } := by
  have hgs := h.gs
  have hsw := h.sw
  obtain ⟨cap, hb, hr⟩ := h.blk
  refine ⟨⟨cap, ?_, ?_⟩, owns_move h.wait (fun k e => heap_setCell_other w _ k _ (fun e' => ?_)), by simpa using h.ok, by simpa using h.pos, by simpa using h.most, h.fits⟩
  · rw [heap_setCell_other w _ g _ (by simpa using hgs)]
    simpa using hb
  · have := (hr.stored j (.string x)).1
    simpa [List.map_set] using this
  · simp at e'
    subst e'
    exact hsw e

end


theorem flat_get : ∀ (ws : List Ev) (j : Nat) (x : Ev), ws[j]? = some x → (ws.flatMap wcells)[j * 2]? = some (.int .i64 (x.1 : Int)) ∧ (ws.flatMap wcells)[j * 2 + 1]? = some (.string x.2)
  | [], j, x, h => by simp at h
  | y :: ys, 0, x, h => by
    simp at h
    subst h
    simp [wcells]
  | y :: ys, j + 1, x, h => by
    have ih := flat_get ys j x (by simpa using h)
    rw [show (j + 1) * 2 = j * 2 + 2 by omega, show j * 2 + 2 + 1 = j * 2 + 1 + 2 by omega, List.flatMap_cons]
    exact ⟨by simpa [wcells] using ih.1, by simpa [wcells] using ih.2⟩
theorem flat_len : ∀ (ws : List Ev), (ws.flatMap wcells).length = ws.length * 2
  | [] => rfl
  | y :: ys => by
    rw [List.flatMap_cons, List.length_append, flat_len ys]
    simp [wcells]
    omega

/-- What waits, as the walks read it. -/
theorem IsRef.waits {w : World} {g s : Nat} {wv : Value} {m : Dsk} (h : IsRef w g s wv m) : ∃ A c, wv = .slice A m.wait.length c ∧ m.wait.length ≤ 9223372036854775807 ∧
    ∀ (wx : World) (mx : Dsk), IsRef wx g s wv mx → mx.wait = m.wait → ∀ (j : Nat) x, m.wait[j]? = some x → ∃ ad, A = some ad ∧ wx.cell? (ad.add (j * 2)) = some (.int .i64 (x.1 : Int)) ∧ wx.cell? ⟨(ad.add (j * 2)).block, (ad.add (j * 2)).off + 1, none⟩ = some (.string x.2) := by
  rcases owns_form h.wait with ⟨rfl, hn⟩ | ⟨gw, cw, rfl, -, -, hnc, hcm⟩
  · refine ⟨none, 0, by rw [hn], by omega, fun wx mx _ _ j x hx => ?_⟩
    have := (List.getElem?_eq_some_iff.1 hx).1
    omega
  · refine ⟨some ⟨gw, 0, none⟩, cw, rfl, by unfold maxLen at hcm; omega, fun wx mx hx he j x hj => ⟨_, rfl, ?_, ?_⟩⟩
    · have hw := hx.wait
      rw [he] at hw
      exact hw.cells rfl (j * 2) _ (flat_get _ j x hj).1
    · have hw := hx.wait
      rw [he] at hw
      show wx.cell? (((⟨gw, 0, none⟩ : Addr).add (j * 2)).add 1) = _
      rw [Deep.add_add]
      exact hw.cells rfl (j * 2 + 1) _ (flat_get _ j x hj).2

/-- The document's disk as a thing. -/
def R (g : Nat) (m : Dsk) : Thing := fun w S => ∃ s wv, IsRef w g s wv m ∧ S = foot g s wv
theorem R.res (g : Nat) (m : Dsk) : Res (R g m) := by
  refine ⟨?_, ?_⟩
  · rintro w S ⟨s, wv, h, rfl⟩
    exact h.lt
  · rintro w w' S T ⟨s, wv, h, rfl⟩ hf hd
    exact ⟨s, wv, h.frame hf hd, rfl⟩

end Go.Proofs.Ytpmhjagmgjolmaa.Dk
