/- A disk and its blocks as one thing; the walks of Fail, Alive, Pending, Write of layer 9. -/
import Derived.Test.YtpmhjagmgjolmaaDk2
namespace Go.Proofs.Ytpmhjagmgjolmaa.Dk
open Go.RowKit

/-! Stores into a disk's blocks. -/
section
variable {w : World} {g s : Nat} {wv : Value} {m : Dsk}

theorem IsDisk.setWait' (h : IsDisk w g s wv m) {w1 : World} (bg : w1.heap[g]? = w.heap[g]?) (bs : w1.heap[s]? = w.heap[s]?) (wv' : Value) (ws : List (Nat × ByteArray)) (hw : w1.ownsRow 0 76 1 wv' ws.length (ws.map ev)) (hok : ∀ x ∈ ws, x.1 < m.sec.length) :
    IsDisk (w1.setCell ⟨g, 2, none⟩ wv') g s wv' { m with wait := ws } := by
  have hgs := h.gs
  obtain ⟨cap, hb, hr⟩ := h.blk
  have hb1 := bg.trans hb
  have hr1 : w1.ownsRow 0 9 1 (.slice (some ⟨s, 0, none⟩) m.sec.length cap) m.sec.length (m.sec.map .string) := owns_move hr (fun k e => by simp [Value.ownBlock] at e; subst e; exact bs)
  refine ⟨⟨cap, ?_, owns_move hr1 (fun k e => heap_setCell_other w1 _ k _ (fun e' => ?_))⟩, owns_move hw (fun k e => heap_setCell_other w1 _ k _ (fun e' => ?_)), hok, h.pos, h.most, h.fits⟩
  · have := heap_setCell_same w1 g 2 _ _ wv' hb1
    simpa using this
  · simp [Value.ownBlock] at e
    simp at e'
    omega
  · simp at e'
    subst e'
    obtain ⟨cs, hc⟩ := owns_typed hw _ e
    rw [hb1] at hc
    simp at hc

theorem IsDisk.setWait (h : IsDisk w g s wv m) (wv' : Value) (ws : List (Nat × ByteArray)) (hw : w.ownsRow 0 76 1 wv' ws.length (ws.map ev)) (hok : ∀ x ∈ ws, x.1 < m.sec.length) :
    IsDisk (w.setCell ⟨g, 2, none⟩ wv') g s wv' { m with wait := ws } := h.setWait' rfl rfl wv' ws hw hok

theorem IsDisk.setGone (h : IsDisk w g s wv m) (b : Bool) : IsDisk (w.setCell ⟨g, 3, none⟩ (.bool b)) g s wv { m with gone := b } := by
  have hgs := h.gs
  have hgw := h.gw
  obtain ⟨cap, hb, hr⟩ := h.blk
  refine ⟨⟨cap, ?_, owns_move hr (fun k e => heap_setCell_other w _ k _ (fun e' => ?_))⟩, owns_move h.wait (fun k e => heap_setCell_other w _ k _ (fun e' => ?_)), h.ok, h.pos, h.most, h.fits⟩
  · have := heap_setCell_same w g 3 _ _ (.bool b) hb
    simpa using this
  · simp [Value.ownBlock] at e
    simp at e'
    omega
  · simp at e'
    subst e'
    exact hgw e

theorem IsDisk.setSec (h : IsDisk w g s wv m) (j : Nat) (x : ByteArray) : IsDisk (w.setCell ⟨s, j, none⟩ (.string x)) g s wv { m with sec := m.sec.set j x } := by
  have hgs := h.gs
  have hsw := h.sw
  obtain ⟨cap, hb, hr⟩ := h.blk
  refine ⟨⟨cap, ?_, ?_⟩, owns_move h.wait (fun k e => heap_setCell_other w _ k _ (fun e' => ?_)), by simpa using h.ok, by simpa using h.pos, by simpa using h.most, h.fits⟩
  · rw [heap_setCell_other w _ g _ (by simpa using hgs)]
    simpa using hb
  · have := (hr.stored j (.string x)).1
    simpa [List.map_set] using this
  · simp at e'
    subst e'
    exact hsw e

end

/-! A thing with its blocks: S. A step turns no block but its own, and new ones. -/

def At (w : World) (g : Nat) (S : Nat → Prop) (m : Dsk) : Prop := ∃ s wv, IsDisk w g s wv m ∧ S = foot g s wv

/-- What a call leaves of a thing (A: how it lies, of such blocks). -/
def Step (w w' : World) (S : Nat → Prop) (A : (Nat → Prop) → Prop) : Prop := ∃ S', A S' ∧ Fr S w w' ∧ ∀ k, S' k → S k ∨ w.heap.size ≤ k

section
variable {w w' : World} {g : Nat} {S : Nat → Prop} {m : Dsk}

theorem At.lt (h : At w g S m) : ∀ k, S k → k < w.heap.size := by
  obtain ⟨s, wv, hd, rfl⟩ := h
  exact hd.lt
theorem At.frame {T : Nat → Prop} (h : At w g S m) (hf : Fr T w w') (hd : ∀ k, S k → ¬ T k) : At w' g S m := by
  obtain ⟨s, wv, h, rfl⟩ := h
  exact ⟨s, wv, h.frame hf hd, rfl⟩
theorem At.drew (h : At w g S m) : At w.drew g S m := by
  obtain ⟨s, wv, h, rfl⟩ := h
  exact ⟨s, wv, h.drew, rfl⟩
theorem At.alloc (h : At w g S m) (o : Obj) : At (w.alloc o) g S m := by
  obtain ⟨s, wv, h, rfl⟩ := h
  exact ⟨s, wv, h.alloc o, rfl⟩
theorem At.self (h : At w g S m) : S g := by
  obtain ⟨s, wv, h, rfl⟩ := h
  exact .inl rfl
end

theorem works_at {w : World} {g : Nat} {S : Nat → Prop} {m : Dsk} (h : At w g S m) : Calls Try.prog 52 #[.pointer (some ⟨g, 0, none⟩)] w fun e w' => e = .returned (.int .i64 (worksE m)) ∧ w = w' := by
  obtain ⟨s, wv, h, rfl⟩ := h
  exact works_any h
theorem check_at {w : World} {g : Nat} {S : Nat → Prop} {m : Dsk} (h : At w g S m) (n : Int) (x : ByteArray) : Calls Try.prog 51 #[.pointer (some ⟨g, 0, none⟩), .int .i64 n, .string x] w fun e w' => e = .returned (.int .i64 (checkE m n x.size)) ∧ w = w' := by
  obtain ⟨s, wv, h, rfl⟩ := h
  exact check_any h n x

/-! Fail -/

theorem fail_nil (w : World) : Calls Try.prog 35 #[.pointer none] w fun e w' => e = .returned (.int .i64 1) ∧ w = w' := by
  go_enter Try.func35, Try.ntmps35
  go_wp2
  go_ret
  exact ⟨rfl, rfl⟩

set_option maxHeartbeats 1000000 in
theorem fail_at {w : World} {g : Nat} {S : Nat → Prop} {m : Dsk} (h : At w g S m) :
    Calls Try.prog 35 #[.pointer (some ⟨g, 0, none⟩)] w fun e w' => e = .returned (.int .i64 0) ∧ Step w w' S fun S' => At w' g S' { m with gone := true, wait := [] } := by
  obtain ⟨s, wv, h, rfl⟩ := h
  obtain ⟨cap, hcap, c0, c1, c2, c3, cf, -, -⟩ := h.reads
  have f2 := cf 2
  have f3 := cf 3
  clear cf
  have H := Lib.hid h
  clear h
  go_enter Try.func35, Try.ntmps35
  go_wp2
  go_ret
  have h := H.out
  have h1 := (h.setGone true).setWait (.slice none 0 0) [] (World.ownsRow_nil _ _ _ _) (by simp)
  refine ⟨rfl, _, ⟨s, _, h1, rfl⟩, ((Fr.refl _ w).setCell (p := ⟨g, 3, none⟩) (.inl (foot_g _ _ _)) _).setCell (p := ⟨g, 2, none⟩) (.inl (foot_g _ _ _)) _, ?_⟩
  rintro k (rfl | rfl | hk)
  · exact .inl (foot_g _ _ _)
  · exact .inl (foot_s _ _ _)
  · simp [Value.ownBlock] at hk

/-! Pending and Alive -/

theorem pending_nil (w : World) : Calls Try.prog 31 #[.pointer none] w fun e w' => e = .returned (.int .i64 0) ∧ w = w' := by
  go_enter Try.func31, Try.ntmps31
  go_wp2
  go_ret
  exact ⟨rfl, rfl⟩

theorem pending_at {w : World} {g : Nat} {S : Nat → Prop} {m : Dsk} (h : At w g S m) : Calls Try.prog 31 #[.pointer (some ⟨g, 0, none⟩)] w fun e w' => e = .returned (.int .i64 (m.wait.length : Int)) ∧ w = w' := by
  obtain ⟨s, wv, h, rfl⟩ := h
  obtain ⟨cap, hcap, c0, c1, c2, c3, cf, -, -⟩ := h.reads
  rcases owns_form h.wait with ⟨rfl, hn⟩ | ⟨gw, cw, rfl, -, -, -, -⟩
  · rw [hn]
    go_enter Try.func31, Try.ntmps31
    go_wp2
    go_ret
    exact ⟨rfl, rfl⟩
  · go_enter Try.func31, Try.ntmps31
    go_wp2
    go_ret
    exact ⟨rfl, rfl⟩

theorem alive_nil (w : World) : Calls Try.prog 36 #[.pointer none] w fun e w' => e = .returned (.bool false) ∧ w = w' := by
  go_enter Try.func36, Try.ntmps36
  go_wp2_with (go_at_call 52; refine (works_nil _).mono ?_; rintro e w1 ⟨rfl, rfl⟩)
  go_ret
  exact ⟨rfl, rfl⟩

theorem alive_at {w : World} {g : Nat} {S : Nat → Prop} {m : Dsk} (h : At w g S m) : Calls Try.prog 36 #[.pointer (some ⟨g, 0, none⟩)] w fun e w' => e = .returned (.bool (!m.gone)) ∧ w = w' := by
  have hk := works_at h
  unfold worksE at hk
  cases hg : m.gone with
  | true =>
    rw [hg, if_pos rfl] at hk
    have HK := Lib.hid hk
    clear hk h
    go_enter Try.func36, Try.ntmps36
    go_wp2_with (go_at_call 52; refine (HK.out).mono ?_; rintro e w1 ⟨rfl, rfl⟩)
    go_ret
    exact ⟨rfl, rfl⟩
  | false =>
    rw [hg, if_neg (by decide)] at hk
    have HK := Lib.hid hk
    clear hk h
    go_enter Try.func36, Try.ntmps36
    go_wp2_with (go_at_call 52; refine (HK.out).mono ?_; rintro e w1 ⟨rfl, rfl⟩)
    go_ret
    exact ⟨rfl, rfl⟩

end Go.Proofs.Ytpmhjagmgjolmaa.Dk
