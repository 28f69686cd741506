/- slices.Clone and Copy of layer 9. -/
import Derived.Test.YtpmhjagmgjolmaaDk8
import Derived.RegionCalls
import Derived.Lib.SliceRun
import Derived.Deep.RegionHeld3
namespace Go.Proofs.Ytpmhjagmgjolmaa.Dk
open Go.RowKit

theorem owns_empty (w : World) (e : TypeId) : (w.alloc (.cells #[] e)).ownsRow 0 e 1 (.slice (some ⟨w.heap.size, 0, none⟩) 0 0) 0 [] :=
  ⟨rfl, .inr ⟨w.heap.size, 0, #[], rfl, Nat.zero_le _, heap_alloc_new w _, Nat.le_refl _, Nat.zero_le _, rfl, rfl⟩⟩

/-- What slices.Clone leaves: a row of its own. -/
def Cloned (w : World) (e : TypeId) (xs : List Value) (v : Value) (w' : World) : Prop := Fr fresh w w' ∧ w'.ownsRow 0 e 1 v xs.length xs ∧ ∀ k, v.ownBlock = some k → w.heap.size ≤ k

set_option maxRecDepth 100000 in
set_option maxHeartbeats 1000000 in
theorem clone_strs (w : World) (a : Addr) (cap : Nat) (xs : List ByteArray) (h2 : xs.length ≤ 1000000) (hx : ∀ (j : Nat) x, xs[j]? = some x → w.cell? (a.add j) = some (Value.string x)) :
    Calls Try.prog 49 #[.slice (some a) xs.length cap] w fun e w' => ∃ g c, e = .returned (.slice (some ⟨g, 0, none⟩) xs.length c) ∧ Cloned w 9 (xs.map Value.string) (.slice (some ⟨g, 0, none⟩) xs.length c) w' := by
  obtain ⟨i0, hi, hz0, hz1, hz2⟩ := info_parts strInfo
  have hown := Lib.hid (owns_empty w 9)
  have hnil := Lib.run_eql_slice_nil (P := Try.prog) w 48 9 (some a) xs.length cap 0 0 Try.underlying48
  have hnews : ∀ j u, (xs.map Value.string)[j]? = some u → (w.alloc (.cells #[] 9)).cell? (a.add j) = some u := by
    intro j u hj
    rw [List.getElem?_map] at hj
    obtain ⟨x, hxj, rfl⟩ := Option.map_eq_some_iff.1 hj
    exact Fr.cell ((Fr.refl fresh w).alloc _) (hx j x hxj) (fun h => h)
  have HN := Lib.hid hnews
  clear hnews hx
  go_enter Try.func49, Try.ntmps49
  go_wp2_with (at_builtin; go_loud (refine wpList_append_own_at _ rfl _ _ 48 rfl 0 9 i0 (.string ByteArray.empty) 1 16 Try.underlying48 hi hz0 hz1 hz2 rfl (by decide) (.slice (some ⟨w.heap.size, 0, none⟩) 0 0) 0 [] rfl hown.out a xs.length cap (xs.map Value.string) rfl (by simp) HN.out ?c2 ?c3 ?c4 (Nat.zero_le _) ?_))
  case c2 => intro u hu; obtain ⟨x, _, rfl⟩ := List.mem_map.1 hu; rfl
  case c3 => unfold maxLen; omega
  case c4 => omega
  intro v' w1 hown' hgrow hnil' hat
  have hfr : Fr fresh w w1 := ((Fr.refl _ w).alloc _).grown hgrow (fun k hk => .inr (by simp [Value.ownBlock] at hk; omega))
  have hnew : ∀ k, v'.ownBlock = some k → w.heap.size ≤ k := by
    intro k hk
    rcases hat with e | e
    · rw [hk] at e; simp [Value.ownBlock] at e; omega
    · rw [hk] at e; simp at e; omega
  obtain ⟨gv, cv, rfl⟩ : ∃ gv cv, v' = .slice (some ⟨gv, 0, none⟩) xs.length cv := by
    rcases owns_form hown' with ⟨h0, _⟩ | ⟨gv, cv, h0, _⟩
    · exact absurd h0 (by simpa using hnil')
    · exact ⟨gv, cv, h0⟩
  go_wp2
  go_ret
  exact ⟨gv, cv, rfl, hfr, by simpa using hown', hnew⟩

set_option maxRecDepth 100000 in
set_option maxHeartbeats 1000000 in
theorem clone_evs (w : World) (a : Addr) (cap : Nat) (xs : List Ev) (h2 : xs.length ≤ 1000000) (hx : ∀ (j : Nat) x, xs[j]? = some x → w.cell? (a.add j) = some (ev x)) :
    Calls Try.prog 50 #[.slice (some a) xs.length cap] w fun e w' => ∃ g c, e = .returned (.slice (some ⟨g, 0, none⟩) xs.length c) ∧ Cloned w 76 (xs.map ev) (.slice (some ⟨g, 0, none⟩) xs.length c) w' := by
  obtain ⟨i0, hi, hz0, hz1, hz2⟩ := info_parts evInfo
  have hown := Lib.hid (owns_empty w 76)
  have hnil := Lib.run_eql_slice_nil (P := Try.prog) w 70 76 (some a) xs.length cap 0 0 Try.underlying70
  have hnews : ∀ j u, (xs.map ev)[j]? = some u → (w.alloc (.cells #[] 76)).cell? (a.add j) = some u := by
    intro j u hj
    rw [List.getElem?_map] at hj
    obtain ⟨x, hxj, rfl⟩ := Option.map_eq_some_iff.1 hj
    exact Fr.cell ((Fr.refl fresh w).alloc _) (hx j x hxj) (fun h => h)
  have HN := Lib.hid hnews
  clear hnews hx
  go_enter Try.func50, Try.ntmps50
  go_wp2_with (at_builtin; go_loud (refine wpList_append_own_at _ rfl _ _ 70 rfl 0 76 i0 .nilIface 1 16 Try.underlying70 hi hz0 hz1 hz2 rfl (by decide) (.slice (some ⟨w.heap.size, 0, none⟩) 0 0) 0 [] rfl hown.out a xs.length cap (xs.map ev) rfl (by simp) HN.out ?c2 ?c3 ?c4 (Nat.zero_le _) ?_))
  case c2 => intro u hu; obtain ⟨x, _, rfl⟩ := List.mem_map.1 hu; rfl
  case c3 => unfold maxLen; omega
  case c4 => omega
  intro v' w1 hown' hgrow hnil' hat
  have hfr : Fr fresh w w1 := ((Fr.refl _ w).alloc _).grown hgrow (fun k hk => .inr (by simp [Value.ownBlock] at hk; omega))
  have hnew : ∀ k, v'.ownBlock = some k → w.heap.size ≤ k := by
    intro k hk
    rcases hat with e | e
    · rw [hk] at e; simp [Value.ownBlock] at e; omega
    · rw [hk] at e; simp at e; omega
  obtain ⟨gv, cv, rfl⟩ : ∃ gv cv, v' = .slice (some ⟨gv, 0, none⟩) xs.length cv := by
    rcases owns_form hown' with ⟨h0, _⟩ | ⟨gv, cv, h0, _⟩
    · exact absurd h0 (by simpa using hnil')
    · exact ⟨gv, cv, h0⟩
  go_wp2
  go_ret
  exact ⟨gv, cv, rfl, hfr, by simpa using hown', hnew⟩

set_option maxRecDepth 100000 in
set_option maxHeartbeats 1000000 in
theorem clone_evs_nil (w : World) : Calls Try.prog 50 #[.slice none 0 0] w fun e w' => e = .returned (.slice none 0 0) ∧ w = w' := by
  have hnil := Lib.run_eql_slice_nil (P := Try.prog) w 70 76 none 0 0 0 0 Try.underlying70
  go_enter Try.func50, Try.ntmps50
  go_wp2
  go_ret
  exact ⟨rfl, rfl⟩

theorem Cloned.nil (w : World) (e : TypeId) : Cloned w e [] (.slice none 0 0) w := ⟨Fr.refl _ _, World.ownsRow_nil _ _ _ _, fun k hk => by simp [Value.ownBlock] at hk⟩

theorem IsDisk.wait_nil {w : World} {g s : Nat} {m : Dsk} (w2 : World) {v : Value} (hv : v = .slice none 0 0) (h : IsDisk w g s v m) : w2.ownsRow 0 76 1 v m.wait.length (m.wait.map ev) := by
  subst hv
  have := h.wait
  rcases owns_form this with ⟨_, hn⟩ | ⟨_, _, e, _⟩
  · have h0 : m.wait = [] := List.eq_nil_of_length_eq_zero hn
    rw [h0]
    exact World.ownsRow_nil _ _ _ _
  · simp at e

/-- A copy, laid. -/
theorem copy_made {w w1 w2 : World} {m : Dsk} {g1 c1 : Nat} {v : Value} (hok : ∀ x ∈ m.wait, x.1 < m.sec.length) (hpos : 0 < m.sec.length) (hmost : m.sec.length ≤ 4096) (hfit : m.size ≤ 4096)
    (hf1 : Fr fresh w w1) (h1 : w1.ownsRow 0 9 1 (.slice (some ⟨g1, 0, none⟩) m.sec.length c1) m.sec.length (m.sec.map .string)) (hn1 : w.heap.size ≤ g1)
    (hf2 : Fr fresh w1 w2) (h2 : w2.ownsRow 0 76 1 v m.wait.length (m.wait.map ev)) (hn2 : ∀ k, v.ownBlock = some k → w.heap.size ≤ k) :
    Made w (w2.alloc (.cells #[.slice (some ⟨g1, 0, none⟩) m.sec.length c1, .int .i64 (m.size : Int), v, .bool m.gone] 72)) (D w2.heap.size m (w2.alloc (.cells #[.slice (some ⟨g1, 0, none⟩) m.sec.length c1, .int .i64 (m.size : Int), v, .bool m.gone] 72))) := by
  have hr1 := h1.lt g1 rfl
  refine ⟨_, ⟨g1, v, ⟨⟨c1, heap_alloc_new w2 _, ?_⟩, ?_, hok, hpos, hmost, hfit⟩, rfl⟩, (hf1.trans hf2).alloc _, ?_⟩
  · exact owns_move h1 (fun k hk => by
      obtain rfl : g1 = k := by simpa [Value.ownBlock] using hk
      exact (Below.heap_alloc w2 _ g1 (Nat.lt_of_lt_of_le hr1.2 hf2.size)).trans (hf2.same g1 hr1.2 (fun h => h)))
  · exact owns_move h2 (fun k hk => Below.heap_alloc w2 _ k (h2.lt k hk).2)
  · rintro k (rfl | rfl | hk)
    · exact (hf1.trans hf2).size
    · exact hn1
    · exact hn2 k hk

set_option maxRecDepth 100000 in
set_option maxHeartbeats 4000000 in
theorem copy_yes {w : World} {g s : Nat} {wv : Value} {m : Dsk} (h : IsDisk w g s wv m) (hmany : m.wait.length ≤ 1000000) :
    Calls Try.prog 29 #[.pointer (some ⟨g, 0, none⟩)] w fun e w' => ∃ g', e = .returned (.pointer (some ⟨g', 0, none⟩)) ∧ Made w w' (D g' m w') := by
  have H := Lib.hid h
  obtain ⟨cap, hcap, c0, c1, c2, c3, -, cs, -⟩ := h.reads
  have d0 : ∀ w', Fr fresh w w' → w'.cell? ⟨g, 0, none⟩ = some (.slice (some ⟨s, 0, none⟩) m.sec.length cap) := fun w' hf => hf.cell c0 (fun h => h)
  have d1 : ∀ w', Fr fresh w w' → w'.cell? ⟨g, 1, none⟩ = some (.int .i64 (m.size : Int)) := fun w' hf => hf.cell c1 (fun h => h)
  have d3 : ∀ w', Fr fresh w w' → w'.cell? ⟨g, 3, none⟩ = some (.bool m.gone) := fun w' hf => hf.cell c3 (fun h => h)
  have K1 := Lib.hid (fun w' (hf : Fr fresh w w') => (clone_strs w' ⟨s, 0, none⟩ cap m.sec (by have := h.most; omega) (fun j x hj => by
    have hadd : (⟨s, 0, none⟩ : Addr).add j = ⟨s, j, none⟩ := by unfold Addr.add; split <;> simp_all
    rw [hadd]
    exact hf.cell (cs j x hj) (fun h => h))).mono (fun e w'' ⟨g1, c1, he, hfr, ho, hn⟩ => (⟨g1, c1, he, hf.trans hfr, by simpa using ho, Nat.le_trans hf.size (hn g1 rfl)⟩ : ∃ g1 c1, e = Ending.returned (.slice (some ⟨g1, 0, none⟩) m.sec.length c1) ∧ Fr fresh w w'' ∧ w''.ownsRow 0 9 1 (.slice (some ⟨g1, 0, none⟩) m.sec.length c1) m.sec.length (m.sec.map .string) ∧ w.heap.size ≤ g1)))
  rcases owns_form h.wait with ⟨rfl, hn0⟩ | ⟨gw, cw, rfl, -, -, -, -⟩
  · have d2 : ∀ w', Fr fresh w w' → w'.cell? ⟨g, 2, none⟩ = some (.slice none 0 0) := fun w' hf => hf.cell c2 (fun h => h)
    have K2 := Lib.hid (fun w' (hf : Fr fresh w w') => (clone_evs_nil w').mono (fun e w'' ⟨he, hw⟩ => (⟨he, hw ▸ hf, hw ▸ Fr.refl _ _⟩ : e = Ending.returned (.slice none 0 0) ∧ Fr fresh w w'' ∧ Fr fresh w' w'')))
    clear c0 c1 c2 c3 cs h
    go_enter Try.func29, Try.ntmps29
    go_wp2_with fail
    go_region_held3 (fun w' => Fr fresh w w') (first | assumption | exact (Fr.refl fresh w).drew | exact Fr.alloc (by assumption) _)
      (first | (go_at_call 49; refine (K1.out _ (by assumption)).mono ?_; rintro e w1 ⟨g1, c1, rfl, hf1, ho1, hn1⟩) | (go_at_call 50; refine (K2.out _ (by assumption)).mono ?_; rintro e w2 ⟨rfl, hf2, hf12⟩))
    all_goals
      go_wp2
      go_ret
      exact ⟨w2.heap.size, rfl, copy_made H.out.ok H.out.pos H.out.most H.out.fits hf1 ho1 hn1 hf12 (IsDisk.wait_nil _ rfl H.out) (fun k hk => by simp [Value.ownBlock] at hk)⟩
  · have d2 : ∀ w', Fr fresh w w' → w'.cell? ⟨g, 2, none⟩ = some (.slice (some ⟨gw, 0, none⟩) m.wait.length cw) := fun w' hf => hf.cell c2 (fun h => h)
    have hev := h.wait
    have K2 := Lib.hid (fun w' (hf : Fr fresh w w') => (clone_evs w' ⟨gw, 0, none⟩ cw m.wait hmany (fun j x hj => hf.cell (hev.cells rfl j (ev x) (by rw [List.getElem?_map, hj]; rfl)) (fun h => h))).mono
      (fun e w'' ⟨g2, c2, he, hfr, ho, hn⟩ => (⟨g2, c2, he, hf.trans hfr, hfr, by simpa using ho, Nat.le_trans hf.size (hn g2 rfl)⟩ : ∃ g2 c2, e = Ending.returned (.slice (some ⟨g2, 0, none⟩) m.wait.length c2) ∧ Fr fresh w w'' ∧ Fr fresh w' w'' ∧ w''.ownsRow 0 76 1 (.slice (some ⟨g2, 0, none⟩) m.wait.length c2) m.wait.length (m.wait.map ev) ∧ w.heap.size ≤ g2)))
    clear c0 c1 c2 c3 cs hev h
    go_enter Try.func29, Try.ntmps29
    go_wp2_with fail
    go_region_held3 (fun w' => Fr fresh w w') (first | assumption | exact (Fr.refl fresh w).drew | exact Fr.alloc (by assumption) _)
      (first | (go_at_call 49; refine (K1.out _ (by assumption)).mono ?_; rintro e w1 ⟨g1, c1, rfl, hf1, ho1, hn1⟩) | (go_at_call 50; refine (K2.out _ (by assumption)).mono ?_; rintro e w2 ⟨g2, c2, rfl, hf2, hf12, ho2, hn2⟩))
    all_goals
      go_wp2
      go_ret
      exact ⟨w2.heap.size, rfl, copy_made H.out.ok H.out.pos H.out.most H.out.fits hf1 ho1 hn1 hf12 ho2 (fun k hk => (show g2 = k by simpa [Value.ownBlock] using hk) ▸ hn2)⟩

theorem copy_at {w : World} {g : Nat} {S : Nat → Prop} {m : Dsk} (hmany : m.wait.length ≤ 1000000) (h : D g m w S) :
    Calls Try.prog 29 #[.pointer (some ⟨g, 0, none⟩)] w fun e w' => ∃ g', e = .returned (.pointer (some ⟨g', 0, none⟩)) ∧ Made w w' (D g' m w') := by
  obtain ⟨s, wv, h, rfl⟩ := h
  exact copy_yes h hmany

end Go.Proofs.Ytpmhjagmgjolmaa.Dk
