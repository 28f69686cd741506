/- The walks of Write and of an event's own do, of layer 9. -/
import Derived.Test.YtpmhjagmgjolmaaDk3
namespace Go.Proofs.Ytpmhjagmgjolmaa.Dk
open Go.RowKit

/-! Write -/

theorem write_nil (n : Int) (x : ByteArray) (w : World) : Calls Try.prog 30 #[.pointer none, .int .i64 n, .string x] w fun e w' => e = .returned (.int .i64 1) ∧ w = w' := by
  have HK := Lib.hid (check_nil n x w)
  go_enter Try.func30, Try.ntmps30
  go_wp2_with (go_at_call 51; refine (HK.out).mono ?_; rintro e w1 ⟨rfl, rfl⟩)
  go_ret
  exact ⟨rfl, rfl⟩

set_option maxHeartbeats 1000000 in
theorem write_not {w : World} {g : Nat} {n : Int} {x : ByteArray} (z : Int) (hz : z ≠ 0)
    (h : Calls Try.prog 51 #[.pointer (some ⟨g, 0, none⟩), .int .i64 n, .string x] w fun e w' => e = .returned (.int .i64 z) ∧ w = w') :
    Calls Try.prog 30 #[.pointer (some ⟨g, 0, none⟩), .int .i64 n, .string x] w fun e w' => e = .returned (.int .i64 z) ∧ w = w' := by
  have HK := Lib.hid h
  clear h
  go_enter Try.func30, Try.ntmps30
  go_wp2_with (go_at_call 51; refine (HK.out).mono ?_; rintro e w1 ⟨rfl, rfl⟩)
  go_ret
  exact ⟨rfl, rfl⟩

theorem evInfo : (Try.prog.info? 76).map (fun i => (i.zero, i.size, i.bytes)) = some (some .nilIface, 1, 16) := by kernel_rfl

set_option maxHeartbeats 2000000 in
theorem write_yes {w : World} {g s : Nat} {wv : Value} {m : Dsk} (h : IsDisk w g s wv m) (n : Nat) (x : ByteArray) (hgone : m.gone = false) (hn : n < m.sec.length) (hx : x.size ≤ m.size) (hmany : m.wait.length ≤ 1000000) :
    Calls Try.prog 30 #[.pointer (some ⟨g, 0, none⟩), .int .i64 (n : Int), .string x] w fun e w' => e = .returned (.int .i64 0) ∧
      Step w w' (foot g s wv) fun S' => At w' g S' { m with wait := m.wait ++ [(n, x)] } := by
  have hk := check_any h n x
  have he : checkE m n x.size = 0 := by
    unfold checkE
    rw [if_neg (by rw [hgone]; decide), if_neg (by omega), if_neg (by omega)]
  rw [he] at hk
  have HK := Lib.hid hk
  clear hk he
  obtain ⟨cap, hcap, c0, c1, c2, c3, cf, -, -⟩ := h.reads
  have f2 := cf 2
  clear cf
  obtain ⟨i0, hi, hz0, hz1, hz2⟩ := info_parts evInfo
  have H := Lib.hid h
  clear h
  go_enter Try.func30, Try.ntmps30
  have hsp : w.heap.size ≤ (w.alloc (.cells #[ev (n, x)] 76)).heap.size := by simp
  have hown := Lib.hid ((H.out.wait).alloc (.cells #[ev (n, x)] 76))
  go_wp2_with (first | (go_at_call 51; refine (HK.out).mono ?_; rintro e w1 ⟨rfl, rfl⟩) |
    (at_builtin; go_loud (refine wpList_append_own_at _ rfl _ _ 70 rfl 0 76 i0 .nilIface 1 16 Try.underlying70 hi hz0 hz1 hz2 rfl (by decide) wv m.wait.length (m.wait.map ev) rfl hown.out ⟨w.heap.size, 0, none⟩ 1 1 [ev (n, x)] rfl rfl ?c1 ?c2 ?c3 ?c4 (Nat.zero_le _) ?_)))
  case c1 =>
    intro j u hj
    cases j with
    | zero =>
      simp at hj
      subst hj
      have := heap_alloc_new w (.cells #[ev (n, x)] 76)
      exact (cell_of_row _ w.heap.size 0 _ _ _ this)
    | succ j => simp at hj
  case c2 => intro u hu; simp at hu; subst hu; rfl
  case c3 => unfold maxLen; omega
  case c4 => omega
  intro v' w1 hown' hgrow hnil hat
  have hg := H.out.gw
  have hs := H.out.sw
  have hlt := H.out.lt
  have hfr : Fr (foot g s wv) w w1 := ((Fr.refl _ w).alloc _).grown hgrow (fun k hk => .inl (.inr (.inr hk)))
  have bg : w1.heap[g]? = w.heap[g]? := (hgrow.block g (by have := hlt g (foot_g _ _ _); simp; omega) (fun e => hg e.symm)).trans (Below.heap_alloc w _ g (hlt g (foot_g _ _ _)))
  have bs : w1.heap[s]? = w.heap[s]? := (hgrow.block s (by have := hlt s (foot_s _ _ _); simp; omega) (fun e => hs e.symm)).trans (Below.heap_alloc w _ s (hlt s (foot_s _ _ _)))
  have hcell : w1.cell? ⟨g, 2, none⟩ = some wv := (World.cell?_of_block bg).trans c2
  have hfro : w1.frozen? ⟨g, 2, none⟩ = false := (World.frozen?_of_block bg).trans f2
  have hfin := Lib.hid (H.out.setWait' bg bs v' (m.wait ++ [(n, x)]) (by simpa using hown') (by
    intro y hy
    rcases List.mem_append.1 hy with hy | hy
    · exact H.out.ok y hy
    · simp at hy; subst hy; exact hn))
  obtain ⟨gv, cv, rfl⟩ : ∃ gv cv, v' = .slice (some ⟨gv, 0, none⟩) (m.wait.length + 1) cv := by
    rcases owns_form hown' with ⟨_, h0⟩ | ⟨gv, cv, h0, _⟩
    · omega
    · exact ⟨gv, cv, h0⟩
  go_wp2
  go_ret
  refine ⟨rfl, _, ⟨s, _, hfin.out, rfl⟩, hfr.setCell (p := ⟨g, 2, none⟩) (.inl (foot_g _ _ _)) _, ?_⟩
  rintro k (rfl | rfl | hk)
  · exact .inl (foot_g _ _ _)
  · exact .inl (foot_s _ _ _)
  · rcases hat with e | e
    · exact .inl (.inr (.inr (e.symm.trans hk)))
    · have : k = (w.alloc (.cells #[ev (n, x)] 76)).heap.size := by
        have h := hk.symm.trans e
        simpa using h
      exact .inr (by rw [this]; exact hsp)

/-- Write, whatever it is given. -/
def wrote (m : Dsk) (n : Int) (x : ByteArray) : Dsk := if checkE m n x.size = 0 then { m with wait := m.wait ++ [(n.toNat, x)] } else m

theorem checkE_zero {m : Dsk} {n : Int} {l : Nat} (h : checkE m n l = 0) : m.gone = false ∧ 0 ≤ n ∧ n < (m.sec.length : Int) ∧ l ≤ m.size := by
  unfold checkE at h
  cases hg : m.gone with
  | true => rw [hg, if_pos rfl] at h; simp at h
  | false =>
    rw [hg, if_neg (by decide)] at h
    split at h
    · simp at h
    · split at h
      · simp at h
      · exact ⟨rfl, by omega, by omega, by omega⟩

theorem write_at {w : World} {g : Nat} {S : Nat → Prop} {m : Dsk} (h : At w g S m) (n : Int) (x : ByteArray) (hmany : m.wait.length ≤ 1000000) :
    Calls Try.prog 30 #[.pointer (some ⟨g, 0, none⟩), .int .i64 n, .string x] w fun e w' => e = .returned (.int .i64 (checkE m n x.size)) ∧ Step w w' S fun S' => At w' g S' (wrote m n x) := by
  have hk := check_at h n x
  unfold wrote
  by_cases he : checkE m n x.size = 0
  · obtain ⟨h1, h2, h3, h4⟩ := checkE_zero he
    rw [if_pos he, he]
    obtain ⟨s, wv, h, rfl⟩ := h
    have := write_yes h n.toNat x h1 (by omega) h4 hmany
    rwa [Int.toNat_of_nonneg h2] at this
  · rw [if_neg he]
    refine (write_not _ he hk).mono ?_
    rintro e w' ⟨rfl, rfl⟩
    exact ⟨rfl, S, h, Fr.refl _ _, fun k hk => .inl hk⟩

end Go.Proofs.Ytpmhjagmgjolmaa.Dk
