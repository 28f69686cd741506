/- The walks of the document's disk: check, New, Fail, Replace, Write. -/
import Derived.Test.YtpmhjagmgjolmaaDkR0
namespace Go.Proofs.Ytpmhjagmgjolmaa.Dk
open Go.RowKit

set_option maxRecDepth 100000 in
set_option maxHeartbeats 1000000 in
theorem rcheck_gone (n : Int) (x : ByteArray) (w : World) (g : Nat) (h : w.cell? ⟨g, 3, none⟩ = some (.bool true)) :
    Calls Try.prog 64 #[.pointer (some ⟨g, 0, none⟩), .int .i64 n, .string x] w fun e w' => e = .returned (.int .i64 8) ∧ w = w' := by
  go_enter Try.func64, Try.ntmps64
  go_wp2
  go_ret
  exact ⟨rfl, rfl⟩

set_option maxRecDepth 100000 in
set_option maxHeartbeats 1000000 in
theorem rcheck_low (n : Int) (x : ByteArray) (w : World) (g : Nat) (h : w.cell? ⟨g, 3, none⟩ = some (.bool false)) (hn : n < 0) :
    Calls Try.prog 64 #[.pointer (some ⟨g, 0, none⟩), .int .i64 n, .string x] w fun e w' => e = .returned (.int .i64 1) ∧ w = w' := by
  go_enter Try.func64, Try.ntmps64
  go_wp2
  go_ret
  exact ⟨rfl, rfl⟩

set_option maxRecDepth 100000 in
set_option maxHeartbeats 1000000 in
theorem rcheck_high (n : Int) (x : ByteArray) (w : World) (g s k cap : Nat) (h : w.cell? ⟨g, 3, none⟩ = some (.bool false)) (h0 : w.cell? ⟨g, 0, none⟩ = some (.slice (some ⟨s, 0, none⟩) k cap)) (hn0 : 0 ≤ n) (hn : (k : Int) ≤ n) :
    Calls Try.prog 64 #[.pointer (some ⟨g, 0, none⟩), .int .i64 n, .string x] w fun e w' => e = .returned (.int .i64 1) ∧ w = w' := by
  go_enter Try.func64, Try.ntmps64
  go_wp2
  go_ret
  exact ⟨rfl, rfl⟩

set_option maxRecDepth 100000 in
set_option maxHeartbeats 1000000 in
theorem rcheck_big (n : Int) (x : ByteArray) (w : World) (g s k cap z : Nat) (h : w.cell? ⟨g, 3, none⟩ = some (.bool false)) (h0 : w.cell? ⟨g, 0, none⟩ = some (.slice (some ⟨s, 0, none⟩) k cap)) (h1 : w.cell? ⟨g, 1, none⟩ = some (.int .i64 (z : Int))) (hn0 : 0 ≤ n) (hn : n < (k : Int)) (hx : (z : Int) < (x.size : Int)) :
    Calls Try.prog 64 #[.pointer (some ⟨g, 0, none⟩), .int .i64 n, .string x] w fun e w' => e = .returned (.int .i64 12) ∧ w = w' := by
  go_enter Try.func64, Try.ntmps64
  go_wp2
  go_ret
  exact ⟨rfl, rfl⟩

set_option maxRecDepth 100000 in
set_option maxHeartbeats 1000000 in
theorem rcheck_fine (n : Int) (x : ByteArray) (w : World) (g s k cap z : Nat) (h : w.cell? ⟨g, 3, none⟩ = some (.bool false)) (h0 : w.cell? ⟨g, 0, none⟩ = some (.slice (some ⟨s, 0, none⟩) k cap)) (h1 : w.cell? ⟨g, 1, none⟩ = some (.int .i64 (z : Int))) (hn0 : 0 ≤ n) (hn : n < (k : Int)) (hx : (x.size : Int) ≤ (z : Int)) :
    Calls Try.prog 64 #[.pointer (some ⟨g, 0, none⟩), .int .i64 n, .string x] w fun e w' => e = .returned (.int .i64 0) ∧ w = w' := by
  go_enter Try.func64, Try.ntmps64
  go_wp2
  go_ret
  exact ⟨rfl, rfl⟩

theorem rcheck_any {w : World} {g s : Nat} {wv : Value} {m : Dsk} (h : IsRef w g s wv m) (n : Int) (x : ByteArray) :
    Calls Try.prog 64 #[.pointer (some ⟨g, 0, none⟩), .int .i64 n, .string x] w fun e w' => e = .returned (.int .i64 (checkE m n x.size)) ∧ w = w' := by
  obtain ⟨cap, _, h0, h1, _, h3, _⟩ := h.reads
  unfold checkE
  cases hg : m.gone with
  | true => rw [hg] at h3; exact rcheck_gone n x w g h3
  | false =>
    rw [hg] at h3
    rw [if_neg (by decide)]
    by_cases hn : n < 0
    · rw [if_pos (.inl hn)]; exact rcheck_low n x w g h3 hn
    by_cases hn2 : (m.sec.length : Int) ≤ n
    · rw [if_pos (.inr hn2)]; exact rcheck_high n x w g s _ cap h3 h0 (by omega) hn2
    rw [if_neg (by omega)]
    by_cases hx : m.size < x.size
    · rw [if_pos hx]; exact rcheck_big n x w g s _ cap m.size h3 h0 h1 (by omega) (by omega) (by omega)
    · rw [if_neg hx]; exact rcheck_fine n x w g s _ cap m.size h3 h0 h1 (by omega) (by omega) (by omega)

set_option maxRecDepth 100000 in
set_option maxHeartbeats 1000000 in
theorem rfail_at {w : World} {g : Nat} {m : Dsk} (S : Nat → Prop) (h : R g m w S) :
    Calls Try.prog 61 #[.pointer (some ⟨g, 0, none⟩)] w fun e w' => e = .returned (.int .i64 0) ∧ Step w w' S (R g { m with gone := true, wait := [] } w') := by
  obtain ⟨s, wv, h, rfl⟩ := h
  obtain ⟨cap, hcap, c0, c1, c2, c3, cf, -, -⟩ := h.reads
  have f2 := cf 2
  have f3 := cf 3
  clear cf
  have H := Lib.hid h
  clear h
  go_enter Try.func61, Try.ntmps61
  go_wp2
  go_ret
  have h := H.out
  have h1 := (h.setGone true).setWait (.slice none 0 0) [] (World.ownsRow_nil _ _ _ _) (by simp)
  refine ⟨rfl, _, ⟨s, _, h1, rfl⟩, ((Fr.refl _ w).setCell (p := ⟨g, 3, none⟩) (.inl (foot_g _ _ _)) _).setCell (p := ⟨g, 2, none⟩) (.inl (foot_g _ _ _)) _, ?_⟩
  rintro k (rfl | rfl | hk)
  · exact .inl (foot_g _ _ _)
  · exact .inl (foot_s _ _ _)
  · simp [Value.ownBlock] at hk

set_option maxRecDepth 100000 in
set_option maxHeartbeats 1000000 in
theorem rnew_no (n z : Int) (h : ¬ newOk n z) (w : World) : Calls Try.prog 40 #[.int .i64 n, .int .i64 z] w fun e w' => e = .returned (.tuple #[.pointer none, .int .i64 1]) ∧ w = w' := by
  unfold newOk at h
  by_cases h1 : n < 1
  · go_enter Try.func40, Try.ntmps40
    go_wp2
    go_ret2
    exact ⟨rfl, rfl⟩
  by_cases h2 : 4096 < n
  · go_enter Try.func40, Try.ntmps40
    go_wp2
    go_ret2
    exact ⟨rfl, rfl⟩
  by_cases h3 : z < 1
  · go_enter Try.func40, Try.ntmps40
    go_wp2
    go_ret2
    exact ⟨rfl, rfl⟩
  have h4 : 4096 < z := by omega
  clear h
  go_enter Try.func40, Try.ntmps40
  go_wp2
  go_ret2
  exact ⟨rfl, rfl⟩

theorem IsRef.made (w : World) (n z : Nat) (h1 : 1 ≤ n) (h2 : n ≤ 4096) (h4 : z ≤ 4096) :
    IsRef ((w.alloc (.cells (madeCells #[.string ByteArray.empty] n) 9)).alloc (.cells #[.slice (some ⟨w.heap.size, 0, none⟩) n n, .int .i64 (z : Int), .slice none 0 0, .bool false] 51)) (w.heap.size + 1) w.heap.size (.slice none 0 0) (blank n z) := by
  refine ⟨⟨n, ?_, ?_⟩, World.ownsRow_nil _ _ _ _, by simp [blank], by simp [blank]; omega, by simp [blank]; omega, by simp [blank]; omega⟩
  · have := heap_alloc2_new w (.cells (madeCells #[.string ByteArray.empty] n) 9) (.cells #[.slice (some ⟨w.heap.size, 0, none⟩) n n, .int .i64 (z : Int), .slice none 0 0, .bool false] 51)
    simpa [blank] using this
  · have := World.ownsRow_lit (e := 9) (base := 0) (size := 1) w (madeCells #[.string ByteArray.empty] n) n (Nat.zero_le _) (by unfold maxLen; omega) (by rw [size_madeCells]; omega)
    rw [toList_madeCells_one] at this
    have h := this.alloc (.cells #[.slice (some ⟨w.heap.size, 0, none⟩) n n, .int .i64 (z : Int), .slice none 0 0, .bool false] 51)
    simpa [blank] using h

set_option maxRecDepth 100000 in
set_option maxHeartbeats 1000000 in
theorem rnew_made (n z : Nat) (h1 : 1 ≤ n) (h2 : n ≤ 4096) (h3 : 1 ≤ z) (h4 : z ≤ 4096) (w : World) :
    Calls Try.prog 40 #[.int .i64 (n : Int), .int .i64 (z : Int)] w fun e w' => e = .returned (.tuple #[.pointer (some ⟨w.heap.size + 1, 0, none⟩), .int .i64 0]) ∧ Made w w' (R (w.heap.size + 1) (blank n z) w') := by
  have hmk := run_make_row' (P := Try.prog) 48 9 (.string ByteArray.empty) 16 Try.underlying48 strInfo rfl .i64 .i64 n (by omega) (by omega)
  have g1 : ¬ (n : Int) < 1 := by omega
  have g2 : ¬ 4096 < (n : Int) := by omega
  have g3 : ¬ (z : Int) < 1 := by omega
  have g4 : ¬ 4096 < (z : Int) := by omega
  go_enter Try.func40, Try.ntmps40
  go_wp2
  go_ret2
  refine ⟨rfl, _, ⟨_, _, IsRef.made w n z h1 h2 h4, rfl⟩, ((Fr.refl _ _).alloc _).alloc _, ?_⟩
  rintro k (rfl | rfl | hk)
  · omega
  · omega
  · simp [Value.ownBlock] at hk

set_option maxRecDepth 100000 in
set_option maxHeartbeats 1000000 in
theorem rwrite_not {w : World} {g : Nat} {n : Int} {x : ByteArray} (z : Int) (hz : z ≠ 0)
    (h : Calls Try.prog 64 #[.pointer (some ⟨g, 0, none⟩), .int .i64 n, .string x] w fun e w' => e = .returned (.int .i64 z) ∧ w = w') :
    Calls Try.prog 57 #[.pointer (some ⟨g, 0, none⟩), .int .i64 n, .string x] w fun e w' => e = .returned (.int .i64 z) ∧ w = w' := by
  have HK := Lib.hid h
  clear h
  go_enter Try.func57, Try.ntmps57
  go_wp2_with (go_at_call 64; refine (HK.out).mono ?_; rintro e w1 ⟨rfl, rfl⟩)
  go_ret
  exact ⟨rfl, rfl⟩

theorem wrInfo : (Try.prog.info? 87).map (fun i => (i.zero, i.size, i.bytes)) = some (some (.agg #[.int .i64 0, .string ByteArray.empty]), 2, 24) := by kernel_rfl

set_option maxRecDepth 100000 in
set_option maxHeartbeats 2000000 in
theorem rwrite_yes {w : World} {g s : Nat} {wv : Value} {m : Dsk} (h : IsRef w g s wv m) (n : Nat) (x : ByteArray) (hgone : m.gone = false) (hn : n < m.sec.length) (hx : x.size ≤ m.size) (hmany : m.wait.length ≤ 1000000) :
    Calls Try.prog 57 #[.pointer (some ⟨g, 0, none⟩), .int .i64 (n : Int), .string x] w fun e w' => e = .returned (.int .i64 0) ∧
      Step w w' (foot g s wv) (R g { m with wait := m.wait ++ [(n, x)] } w') := by
  have hk := rcheck_any h n x
  have he : checkE m n x.size = 0 := by
    unfold checkE
    rw [if_neg (by rw [hgone]; decide), if_neg (by omega), if_neg (by omega)]
  rw [he] at hk
  have HK := Lib.hid hk
  clear hk he
  obtain ⟨cap, hcap, c0, c1, c2, c3, cf, -, -⟩ := h.reads
  have f2 := cf 2
  clear cf
  obtain ⟨i0, hi, hz0, hz1, hz2⟩ := info_parts wrInfo
  have H := Lib.hid h
  clear h
  go_enter Try.func57, Try.ntmps57
  have hsp : w.heap.size ≤ (w.alloc (.cells #[.int .i64 (n : Int), .string x] 87)).heap.size := by simp
  have hown := Lib.hid ((H.out.wait).alloc (.cells #[.int .i64 (n : Int), .string x] 87))
  go_wp2_with (first | (go_at_call 64; refine (HK.out).mono ?_; rintro e w1 ⟨rfl, rfl⟩) |
    (at_builtin; go_loud (refine wpList_append_own_at _ rfl _ _ 49 rfl 0 87 i0 (.agg #[.int .i64 0, .string ByteArray.empty]) 2 24 Try.underlying49 hi hz0 hz1 hz2 rfl (by decide) wv m.wait.length (m.wait.flatMap wcells) rfl hown.out ⟨w.heap.size, 0, none⟩ 1 1 [.int .i64 (n : Int), .string x] rfl rfl ?c1 ?c2 ?c3 ?c4 (Nat.zero_le _) ?_)))
  case c1 =>
    intro j u hj
    have hnew := heap_alloc_new w (.cells #[.int .i64 (n : Int), .string x] 87)
    match j, hj with
    | 0, hj =>
      simp at hj
      subst hj
      exact (cell_of_row _ w.heap.size 0 _ _ _ hnew)
    | 1, hj =>
      simp at hj
      subst hj
      exact (cell_of_row _ w.heap.size 1 _ _ _ hnew)
    | j + 2, hj => simp at hj
  case c2 => intro u hu; simp at hu; rcases hu with rfl | rfl <;> rfl
  case c3 => unfold maxLen; omega
  case c4 => omega
  intro v' w1 hown' hgrow hnil hat
  have hg := H.out.gw
  have hs := H.out.sw
  have hlt := H.out.lt
  have hfr : Fr (foot g s wv) w w1 := ((Fr.refl _ w).alloc _).grown hgrow (fun k hk => .inl (.inr (.inr hk)))
  have bg : w1.heap[g]? = w.heap[g]? := (hgrow.block g (by have := hlt g (foot_g _ _ _); simp; omega) (fun e => hg e.symm)).trans (Below.heap_alloc w _ g (hlt g (foot_g _ _ _)))
  have bs : w1.heap[s]? = w.heap[s]? := (hgrow.block s (by have := hlt s (foot_s _ _ _); simp; omega) (fun e => hs e.symm)).trans (Below.heap_alloc w _ s (hlt s (foot_s _ _ _)))
  have hcell : w1.cell? ⟨g, 2, none⟩ = some wv := (World.cell?_of_block bg).trans c2
  have hfro : w1.frozen? ⟨g, 2, none⟩ = false := (World.frozen?_of_block bg).trans f2
  have hfin := Lib.hid (H.out.setWait' bg bs v' (m.wait ++ [(n, x)]) (by simpa [wcells] using hown') (by
    intro y hy
    rcases List.mem_append.1 hy with hy | hy
    · exact H.out.ok y hy
    · simp at hy; subst hy; exact hn))
  obtain ⟨gv, cv, rfl⟩ : ∃ gv cv, v' = .slice (some ⟨gv, 0, none⟩) (m.wait.length + 1) cv := by
    rcases owns_form hown' with ⟨_, h0⟩ | ⟨gv, cv, h0, _⟩
    · omega
    · exact ⟨gv, cv, h0⟩
  go_wp2
  go_ret
  refine ⟨rfl, _, ⟨s, _, hfin.out, rfl⟩, hfr.setCell (p := ⟨g, 2, none⟩) (.inl (foot_g _ _ _)) _, ?_⟩
  rintro k (rfl | rfl | hk)
  · exact .inl (foot_g _ _ _)
  · exact .inl (foot_s _ _ _)
  · rcases hat with e | e
    · exact .inl (.inr (.inr (e.symm.trans hk)))
    · have : k = (w.alloc (.cells #[.int .i64 (n : Int), .string x] 87)).heap.size := by
        have h := hk.symm.trans e
        simpa using h
      exact .inr (by rw [this]; exact hsp)

theorem rwrite_at {w : World} {g : Nat} {m : Dsk} (n : Int) (x : ByteArray) (hmany : m.wait.length ≤ 1000000) (S : Nat → Prop) (h : R g m w S) :
    Calls Try.prog 57 #[.pointer (some ⟨g, 0, none⟩), .int .i64 n, .string x] w fun e w' => e = .returned (.int .i64 (checkE m n x.size)) ∧ Step w w' S (R g (wrote m n x) w') := by
  obtain ⟨s, wv, h, rfl⟩ := h
  have hk := rcheck_any h n x
  unfold wrote
  by_cases he : checkE m n x.size = 0
  · obtain ⟨h1, h2, h3, h4⟩ := checkE_zero he
    rw [if_pos he, he]
    have := rwrite_yes h n.toNat x h1 (by omega) h4 hmany
    rwa [Int.toNat_of_nonneg h2] at this
  · rw [if_neg he]
    refine (rwrite_not _ he hk).mono ?_
    rintro e w' ⟨rfl, rfl⟩
    exact ⟨rfl, Step.same (R.res g m) ⟨s, wv, h, rfl⟩ (Fr.refl _ _)⟩

end Go.Proofs.Ytpmhjagmgjolmaa.Dk
