/- slices.Repeat of one truth, as Flush of layer 9 uses it. -/
import Derived.Test.YtpmhjagmgjolmaaDk8
import Derived.Shelf.Bits.Mul64
import Derived.Deep.LoopGhost
import Derived.Laws.CopyRow
import Derived.StillTailTactics
import Derived.RegionTactic
namespace Go.Proofs.Ytpmhjagmgjolmaa.Dk
open Go.RowKit Go.Lib

set_option maxRecDepth 100000 in
set_option maxHeartbeats 1000000 in
theorem bits_Mul64 (x y : Nat) (hx : x < 18446744073709551616) (hy : y < 18446744073709551616) (w : World) :
    Calls Try.prog 70 #[.int .u64 x, .int .u64 y] w fun e w' => e = .returned (.tuple #[.int .u64 ((x * y / 18446744073709551616 : Nat) : Int), .int .u64 ((x * y % 18446744073709551616 : Nat) : Int)]) ∧ w' = w := by
  obtain ⟨bd, bt, bw, hhi⟩ := Lib.mul64_hi x y hx hy
  have ba := Lib.half_mul_le (a := x / 4294967296) (b := y / 4294967296) (by omega) (by omega)
  have bb := Lib.half_mul_le (a := x / 4294967296) (b := y % 4294967296) (by omega) (by omega)
  have bc := Lib.half_mul_le (a := x % 4294967296) (b := y / 4294967296) (by omega) (by omega)
  have ba' : x / 4294967296 * (y / 4294967296) < 18446744073709551616 := by omega
  have bb' : x / 4294967296 * (y % 4294967296) < 18446744073709551616 := by omega
  have bc' : x % 4294967296 * (y / 4294967296) < 18446744073709551616 := by omega
  have bh1 : x / 4294967296 * (y / 4294967296) + (x / 4294967296 * (y % 4294967296) + x % 4294967296 * (y % 4294967296) / 4294967296) / 4294967296 < 18446744073709551616 := by omega
  have bh : x / 4294967296 * (y / 4294967296) + (x / 4294967296 * (y % 4294967296) + x % 4294967296 * (y % 4294967296) / 4294967296) / 4294967296 + ((x / 4294967296 * (y % 4294967296) + x % 4294967296 * (y % 4294967296) / 4294967296) % 4294967296 + x % 4294967296 * (y / 4294967296)) / 4294967296 < 18446744073709551616 := by omega
  go_enter Try.func70, Try.ntmps70
  go_wp2
  simp only [Mul64.maskN x hx, Mul64.maskN y hy, Mul64.divN, Mul64.mulN, Mul64.addN, Mul64.wrapN _ bd, Mul64.wrapN _ bb', Mul64.wrapN _ bt, Mul64.maskN _ bt, Mul64.wrapN _ bc', Mul64.wrapN _ bw, Mul64.wrapN _ ba', Mul64.wrapN _ bh1, Mul64.wrapN _ bh, Mul64.wrapM (x * y)]
  rw [hhi]
  go_ret2
  exact ⟨rfl, rfl⟩

set_option maxRecDepth 100000 in
set_option maxHeartbeats 1000000 in
theorem bits_Mul (x y : Nat) (hx : x < 18446744073709551616) (hy : y < 18446744073709551616) (w : World) :
    Calls Try.prog 68 #[.int .u64 x, .int .u64 y] w fun e w' => e = .returned (.tuple #[.int .u64 ((x * y / 18446744073709551616 : Nat) : Int), .int .u64 ((x * y % 18446744073709551616 : Nat) : Int)]) ∧ w' = w := by
  have c64 := Lib.hid (bits_Mul64 x y hx hy w)
  go_enter Try.func68, Try.ntmps68
  go_wp2_with (go_at_call 70; refine c64.out.mono ?_; rintro e w' ⟨rfl, hw⟩; rw [hw])
  go_ret2
  exact ⟨rfl, rfl⟩

theorem boolInfo : (Try.prog.info? 4).map (fun i => (i.zero, i.size, i.bytes)) = some (some (.bool false), 1, 1) := by kernel_rfl
theorem boolSize : (Try.prog.info? 4).map (·.size) = some 1 := by kernel_rfl

/-- k of n are true. -/
def upTo (n k : Nat) : List Value := List.replicate k (.bool true) ++ List.replicate (n - k) (.bool false)
theorem upTo_len (n k : Nat) (h : k ≤ n) : (upTo n k).length = n := by simp [upTo]; omega
theorem upTo_get (n k j : Nat) (h : j < k) : (upTo n k)[j]? = some (.bool true) := by
  unfold upTo
  rw [List.getElem?_append_left (by simpa using h)]
  simp [h]
theorem upTo_more (n k m : Nat) (h : k + m ≤ n) : (upTo n k).take k ++ List.replicate m (.bool true) ++ (upTo n k).drop (k + m) = upTo n (k + m) := by
  unfold upTo
  rw [List.take_left' (by simp), List.drop_append, List.length_replicate, List.drop_of_length_le (by simp), List.nil_append, List.drop_replicate, ← List.replicate_append_replicate,
    show n - k - (k + m - k) = n - (k + m) by omega]

structure RepW (w : World) (B n k : Nat) (wx : World) : Prop where
  row : wx.heap[B]? = some (.cells (upTo n k).toArray 4 (0, 0))
  fr : Fr fresh w wx
  new : w.heap.size ≤ B

theorem RepW.copies {w wx : World} {B n k : Nat} (h : RepW w B n k wx) (hk : k ≤ n) (o m dLen dCap sLen sCap : Nat) (a : Addr) (ho : o = k) (hm : m = Nat.min sLen dLen) (hfit : k + m ≤ n)
    (hsrc : ∀ j, j < m → wx.cell? (a.add j) = some (.bool true)) :
    ∃ w', (Builtin.copy_ #[29, 29] 3 #[.slice (some ⟨B, o, none⟩) dLen dCap, .slice (some a) sLen sCap]).run Try.prog wx = .ok (.int .i64 (m : Int)) w' ∧ RepW w B n (k + m) w' := by
  subst ho
  have hlt := (Array.getElem?_eq_some_iff.1 h.row).1
  refine ⟨wx.setRow B _, ?_, setRow_heap wx B _ (upTo n (o + m)).toArray _ _ h.row, ⟨h.fr.os, h.fr.tape, h.fr.output, by simpa using h.fr.size, fun i hi hn => ?_⟩, h.new⟩
  · have := run_copy_row (P := Try.prog) wx 29 29 3 4 B o dLen dCap a sLen sCap _ _ (List.replicate m (.bool true)) Try.underlying29 boolSize h.row (by simpa using hm)
      (by intro j v hj; have hl := (List.getElem?_eq_some_iff.1 hj).1; simp at hl; simp [hl] at hj; subst hj; exact hsrc j hl) (by simp [upTo_len n o hk]; exact hfit) (by intro v hv; rw [List.eq_of_mem_replicate hv]; rfl)
    rw [this]
    simp only [List.length_replicate]
    rw [upTo_more n o m hfit]
    rfl
  · have := h.new
    rw [setRow_other wx B i _ (by omega)]
    exact h.fr.same i hi hn

theorem RepW.drew {w wx : World} {B n k : Nat} (h : RepW w B n k wx) : RepW w B n k wx.drew := ⟨h.row, h.fr.drew, h.new⟩

theorem RepW.first (w : World) (n : Nat) : RepW w w.heap.size n 0 (w.alloc (.cells (madeCells #[.bool false] n) 4)) := by
  refine ⟨?_, (Fr.refl _ w).alloc _, Nat.le_refl _⟩
  rw [heap_alloc_new]
  have : (madeCells #[.bool false] n) = (upTo n 0).toArray := by
    apply Array.ext'
    rw [toList_madeCells_one]
    simp [upTo]
  rw [this]

set_option maxRecDepth 100000 in
set_option maxHeartbeats 2000000 in
theorem repeat_pos (n : Nat) (hn1 : 1 ≤ n) (hn : n ≤ 1000000) (b : Nat) (w : World) (hb : w.cell? ⟨b, 0, none⟩ = some (.bool true)) :
    Calls Try.prog 65 #[.slice (some ⟨b, 0, none⟩) 1 1, .int .i64 (n : Int)] w fun e w' => e = .returned (.slice (some ⟨w.heap.size, 0, none⟩) n n) ∧ RepW w w.heap.size n n w' := by
  have hM := bits_Mul 1 n (by omega) (by omega) w
  rw [show 1 * n / 18446744073709551616 = 0 by omega, show 1 * n % 18446744073709551616 = n by omega] at hM
  have HM := Lib.hid hM
  have hmk := run_make_row' (P := Try.prog) 29 4 (.bool false) 1 Try.underlying29 boolInfo rfl .i64 .i64 n (by omega) (by omega)
  have g1 : ¬ (n : Int) < 0 := by omega
  have g2 : ¬ 9223372036854775807 < (n : Int) := by omega
  obtain ⟨w2, hc1, hR⟩ := (RepW.first w n).copies (Nat.zero_le _) 0 1 n n 1 1 ⟨b, 0, none⟩ rfl (Nat.min_eq_left hn1).symm (by omega) (fun j hj => by
    obtain rfl : j = 0 := by omega
    exact (Fr.cell ((Fr.refl fresh w).alloc _) (p := ⟨b, 0, none⟩) hb (fun h => h)))
  have H2 := Lib.hid hR
  clear hR hM
  go_enter Try.func65, Try.ntmps65
  go_wp2_with (go_at_call 68; refine HM.out.mono ?_; rintro e w' ⟨rfl, hw⟩; rw [hw])
  clear hc1 hb
  go_loopg [8] n (fun q v8 wx => ∃ k : Nat, k ≤ n ∧ n ≤ k + q ∧ 1 ≤ k ∧ v8 = .int .i64 (k : Int) ∧ Aside (RepW w w.heap.size n k wx))
  case atStart => exact ⟨1, by omega, by omega, by omega, rfl, by rw [Nat.zero_add] at H2; exact H2.out⟩
  case round =>
    obtain ⟨k, hkn', hkq, hk1, rfl, HI⟩ := hrel
    by_cases hlt : k = n
    · subst hlt
      go_wp2
      go_ret
      exact ⟨rfl, HI.out⟩
    · obtain ⟨q, rfl⟩ : ∃ q, gk = q + 1 := ⟨gk - 1, by omega⟩
      have hkle : (k : Int) ≤ (n : Int) := by omega
      have hk0 : 0 ≤ (k : Int) := by omega
      have hnk : ¬ n = k := by omega
      have hkn : (k : Int) < (n : Int) := by omega
      obtain ⟨m, hm⟩ : ∃ m, m = Nat.min k (n - k) := ⟨_, rfl⟩
      have hm1 : m ≤ k := by rw [hm]; exact Nat.min_le_left _ _
      have hm2 : m ≤ n - k := by rw [hm]; exact Nat.min_le_right _ _
      have hm0 : 1 ≤ m := by rw [hm]; exact Nat.le_min.2 ⟨hk1, by omega⟩
      obtain ⟨w3, hc, hR⟩ := (HI.out.drew).copies (by omega) k m (n - k) (n - k) k n ⟨w.heap.size, 0, none⟩ rfl hm (by omega) (fun j hj => by
        have hadd : (⟨w.heap.size, 0, none⟩ : Addr).add j = ⟨w.heap.size, j, none⟩ := by unfold Addr.add; split <;> simp_all
        rw [hadd, cell_of_row _ w.heap.size j _ _ _ HI.out.drew.row]
        have := upTo_get n k j (by omega)
        simpa using this)
      have H3 := Lib.hid hR
      clear hR hm
      go_wp2_with fail
      go_region
      all_goals
        go_wp2
        go_roundg q
        case measure => omega
        case rel => exact ⟨k + m, by omega, by omega, by omega, by go_num, H3.out⟩

theorem repeat_zero (b : Nat) (w : World) :
    Calls Try.prog 65 #[.slice (some ⟨b, 0, none⟩) 1 1, .int .i64 0] w fun e w' => e = .returned (.slice (some ⟨w.heap.size, 0, none⟩) 0 0) ∧ Fr fresh w w' := by
  have hM := bits_Mul 1 0 (by omega) (by omega) w
  have HM := Lib.hid hM
  have hmk := run_make_row' (P := Try.prog) 29 4 (.bool false) 1 Try.underlying29 boolInfo rfl .i64 .i64 0 (by omega) (by omega)
  simp only [Int.ofNat_zero] at hmk
  have hcp := run_copy_none (P := Try.prog) (w.alloc (.cells (madeCells #[.bool false] 0) 4)) 29 29 3 4 (some ⟨w.heap.size, 0, none⟩) (some ⟨b, 0, none⟩) 0 0 1 1 Try.underlying29 boolSize rfl
  clear hM
  go_enter Try.func65, Try.ntmps65
  go_wp2_with (go_at_call 68; refine HM.out.mono ?_; rintro e w' ⟨rfl, hw⟩; rw [hw])
  go_loopg [8] 0 (fun q v8 wx => v8 = .int .i64 0 ∧ wx = w.alloc (.cells (madeCells #[.bool false] 0) 4))
  case atStart => exact ⟨rfl, rfl⟩
  case round =>
    obtain ⟨rfl, rfl⟩ := hrel
    go_wp2
    go_ret
    exact ⟨rfl, (Fr.refl _ w).alloc _⟩

/-- slices.Repeat([]bool{true}, n). -/
theorem repeat_any (n : Nat) (hn : n ≤ 1000000) (b : Nat) (w : World) (hb : w.cell? ⟨b, 0, none⟩ = some (.bool true)) :
    Calls Try.prog 65 #[.slice (some ⟨b, 0, none⟩) 1 1, .int .i64 (n : Int)] w fun e w' => e = .returned (.slice (some ⟨w.heap.size, 0, none⟩) n n) ∧ Fr fresh w w' ∧
      ∀ j, j < n → w'.cell? ⟨w.heap.size, j, none⟩ = some (.bool true) := by
  by_cases h0 : n = 0
  · subst h0
    refine (repeat_zero b w).mono ?_
    rintro e w' ⟨he, hf⟩
    exact ⟨he, hf, fun j hj => by omega⟩
  · refine (repeat_pos n (by omega) hn b w hb).mono ?_
    rintro e w' ⟨he, hR⟩
    refine ⟨he, hR.fr, fun j hj => ?_⟩
    rw [cell_of_row _ _ j _ _ _ hR.row]
    have := upTo_get n n j hj
    simpa using this

/-! Flush -/

/-- Flush: all that waits is kept. -/
def flushed (m : Dsk) : Dsk := crashed m (List.replicate m.wait.length true)

set_option maxRecDepth 100000 in
set_option maxHeartbeats 1000000 in
theorem flush_gone {w : World} {g : Nat} {S : Nat → Prop} {m : Dsk} (h : At w g S m) (hg : m.gone = true) : Calls Try.prog 48 #[.pointer (some ⟨g, 0, none⟩)] w fun e w' => e = .returned (.int .i64 8) ∧ w = w' := by
  have hk := works_at h
  unfold worksE at hk
  rw [if_pos hg] at hk
  have HK := Lib.hid hk
  clear hk h
  go_enter Try.func48, Try.ntmps48
  go_wp2_with (go_at_call 52; refine (HK.out).mono ?_; rintro e w1 ⟨rfl, rfl⟩)
  go_ret
  exact ⟨rfl, rfl⟩

set_option maxRecDepth 100000 in
set_option maxHeartbeats 2000000 in
theorem flush_yes {w : World} {g : Nat} {S : Nat → Prop} {m : Dsk} (h : At w g S m) (hg : m.gone = false) (hmany : m.wait.length ≤ 1000000) :
    Calls Try.prog 48 #[.pointer (some ⟨g, 0, none⟩)] w fun e w' => e = .returned (.int .i64 0) ∧ Step w w' S fun S' => At w' g S' (flushed m) := by
  have hk := works_at h
  unfold worksE at hk
  rw [if_neg (by rw [hg]; decide)] at hk
  have HK := Lib.hid hk
  clear hk
  have h1 := Lib.hid (h.alloc (.cells #[.bool true] 4))
  have hlt := h.lt
  obtain ⟨s, wv, hd, rfl⟩ := h
  obtain ⟨cap, -, -, -, c2, -, -, -, -⟩ := (hd.alloc (.cells #[.bool true] 4)).reads
  obtain ⟨W, cw, hwv, hlen, -⟩ := hd.waits
  rw [hwv] at c2
  have hb := cell_of_row _ w.heap.size 0 _ _ _ (heap_alloc_new w (.cells #[.bool true] 4))
  simp only [List.getElem?_toArray, List.getElem?_cons_zero] at hb
  have hrp := repeat_any m.wait.length hmany w.heap.size _ hb
  rw [World.size_alloc] at hrp
  have HRP := Lib.hid hrp
  clear hb hrp
  go_enter Try.func48, Try.ntmps48
  go_wp2_with (go_at_call 52; refine (HK.out).mono ?_; rintro e w1 ⟨rfl, rfl⟩)
  refine HRP.out.mono ?_
  rintro e w2 ⟨rfl, hf, hcell⟩
  have hA2 := h1.out.frame hf (fun _ _ h => h)
  have hwk : worksE m = 0 := by unfold worksE; rw [if_neg (by rw [hg]; decide)]
  have hcr := crash_at hA2 (some ⟨w.heap.size + 1, 0, none⟩) m.wait.length (List.replicate m.wait.length true) (by
    intro j b hj
    have hl := (List.getElem?_eq_some_iff.1 hj).1
    simp at hl
    simp [hl] at hj
    subst hj
    refine ⟨_, rfl, ?_, fun hk => ?_⟩
    · have hadd : (⟨w.heap.size + 1, 0, none⟩ : Addr).add j = ⟨w.heap.size + 1, j, none⟩ := by unfold Addr.add; split <;> simp_all
      rw [hadd]
      exact hcell j hl
    · have h2 : w.heap.size + 1 < w.heap.size := hlt _ hk
      omega)
  rw [List.length_replicate, hwk] at hcr
  have HCR := Lib.hid hcr
  clear hcr hcell
  go_wp2_with fail
  refine HCR.out.mono ?_
  rintro e w3 ⟨rfl, S', hA3, hf3, hg3⟩
  go_wp2_with fail
  go_ret
  have hfA : Fr (foot g s wv) w w2 := ((Fr.refl _ w).alloc _).then (hf.mono (fun _ _ h => h.elim)) (fun _ _ h => h)
  refine ⟨rfl, S', hA3, hfA.then hf3 (fun _ _ h => h), fun k hk => ?_⟩
  rcases hg3 k hk with h | h
  · exact .inl h
  · exact .inr (Nat.le_trans hfA.size h)

theorem flush_at {w : World} {g : Nat} {m : Dsk} (hmany : m.wait.length ≤ 1000000) (S : Nat → Prop) (h : D g m w S) :
    Calls Try.prog 48 #[.pointer (some ⟨g, 0, none⟩)] w fun e w' => e = .returned (.int .i64 (worksE m)) ∧ Step w w' S (D g (flushed m) w') := by
  cases hg : m.gone with
  | true =>
    have e1 : worksE m = 8 := by unfold worksE; rw [if_pos hg]
    have e2 : flushed m = m := by unfold flushed crashed; rw [if_pos hg]
    rw [e1, e2]
    refine (flush_gone h hg).mono ?_
    rintro e w' ⟨he, rfl⟩
    exact ⟨he, Step.same (D.res g m) h (Fr.refl _ _)⟩
  | false =>
    have e1 : worksE m = 0 := by unfold worksE; rw [if_neg (by rw [hg]; decide)]
    rw [e1]
    exact flush_yes h hg hmany

end Go.Proofs.Ytpmhjagmgjolmaa.Dk
