/- The walks of Replace, of an event's own do, and of Crash, of layer 9. -/
import Derived.Test.YtpmhjagmgjolmaaDk4
import Derived.Lib.SliceRun
import Derived.StillTailTactics
import Derived.Deep.LoopGhost
namespace Go.Proofs.Ytpmhjagmgjolmaa.Dk
open Go.RowKit

theorem addr_block (a : Addr) (j : Nat) : (a.add j).block = a.block := by unfold Addr.add; split <;> rfl

theorem replace_nil (w : World) : Calls Try.prog 37 #[.pointer none] w fun e w' => e = .returned (.int .i64 1) ∧ w = w' := by
  go_enter Try.func37, Try.ntmps37
  go_wp2
  go_ret
  exact ⟨rfl, rfl⟩

theorem zero_string (w : World) : (zeroValue 9).run Try.prog w = .ok (.string ByteArray.empty) w := by
  obtain ⟨i0, hi, hz0, hz1, hz2⟩ := info_parts strInfo
  simp [zeroValue, typeInfo, hi, hz0]

theorem run_clear_row (w w' : World) (s n cap : Nat) (z : Value) (hn : 0 < n) (hz : (zeroValue 9).run Try.prog w = .ok z w) {vs : List Value} (hzc : (Builtin.zeroCells z.cells n).toList = vs)
    (hst : (storeCells ⟨s, 0, none⟩ vs).run Try.prog w = .ok () w') : (Builtin.clear_ #[48] 0 #[.slice (some ⟨s, 0, none⟩) n cap]).run Try.prog w = .ok (.tuple #[]) w' := by
  obtain ⟨k, rfl⟩ : ∃ k, n = k + 1 := ⟨n - 1, by omega⟩
  simp [Builtin.clear_, run_underlying Try.underlying48, hz, hzc, hst]

/-- The builtin clear, of a disk's sectors. -/
theorem IsDisk.clears {w : World} {g s : Nat} {wv : Value} {m : Dsk} (h : IsDisk w g s wv m) (cap : Nat) : ∃ w', (Builtin.clear_ #[48] 0 #[.slice (some ⟨s, 0, none⟩) m.sec.length cap]).run Try.prog w = .ok (.tuple #[]) w' ∧
    IsDisk w' g s wv { m with sec := List.replicate m.sec.length ByteArray.empty } ∧ Fr (foot g s wv) w w' := by
  have hgs := h.gs
  have hsw := h.sw
  have hpos := h.pos
  obtain ⟨cap', hb, hr⟩ := h.blk
  rcases hr.2 with ⟨e, _⟩ | ⟨g', c', cur, e, hg', hh, hn, hm, hs, ht⟩
  · simp at e
  · simp only [Value.slice.injEq, Option.some.injEq, Addr.mk.injEq, and_true, true_and] at e
    obtain ⟨rfl, rfl⟩ := e
    have hzc : (Builtin.zeroCells (Value.string ByteArray.empty).cells m.sec.length).toList = List.replicate m.sec.length (.string ByteArray.empty) := by
      simp [Builtin.zeroCells, Value.cells]
      apply List.ext_getElem
      · simp
      · intro i h1 h2
        simp [Nat.mod_one]
    have hst := run_storeCells_at Try.prog s 0 9 (List.replicate m.sec.length (.string ByteArray.empty)) 0 cur w hh (by simp; omega) (by intro v hv; rw [List.eq_of_mem_replicate hv]; rfl)
    simp only [Nat.add_zero, List.take_zero, List.nil_append, Nat.zero_add, List.length_replicate] at hst
    refine ⟨_, ?_, ⟨⟨cap', ?_, ?_⟩, owns_move h.wait (fun k e => setRow_other w s k (List.replicate m.sec.length (Value.string ByteArray.empty) ++ cur.toList.drop m.sec.length).toArray (fun e' => hsw (e.trans (by rw [e'])))), by simpa using h.ok, by simpa using h.pos, by simpa using h.most, h.fits⟩, ?_⟩
    · exact run_clear_row _ _ _ _ _ _ hpos (zero_string w) hzc hst
    · rw [setRow_other w s g _ hgs]
      simpa using hb
    · refine ⟨by simp, .inr ⟨s, cap', _, by simp, hg', setRow_heap w s cur _ _ _ hh, by simpa using hn, hm, ?_, ?_⟩⟩
      · simp at hs ⊢
        omega
      · simp
    · exact ⟨rfl, rfl, rfl, by simp, fun i hi hn => setRow_other w s i _ (fun e => hn (e ▸ foot_s _ _ _))⟩

set_option maxRecDepth 100000 in
set_option maxHeartbeats 1000000 in
theorem replace_at {w : World} {g : Nat} {S : Nat → Prop} {m : Dsk} (h : At w g S m) :
    Calls Try.prog 37 #[.pointer (some ⟨g, 0, none⟩)] w fun e w' => e = .returned (.int .i64 0) ∧ Step w w' S fun S' => At w' g S' { m with gone := false, wait := [], sec := List.replicate m.sec.length ByteArray.empty } := by
  obtain ⟨s, wv, h, rfl⟩ := h
  obtain ⟨cap, hcap, c0, c1, c2, c3, cf, -, -⟩ := h.reads
  have f2 := cf 2
  have f3 := cf 3
  clear cf
  have h2 := (h.setGone false).setWait (.slice none 0 0) [] (World.ownsRow_nil _ _ _ _) (by simp)
  have fr2 : Fr (foot g s wv) w ((w.setCell ⟨g, 3, none⟩ (.bool false)).setCell ⟨g, 2, none⟩ (.slice none 0 0)) := ((Fr.refl _ w).setCell (p := ⟨g, 3, none⟩) (.inl (foot_g _ _ _)) _).setCell (p := ⟨g, 2, none⟩) (.inl (foot_g _ _ _)) _
  obtain ⟨w3, hcl, h3, fr3⟩ := h2.clears cap
  have H3 := Lib.hid h3
  have FR := Lib.hid (fr2.then fr3 (fun i _ hi => by
    rcases hi with rfl | rfl | hi
    · exact foot_g _ _ _
    · exact foot_s _ _ _
    · simp [Value.ownBlock] at hi))
  clear h h2 h3 fr2 fr3
  go_enter Try.func37, Try.ntmps37
  go_wp2
  go_ret
  refine ⟨rfl, _, ⟨s, _, H3.out, rfl⟩, FR.out, ?_⟩
  rintro k (rfl | rfl | hk)
  · exact .inl (foot_g _ _ _)
  · exact .inl (foot_s _ _ _)
  · simp [Value.ownBlock] at hk

set_option maxRecDepth 100000 in
set_option maxHeartbeats 1000000 in
theorem do_at {w : World} {g s : Nat} {wv : Value} {m : Dsk} (h : IsDisk w g s wv m) (n : Nat) (x : ByteArray) (hn : n < m.sec.length) :
    Calls Try.prog 86 #[.agg #[.int .i64 (n : Int), .string x], .pointer (some ⟨g, 0, none⟩)] w fun e w' => e = .returned (.tuple #[]) ∧ IsDisk w' g s wv { m with sec := m.sec.set n x } ∧ Fr (foot g s wv) w w' := by
  have hA := Lib.hid (h.alloc (.cells #[.int .i64 (n : Int), .string x] 78)).drew
  obtain ⟨cap, hcap, c0, -, -, -, -, cs, cz⟩ := hA.out.reads
  have cn := cs n m.sec[n] (List.getElem?_eq_getElem hn)
  have zn := cz n
  have d0 : ((w.alloc (.cells #[.int .i64 (n : Int), .string x] 78)).drew).cell? ⟨w.heap.size, 0, none⟩ = _ := cell_of_row _ w.heap.size 0 _ _ _ (heap_alloc_new w (.cells #[.int .i64 (n : Int), .string x] 78))
  have d1 : ((w.alloc (.cells #[.int .i64 (n : Int), .string x] 78)).drew).cell? ⟨w.heap.size, 1, none⟩ = _ := cell_of_row _ w.heap.size 1 _ _ _ (heap_alloc_new w (.cells #[.int .i64 (n : Int), .string x] 78))
  simp only [List.getElem?_toArray, List.getElem?_cons_zero, List.getElem?_cons_succ] at d0 d1
  clear cs cz h
  go_enter Try.func86, Try.ntmps86
  go_wp2
  go_still_tail 9, (by kernel_rfl)
  change wpStill _ _ (w.alloc (.cells #[.int .i64 (n : Int), .string x] 78)).drew _ _ _
  repeat still_step
  refine wpStill_nil ?_
  change wpList _ _ _ _ _ (w.alloc _).drew
  go_wp2
  go_end0
  exact ⟨rfl, (hA.out.setSec n x), (((Fr.refl _ w).alloc _).setCell (p := ⟨s, n, none⟩) (.inl (foot_s _ _ _)) _).drew⟩

/-! Crash -/

/-- What is kept goes into the sectors, in its order. -/
def kept : List ByteArray → List (Nat × ByteArray) → List Bool → List ByteArray
  | L, x :: xs, b :: bs => kept (if b = true then L.set x.1 x.2 else L) xs bs
  | L, _, _ => L

theorem crash_nil (v : Value) (w : World) : Calls Try.prog 32 #[.pointer none, v] w fun e w' => e = .returned (.int .i64 1) ∧ w = w' := by
  go_enter Try.func32, Try.ntmps32
  go_wp2_with (go_at_call 52; refine (works_nil _).mono ?_; rintro e w1 ⟨rfl, rfl⟩)
  go_ret
  exact ⟨rfl, rfl⟩

theorem crash_gone (v : Value) {w : World} {g : Nat} {S : Nat → Prop} {m : Dsk} (h : At w g S m) (hg : m.gone = true) : Calls Try.prog 32 #[.pointer (some ⟨g, 0, none⟩), v] w fun e w' => e = .returned (.int .i64 8) ∧ w = w' := by
  have hk := works_at h
  unfold worksE at hk
  rw [if_pos hg] at hk
  have HK := Lib.hid hk
  clear hk h
  go_enter Try.func32, Try.ntmps32
  go_wp2_with (go_at_call 52; refine (HK.out).mono ?_; rintro e w1 ⟨rfl, rfl⟩)
  go_ret
  exact ⟨rfl, rfl⟩

theorem kept_step : ∀ (ws : List (Nat × ByteArray)) (bs : List Bool) (L : List ByteArray) (k : Nat) (x : Nat × ByteArray), ws[k]? = some x →
    kept L (ws.take (k + 1)) bs = if bs[k]? = some true then (kept L (ws.take k) bs).set x.1 x.2 else kept L (ws.take k) bs
  | [], _, _, _, _, h => by simp at h
  | y :: ys, [], L, k, x, h => by cases k <;> simp [kept]
  | y :: ys, b :: bs, L, 0, x, h => by
    simp at h
    subst h
    cases b <;> cases ys <;> simp [kept]
  | y :: ys, b :: bs, L, k + 1, x, h => by
    simp only [List.take_succ_cons, kept, List.getElem?_cons_succ]
    exact kept_step ys bs _ k x (by simpa using h)

theorem length_kept : ∀ (ws : List (Nat × ByteArray)) (bs : List Bool) (L : List ByteArray), (kept L ws bs).length = L.length
  | [], _, _ => by simp [kept]
  | _ :: _, [], _ => by simp [kept]
  | x :: xs, b :: bs, L => by
    rw [kept, length_kept xs bs]
    split <;> simp

/-- What waits, as the walks read it. -/
theorem IsDisk.waits {w : World} {g s : Nat} {wv : Value} {m : Dsk} (h : IsDisk w g s wv m) : ∃ A c, wv = .slice A m.wait.length c ∧ m.wait.length ≤ 9223372036854775807 ∧
    ∀ (wx : World) (mx : Dsk), IsDisk wx g s wv mx → mx.wait = m.wait → ∀ (j : Nat) x, m.wait[j]? = some x → ∃ ad, A = some ad ∧ wx.cell? (ad.add j) = some (ev x) ∧ wx.frozen? (ad.add j) = false := by
  rcases owns_form h.wait with ⟨rfl, hn⟩ | ⟨gw, cw, rfl, -, -, hnc, hcm⟩
  · refine ⟨none, 0, by rw [hn], by omega, fun wx mx _ _ j x hx => ?_⟩
    have := (List.getElem?_eq_some_iff.1 hx).1
    omega
  · refine ⟨some ⟨gw, 0, none⟩, cw, rfl, by unfold maxLen at hcm; omega, fun wx mx hx he j x hj => ⟨_, rfl, ?_, ?_⟩⟩
    · have hw := hx.wait
      rw [he] at hw
      exact hw.cells rfl j (ev x) (by rw [List.getElem?_map, hj]; rfl)
    · have hw := hx.wait
      rw [he] at hw
      have hadd : (⟨gw, 0, none⟩ : Addr).add j = ⟨gw, j, none⟩ := by unfold Addr.add; split <;> simp_all
      rw [hadd]
      exact hw.frozenAt j

structure CrashW (w : World) (g s : Nat) (wv : Value) (m : Dsk) (L : List ByteArray) (wx : World) : Prop where
  disk : IsDisk wx g s wv { m with sec := L }
  fr : Fr (foot g s wv) w wx

set_option maxRecDepth 100000 in
set_option maxHeartbeats 2000000 in
theorem crash_yes {w : World} {g s : Nat} {wv : Value} {m : Dsk} (h : IsDisk w g s wv m) (hg : m.gone = false) (A : Option Addr) (c : Nat) (bs : List Bool)
    (hr : ∀ (j : Nat) b, bs[j]? = some b → ∃ ad, A = some ad ∧ w.cell? (ad.add j) = some (.bool b) ∧ ¬ foot g s wv ad.block) :
    Calls Try.prog 32 #[.pointer (some ⟨g, 0, none⟩), .slice A bs.length c] w fun e w' => e = .returned (.int .i64 0) ∧
      Step w w' (foot g s wv) fun S' => At w' g S' { m with wait := [], sec := kept m.sec m.wait bs } := by
  have hk := works_any h
  unfold worksE at hk
  rw [if_neg (by rw [hg]; decide)] at hk
  have HK := Lib.hid hk
  clear hk
  obtain ⟨cap, hcap, -, -, c2, -, cf, -, -⟩ := h.reads
  have f2 := cf 2
  clear cf
  obtain ⟨W, cw, hwv, hlen, hW⟩ := h.waits
  have HW := Lib.hid hW
  have H := Lib.hid h
  have HR := Lib.hid hr
  rw [hwv] at c2
  have HV := Lib.hid hwv
  clear h hr hW hwv
  go_enter Try.func32, Try.ntmps32
  go_wp2_with (first | (go_at_call 52; refine (HK.out).mono ?_; rintro e w1 ⟨rfl, rfl⟩))
  clear c2 f2
  go_loopg [18] m.wait.length (fun q v18 wx => ∃ k : Nat, k + q = m.wait.length ∧ v18 = .int .i64 (k : Int) ∧ Aside (CrashW w g s wv m (kept m.sec (m.wait.take k) bs) wx))
  case atStart => exact ⟨0, by omega, rfl, by simpa [kept] using H.out, Fr.refl _ _⟩
  case round =>
    obtain ⟨k, hkq, rfl, HI⟩ := hrel
    cases gk with
    | zero =>
      obtain rfl : k = m.wait.length := by omega
      have hfz := HI.out.disk.reads
      obtain ⟨_, _, -, -, c2, -, cf, -, -⟩ := hfz
      have f2 := cf 2
      simp only [HV.out] at c2
      clear cf
      go_wp2
      go_ret
      have hd := HI.out.disk.setWait (.slice none 0 0) [] (World.ownsRow_nil _ _ _ _) (by simp)
      rw [List.take_of_length_le (Nat.le_refl _)] at hd
      simp only [hg] at hd
      refine ⟨rfl, _, ⟨s, _, hd, rfl⟩, HI.out.fr.setCell (p := ⟨g, 2, none⟩) (.inl (foot_g _ _ _)) _, ?_⟩
      rintro j (rfl | rfl | hk)
      · exact .inl (foot_g _ _ _)
      · exact .inl (foot_s _ _ _)
      · simp [Value.ownBlock] at hk
    | succ q =>
      have hm : k < m.wait.length := by omega
      have hmi : (k : Int) < (m.wait.length : Int) := by omega
      obtain ⟨x, hx⟩ : ∃ x, m.wait[k]? = some x := ⟨_, List.getElem?_eq_getElem hm⟩
      obtain ⟨ad, rfl, hc, -⟩ := HW.out wr _ HI.out.disk rfl k x hx
      unfold ev at hc
      have hin : x.1 < (kept m.sec (m.wait.take k) bs).length := by rw [length_kept]; exact H.out.ok x (List.mem_of_getElem? hx)
      have HS := Lib.hid (kept_step m.wait bs m.sec k x hx)
      clear hx
      by_cases hb : k < bs.length
      · obtain ⟨b, hbk⟩ : ∃ b, bs[k]? = some b := ⟨_, List.getElem?_eq_getElem hb⟩
        obtain ⟨bd, rfl, hbc, hbf⟩ := HR.out k b hbk
        have hbc' := HI.out.fr.cell hbc (by rw [addr_block]; exact hbf)
        have hbi : (k : Int) < (bs.length : Int) := by omega
        have HB := Lib.hid hbk
        clear hbc hbf hbk
        cases b with
        | true =>
          have HD := Lib.hid (do_at HI.out.disk x.1 x.2 hin)
          have hm : ∀ w : World, (method 216 78 (.agg #[.int .i64 (x.1 : Int), .string x.2]) "sheetpile/disk.do").run Try.prog w = .ok (86, .agg #[.int .i64 (x.1 : Int), .string x.2]) w := fun _ => by kernel_rfl
          go_wp2_with (go_at_call 86; refine (HD.out).mono ?_; rintro e w1 ⟨rfl, hd1, hf1⟩)
          go_roundg q
          case measure => omega
          case rel =>
            refine ⟨k + 1, by omega, by go_num, ?_, ?_⟩
            · rw [HS.out, if_pos HB.out]
              exact hd1
            · exact HI.out.fr.then hf1 (fun _ _ h => h)
        | false =>
          go_wp2
          go_roundg q
          case measure => omega
          case rel =>
            refine ⟨k + 1, by omega, by go_num, ?_, HI.out.fr⟩
            rw [HS.out, if_neg (by rw [HB.out]; simp)]
            exact HI.out.disk
      · have hbi : ¬ (k : Int) < (bs.length : Int) := by omega
        go_wp2
        go_roundg q
        case measure => omega
        case rel =>
          refine ⟨k + 1, by omega, by go_num, ?_, HI.out.fr⟩
          rw [HS.out, if_neg (by rw [List.getElem?_eq_none (by omega)]; simp)]
          exact HI.out.disk

/-- A row of truths that a disk's walk may read: not of the disk's own blocks. -/
def ReadsBools (w : World) (S : Nat → Prop) (A : Option Addr) (bs : List Bool) : Prop := ∀ (j : Nat) b, bs[j]? = some b → ∃ ad, A = some ad ∧ w.cell? (ad.add j) = some (.bool b) ∧ ¬ S ad.block

/-- Crash. -/
def crashed (m : Dsk) (bs : List Bool) : Dsk := if m.gone = true then m else { m with wait := [], sec := kept m.sec m.wait bs }

theorem crash_at {w : World} {g : Nat} {S : Nat → Prop} {m : Dsk} (h : At w g S m) (A : Option Addr) (c : Nat) (bs : List Bool) (hr : ReadsBools w S A bs) :
    Calls Try.prog 32 #[.pointer (some ⟨g, 0, none⟩), .slice A bs.length c] w fun e w' => e = .returned (.int .i64 (worksE m)) ∧ Step w w' S fun S' => At w' g S' (crashed m bs) := by
  unfold worksE crashed
  cases hg : m.gone with
  | true =>
    rw [if_pos rfl, if_pos rfl]
    refine (crash_gone _ h hg).mono ?_
    rintro e w' ⟨rfl, rfl⟩
    exact ⟨rfl, S, h, Fr.refl _ _, fun k hk => .inl hk⟩
  | false =>
    rw [if_neg (by decide), if_neg (by decide)]
    obtain ⟨s, wv, h, rfl⟩ := h
    have := crash_yes h hg A c bs hr
    rw [hg] at this
    exact this

end Go.Proofs.Ytpmhjagmgjolmaa.Dk
