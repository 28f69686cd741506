/- DiskCrash's walk. -/
import Derived.Test.YtbmmbgobnoojjaaDkGone
import Derived.Test.YtbmmbgobnoojjaaDkRep
namespace Go.Proofs.Ytbmmbgobnoojjaa.Dk
open Go.RowKit

/-- The disk behind the first k writes of the first texts. -/
def firsts (f : List ByteArray) (k : Nat) : Dsk := { blank f.length 4096 with wait := (List.range k).map fun i => (i, f.getD i ByteArray.empty) }
/-- A disk that holds texts. -/
def holding (f : List ByteArray) : Dsk := { sec := f, size := 4096, wait := [], gone := false }

theorem firsts_write (f : List ByteArray) (k : Nat) (x : ByteArray) (hk : f[k]? = some x) (hx : x.size ≤ 4096) : checkE (firsts f k) k x.size = 0 ∧ wrote (firsts f k) k x = firsts f (k + 1) := by
  have hl := (List.getElem?_eq_some_iff.1 hk).1
  have he : checkE (firsts f k) k x.size = 0 := by
    unfold checkE
    rw [if_neg (by simp [firsts, blank]), if_neg (by simp [firsts, blank]; omega), if_neg (by simp [firsts, blank]; omega)]
  refine ⟨he, ?_⟩
  unfold wrote
  rw [if_pos he]
  simp [firsts, List.range_succ, hk]

theorem kept_range (f L : List ByteArray) (hL : L.length = f.length) : ∀ k, k ≤ f.length → ∀ j, j < f.length →
    (kept L (((List.range f.length).map fun i => (i, f.getD i ByteArray.empty)).take k) (List.replicate f.length true))[j]? = if j < k then f[j]? else L[j]?
  | 0, _, j, _ => by simp [kept]
  | k + 1, hk, j, hj => by
    have ih := kept_range f L hL k (by omega) j hj
    have hkl : k < f.length := by omega
    have hb : (List.replicate f.length true)[k]? = some true := by simp [hkl]
    rw [kept_step _ _ L k (k, f.getD k ByteArray.empty) (by simp [hkl]), if_pos hb]
    by_cases e : k = j
    · subst e
      rw [List.getElem?_set_self (by rw [length_kept]; omega), if_pos (by omega)]
      simp [hkl]
    · rw [List.getElem?_set_ne e, ih]
      by_cases e2 : j < k
      · rw [if_pos e2, if_pos (by omega)]
      · rw [if_neg e2, if_neg (by omega)]

theorem firsts_flush (f : List ByteArray) : flushed (firsts f f.length) = holding f := by
  unfold flushed crashed
  rw [if_neg (by simp [firsts, blank])]
  have : kept (blank f.length 4096).sec ((List.range f.length).map fun i => (i, f.getD i ByteArray.empty)) (List.replicate f.length true) = f := by
    apply List.ext_getElem?
    intro j
    have h := kept_range f (blank f.length 4096).sec (by simp [blank]) f.length (Nat.le_refl _)
    rw [List.take_of_length_le (by simp)] at h
    by_cases hj : j < f.length
    · rw [h j hj, if_pos hj]
    · rw [List.getElem?_eq_none (by rw [length_kept]; simp [blank]; omega), List.getElem?_eq_none (by omega)]
  simp only [firsts, List.length_map, List.length_range]
  rw [this]
  rfl

/-- What a kept row holds is as it was, or was written. -/
theorem kept_or : ∀ (ws : List Ev) (bs : List Bool) (L : List ByteArray) (n : Nat) (x : ByteArray), (kept L ws bs)[n]? = some x → L[n]? = some x ∨ (n, x) ∈ ws
  | [], _, _, _, _, h => by simp [kept] at h; exact .inl h
  | _ :: _, [], _, _, _, h => by simp [kept] at h; exact .inl h
  | y :: ys, b :: bs, L, n, x, h => by
    rw [kept] at h
    rcases kept_or ys bs _ n x h with h | h
    · split at h
      · by_cases e : y.1 = n
        · subst e
          have hl := (List.getElem?_eq_some_iff.1 h).1
          rw [List.getElem?_set_self (by simpa using hl)] at h
          simp at h
          subst h
          exact .inr (List.mem_cons.2 (.inl rfl))
        · rw [List.getElem?_set_ne e] at h
          exact .inl h
      · exact .inl h
    · exact .inr (List.mem_cons.2 (.inr h))

theorem wroteAll_mem : ∀ (os : List Op) (m : Dsk) (n : Nat) (x : ByteArray), (n, x) ∈ (wroteAll m os).wait → (n, x) ∈ m.wait ∨ ∃ o ∈ os, o.n = (n : Int) ∧ o.s = x
  | [], _, _, _, h => .inl h
  | o :: os, m, n, x, h => by
    rcases wroteAll_mem os (wrote m o.n o.s) n x h with h | ⟨o', h1, h2⟩
    · unfold wrote at h
      split at h
      · rename_i he
        have h0 := checkE_zero he
        rcases List.mem_append.1 h with h | h
        · exact .inl h
        · simp at h
          exact .inr ⟨o, List.mem_cons.2 (.inl rfl), by omega, h.2.symm⟩
      · exact .inl h
    · exact .inr ⟨o', List.mem_cons.2 (.inr h1), h2⟩

/-- Behind the crash. -/
def after (f : List ByteArray) (os : List Op) (bs : List Bool) : Dsk := crashed (wroteAll (holding f) os) bs

theorem after_eq (f : List ByteArray) (os : List Op) (bs : List Bool) : after f os bs = holding (kept f (wroteAll (holding f) os).wait bs) := by
  unfold after crashed
  have h := wroteAll_eq os (holding f)
  have hg : (wroteAll (holding f) os).gone = false := by rw [h]; rfl
  have hs : (wroteAll (holding f) os).sec = f := by rw [h]; rfl
  have hz : (wroteAll (holding f) os).size = 4096 := by rw [h]; rfl
  rw [if_neg (by rw [hg]; decide), hs]
  show ({ sec := _, size := (wroteAll (holding f) os).size, wait := [], gone := (wroteAll (holding f) os).gone } : Dsk) = _
  rw [hg, hz]
  rfl

theorem holding_read (f : List ByteArray) (n : Nat) (x : ByteArray) (h : f[n]? = some x) : checkE (holding f) n 0 = 0 ∧ readV (holding f) n = x := by
  have hl := (List.getElem?_eq_some_iff.1 h).1
  have he : checkE (holding f) n 0 = 0 := by
    unfold checkE
    rw [if_neg (by simp [holding]), if_neg (by simp [holding]; omega), if_neg (by omega)]
  refine ⟨he, ?_⟩
  unfold readV
  rw [if_pos he]
  simp [latest, holding, h]

/-- Whether a text was there first, or was written there by one of the first k. -/
def known (f : List ByteArray) (os : List Op) (n : Nat) (x : ByteArray) (k : Nat) : Bool := (x.toList == (f.getD n ByteArray.empty).toList) || (os.take k).any fun o => (o.n == (n : Int)) && (o.s.toList == x.toList)

theorem known_all (f : List ByteArray) (os : List Op) (bs : List Bool) (n : Nat) (x : ByteArray) (h : (kept f (wroteAll (holding f) os).wait bs)[n]? = some x) : known f os n x os.length = true := by
  unfold known
  rw [List.take_of_length_le (Nat.le_refl _)]
  rcases kept_or _ bs f n x h with h | h
  · simp [h]
  · rcases wroteAll_mem os (holding f) n x h with h | ⟨o, ho, h1, h2⟩
    · simp [holding] at h
    · have : (os.any fun o => (o.n == (n : Int)) && (o.s.toList == x.toList)) = true := List.any_eq_true.2 ⟨o, ho, by simp [h1, h2]⟩
      rw [this, Bool.or_true]

theorem known_step (f : List ByteArray) (os : List Op) (n : Nat) (x : ByteArray) (k : Nat) (o : Op) (h : os[k]? = some o) : known f os n x (k + 1) = (known f os n x k || ((o.n == (n : Int)) && (o.s.toList == x.toList))) := by
  unfold known
  rw [List.take_add_one, h, List.any_append]
  simp [Bool.or_assoc]

theorem strs_at {w W : World} {A : Option Addr} {xs : List ByteArray} (h : RowStrs w A xs) (hb : Below w.heap.size w W) {k : Nat} {x : ByteArray} (hk : xs[k]? = some x) : ∃ ad, A = some ad ∧ W.cell? (ad.add k) = some (.string x) := by
  obtain ⟨ad, e, h0⟩ := h k x hk
  exact ⟨ad, e, old_cell hb h0⟩

/-- Crash in a law: of a row that lay ahead of the law's call. -/
theorem law_crash {w0 w : World} {g : Nat} {m : Dsk} (h : Law w0 w (D g m)) (A : Option Addr) (c : Nat) (bs : List Bool) (hr : RowBools w0 A bs) :
    Calls Try.prog 18 #[.pointer (some ⟨g, 0, none⟩), .slice A bs.length c] w fun e w' => e = .returned (.int .i64 (worksE m)) ∧ Law w0 w' (D g (crashed m bs)) := by
  obtain ⟨S, hA, hn, hb⟩ := h
  exact (crash_step A c bs S (Law.readsBools hb hn hr) hA).mono fun e w' ⟨he, hs⟩ => ⟨he, Law.step hn hb hs⟩

theorem crashed_after (f : List ByteArray) (os : List Op) (bs : List Bool) : crashed (wroteAll (holding f) os) bs = after f os bs := rfl

set_option maxRecDepth 100000 in
set_option maxHeartbeats 8000000 in
theorem crash_main (f : List ByteArray) (A : Option Addr) (c : Nat) (h1 : 1 ≤ f.length) (h2 : f.length ≤ 20) (B : Option Addr) (d : Nat) (os : List Op) (h3 : os.length ≤ 20) (K : Option Addr) (kc : Nat) (bs : List Bool) (h4 : bs.length ≤ 100) (w : World)
    (hf : RowStrs w A f) (ho : RowOps w B os) (hb : RowBools w K bs) :
    Calls Try.prog 5 #[.slice A f.length c, .slice B os.length d, .slice K bs.length kc] w fun e w' => e = .returned (.bool true) ∧ Below w.heap.size w w' := by
  have KL := Lib.hid (fun w => live_true w)
  have HF := Lib.hid hf
  have HO := Lib.hid ho
  have HB := Lib.hid hb
  have HN := Lib.hid (new_made f.length 4096 h1 (by omega) (by decide) (by decide) w)
  clear hf ho hb
  have g1 : ¬ (f.length : Int) < 1 := by omega
  have g2 : ¬ 20 < (f.length : Int) := by omega
  have g3 : ¬ 20 < (os.length : Int) := by omega
  have g4 : ¬ 100 < (bs.length : Int) := by omega
  go_enter Try.func5, Try.ntmps5
  go_wp2_with fail
  refine HN.out.mono ?_
  rintro e w1 ⟨rfl, hm⟩
  have H1 := Lib.hid (Law.made (Below.refl w.heap.size w) hm)
  clear hm HN
  go_wp2_with fail
  go_loopg [9] f.length (fun q v9 wx => ∃ k : Nat, k + q = f.length ∧ v9 = .int .i64 (k : Int) ∧ Aside (Law w wx (D (w.heap.size + 1) (firsts f k))))
  case atStart => exact ⟨0, by omega, rfl, by show Law _ _ _; simpa [firsts, blank] using H1.out⟩
  case round =>
    obtain ⟨k, hkq, rfl, HI⟩ := hrel
    cases gk with
    | zero =>
      obtain rfl : k = f.length := by omega
      go_wp2_with fail
      refine (HI.out.op (flush_at (by simp [firsts]; omega))).mono ?_
      rw [firsts_flush]
      rintro e w2 ⟨rfl, h2⟩
      have H2 := Lib.hid h2
      clear h2 HI
      go_wp2_with fail
      go_loopg [10] os.length (fun q v10 wx => ∃ k : Nat, k + q = os.length ∧ v10 = .int .i64 (k : Int) ∧ Aside (Law w wx (D (w.heap.size + 1) (wroteAll (holding f) (os.take k)))))
      case atStart => exact ⟨0, by omega, rfl, H2.out⟩
      case round =>
        obtain ⟨k, hkq, rfl, HI⟩ := hrel
        cases gk with
        | zero =>
          obtain rfl : k = os.length := by omega
          rw [List.take_of_length_le (Nat.le_refl _)] at HI
          go_wp2_with fail
          have hcr := law_crash HI.out K kc bs HB.out
          rw [crashed_after] at hcr
          refine hcr.mono ?_
          rintro e w3 ⟨rfl, h3'⟩
          rw [after_eq] at h3'
          have H3 := Lib.hid h3'
          clear h3' HI
          go_wp2_with fail
          obtain ⟨F, hF⟩ : ∃ F, kept f (wroteAll (holding f) os).wait bs = F := ⟨_, rfl⟩
          rw [hF] at H3
          have hFl : F.length = f.length := by rw [← hF, length_kept]
          have HFF := Lib.hid hF
          clear hF
          go_loopg [11] f.length (fun q v11 wx => ∃ k : Nat, k + q = f.length ∧ v11 = .int .i64 (k : Int) ∧ Aside (Law w wx (D (w.heap.size + 1) (holding F))))
          case atStart => exact ⟨0, by omega, rfl, H3.out⟩
          case round =>
            obtain ⟨n, hnq, rfl, HI⟩ := hrel
            cases gk with
            | zero =>
              obtain rfl : n = f.length := by omega
              go_wp2_with fail
              refine (HI.out.op pending_step).mono ?_
              rintro e w4 ⟨rfl, h4'⟩
              have H4 := Lib.hid h4'
              clear h4'
              go_wp2_with fail
              refine (KL.out _).mono ?_
              rintro e w5 ⟨rfl, b5⟩
              go_wp2_with fail
              go_ret
              exact ⟨rfl, H4.out.below.trans (b5.mono H4.out.below.size)⟩
            | succ q =>
              have hn : n < f.length := by omega
              have hni : (n : Int) < (f.length : Int) := by omega
              obtain ⟨x, hx⟩ : ∃ x, F[n]? = some x := ⟨_, List.getElem?_eq_getElem (by omega)⟩
              obtain ⟨y, hy⟩ : ∃ y, f[n]? = some y := ⟨_, List.getElem?_eq_getElem hn⟩
              obtain ⟨hE, hV⟩ := holding_read F n x hx
              go_wp2_with fail
              refine (HI.out.op (read_step n)).mono ?_
              rw [hE, hV]
              rintro e w4 ⟨rfl, h4'⟩
              obtain ⟨ad, rfl, e1⟩ := strs_at HF.out h4'.below hy
              have H4 := Lib.hid h4'
              clear h4' hE hV
              have hk0 : (x.toList == y.toList) = known f os n x 0 := by unfold known; rw [List.getD_eq_getElem?_getD, hy]; simp
              have HKN := Lib.hid (known_all f os bs n x (by rw [HFF.out]; exact hx))
              clear hx hy
              go_wp2_with fail
              clear e1 HI hk0
              go_loopg [14, 15] os.length (fun q v14 v15 wx => ∃ k : Nat, k + q = os.length ∧ v14 = .bool (known f os n x k) ∧ v15 = .int .i64 (k : Int) ∧ Aside (Law w wx (D (w.heap.size + 1) (holding F))))
              case atStart => exact ⟨0, by omega, rfl, rfl, H4.out⟩
              case round =>
                obtain ⟨k, hkq, rfl, rfl, HI⟩ := hrel
                cases gk with
                | zero =>
                  obtain rfl : k = os.length := by omega
                  rw [HKN.out]
                  go_wp2_with fail
                  go_roundg q
                  case measure => omega
                  case rel => exact ⟨n + 1, by omega, by go_num, HI.out⟩
                | succ r =>
                  have hm : k < os.length := by omega
                  have hmi : (k : Int) < (os.length : Int) := by omega
                  obtain ⟨o, ho⟩ : ∃ o, os[k]? = some o := ⟨_, List.getElem?_eq_getElem hm⟩
                  obtain ⟨ad', rfl, -, e1, e2, -⟩ := ops_at HO.out HI.out.below ho
                  have HS := Lib.hid (known_step f os n x k o ho)
                  clear ho
                  cases hkn : known f os n x k with
                  | true =>
                    rw [hkn] at HS
                    go_wp2_with fail
                    go_roundg r
                    case measure => omega
                    case rel => exact ⟨k + 1, by omega, by rw [HS.out, Bool.true_or], by go_num, HI.out⟩
                  | false =>
                    rw [hkn] at HS
                    by_cases hon : o.n = (n : Int)
                    · have hE2 : (o.n == (n : Int)) = true := by rw [hon]; simp
                      rw [hE2] at HS
                      rw [hon] at e1
                      go_wp2_with fail
                      go_roundg r
                      case measure => omega
                      case rel => exact ⟨k + 1, by omega, by rw [HS.out, Bool.false_or, Bool.true_and], by go_num, HI.out⟩
                    · have hE2 : (o.n == (n : Int)) = false := by simp [hon]
                      rw [hE2] at HS
                      go_wp2_with fail
                      go_roundg r
                      case measure => omega
                      case rel => exact ⟨k + 1, by omega, by rw [HS.out, Bool.false_or, Bool.false_and], by go_num, HI.out⟩
        | succ q =>
          have hm : k < os.length := by omega
          have hmi : (k : Int) < (os.length : Int) := by omega
          obtain ⟨o, ho⟩ : ∃ o, os[k]? = some o := ⟨_, List.getElem?_eq_getElem hm⟩
          obtain ⟨ad, rfl, -, e1, e2, -⟩ := ops_at HO.out HI.out.below.drew ho
          have HOk := Lib.hid ho
          clear ho
          go_wp2_with fail
          go_still_tail 11, (by kernel_rfl)
          change wpList _ _ _ _ _ wr.drew
          go_wp2_with fail
          refine ((HI.out.drew (D.res _ _)).op (write_step o.n o.s (by have h := wroteAll_wait (os.take k) (holding f); have h0 : (holding f).wait.length = 0 := rfl; rw [List.length_take] at h; omega))).mono ?_
          rintro e w3 ⟨rfl, hl⟩
          rw [← wroteAll_snoc _ _ _ _ HOk.out] at hl
          go_wp2
          go_roundg q
          case measure => omega
          case rel => exact ⟨k + 1, by omega, by go_num, hl⟩
    | succ q =>
      have hm : k < f.length := by omega
      have hmi : (k : Int) < (f.length : Int) := by omega
      obtain ⟨x, hx⟩ : ∃ x, f[k]? = some x := ⟨_, List.getElem?_eq_getElem hm⟩
      obtain ⟨ad, rfl, e1⟩ := strs_at HF.out HI.out.below hx
      have HX := Lib.hid hx
      clear hx
      by_cases hbig : 4096 < (x.size : Int)
      · go_wp2_with fail
        refine (KL.out _).mono ?_
        rintro e w2 ⟨rfl, b2⟩
        go_wp2_with fail
        go_ret
        exact ⟨rfl, HI.out.below.trans (b2.mono HI.out.below.size)⟩
      · go_wp2_with fail
        have hw := firsts_write f k x HX.out (by omega)
        refine (HI.out.op (write_step k x (by simp [firsts]; omega))).mono ?_
        rw [hw.1, hw.2]
        rintro e w2 ⟨rfl, h2⟩
        have H2 := Lib.hid h2
        clear h2 hw
        go_wp2_with fail
        go_roundg q
        case measure => omega
        case rel => exact ⟨k + 1, by omega, by go_num, H2.out⟩

set_option maxHeartbeats 4000000 in
theorem crash_else (A : Option Addr) (l c : Nat) (B : Option Addr) (l2 d : Nat) (K : Option Addr) (l3 kc : Nat) (w : World) (h : (l : Int) < 1 ∨ 20 < (l : Int) ∨ 20 < (l2 : Int) ∨ 100 < (l3 : Int)) : Calls Try.prog 5 #[.slice A l c, .slice B l2 d, .slice K l3 kc] w fun e w' => e = .returned (.bool true) ∧ Below w.heap.size w w' := by
  have KL := Lib.hid (live_true w)
  by_cases h0 : (l : Int) < 1
  · clear h
    go_enter Try.func5, Try.ntmps5
    go_wp2_with fail
    refine KL.out.mono ?_
    rintro e w1 ⟨rfl, b⟩
    go_wp2_with fail
    go_ret
    exact ⟨rfl, b⟩
  by_cases h1 : 20 < (l : Int)
  · clear h
    go_enter Try.func5, Try.ntmps5
    go_wp2_with fail
    refine KL.out.mono ?_
    rintro e w1 ⟨rfl, b⟩
    go_wp2_with fail
    go_ret
    exact ⟨rfl, b⟩
  by_cases h2 : 20 < (l2 : Int)
  · clear h
    go_enter Try.func5, Try.ntmps5
    go_wp2_with fail
    refine KL.out.mono ?_
    rintro e w1 ⟨rfl, b⟩
    go_wp2_with fail
    go_ret
    exact ⟨rfl, b⟩
  have h3 : 100 < (l3 : Int) := by omega
  clear h
  go_enter Try.func5, Try.ntmps5
  go_wp2_with fail
  refine KL.out.mono ?_
  rintro e w1 ⟨rfl, b⟩
  go_wp2_with fail
  go_ret
  exact ⟨rfl, b⟩

theorem crash_of (A : Option Addr) (l c : Nat) (f : List ByteArray) (B : Option Addr) (l2 d : Nat) (os : List Op) (K : Option Addr) (l3 kc : Nat) (bs : List Bool) (W : World) (h1 : f.length = l ∧ RowStrs W A f) (h2 : os.length = l2 ∧ RowOps W B os) (h3 : bs.length = l3 ∧ RowBools W K bs) :
    Calls Try.prog 5 #[.slice A l c, .slice B l2 d, .slice K l3 kc] W fun e w' => e = .returned (.bool true) ∧ Below W.heap.size W w' := by
  obtain ⟨rfl, r1⟩ := h1
  obtain ⟨rfl, r2⟩ := h2
  obtain ⟨rfl, r3⟩ := h3
  by_cases hg : (f.length : Int) < 1 ∨ 20 < (f.length : Int) ∨ 20 < (os.length : Int) ∨ 100 < (bs.length : Int)
  · exact crash_else A _ c B _ d K _ kc W hg
  · exact crash_main f A c (by omega) (by omega) B d os (by omega) K kc bs (by omega) W r1 r2 r3

end Go.Proofs.Ytbmmbgobnoojjaa.Dk
