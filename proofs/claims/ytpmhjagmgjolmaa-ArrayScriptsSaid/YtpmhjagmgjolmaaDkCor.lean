/- Corrupt of layer 9: the closure, slices.IndexFunc, slices.DeleteFunc. -/
import Derived.Test.YtpmhjagmgjolmaaDkRep
namespace Go.Proofs.Ytpmhjagmgjolmaa.Dk
open Go.RowKit

set_option maxRecDepth 100000 in
set_option maxHeartbeats 1000000 in
theorem del_any (x : Ev) (n : Int) (b : Nat) (w : World) (h : w.cell? ⟨b, 0, none⟩ = some (.int .i64 n)) : Calls Try.prog 56 #[ev x, .pointer (some ⟨b, 0, none⟩)] w fun e w' => e = .returned (.bool ((x.1 : Int) == n)) ∧ w' = w.alloc (.cells #[.int .i64 (x.1 : Int), .string x.2] 78) := by
  have HO := Lib.hid (of_any x n w)
  go_enter Try.func56, Try.ntmps56
  go_wp2_with (go_at_call 54; refine (HO.out).mono ?_; rintro e w1 ⟨rfl, rfl⟩)
  go_ret
  exact ⟨rfl, rfl⟩

/-- The first event of a sector, or -1. -/
def firstOf (ws : List Ev) (n : Int) : Int := match ws.findIdx? (fun x => (x.1 : Int) == n) with
  | some k => (k : Int)
  | none => -1

set_option maxRecDepth 100000 in
theorem firstOf_none (ws : List Ev) (n : Int) (h : ∀ (j : Nat) x, ws[j]? = some x → ((x.1 : Int) == n) = false) : firstOf ws n = -1 := by
  unfold firstOf
  have : ws.findIdx? (fun x => (x.1 : Int) == n) = none := by
    rw [List.findIdx?_eq_none_iff]
    intro x hx
    obtain ⟨j, hj, e⟩ := List.getElem_of_mem hx
    exact h j x (by rw [List.getElem?_eq_getElem hj, e])
  rw [this]
set_option maxRecDepth 100000 in
theorem firstOf_some (ws : List Ev) (n : Int) (k : Nat) (x : Ev) (hx : ws[k]? = some x) (hxn : ((x.1 : Int) == n) = true) (h : ∀ j y, j < k → ws[j]? = some y → ((y.1 : Int) == n) = false) : firstOf ws n = (k : Int) := by
  unfold firstOf
  obtain ⟨hk, e⟩ := List.getElem?_eq_some_iff.1 hx
  have : ws.findIdx? (fun x => (x.1 : Int) == n) = some k := by
    rw [List.findIdx?_eq_some_iff_getElem]
    refine ⟨hk, by rw [e]; exact hxn, fun j hj => ?_⟩
    have := h j (ws[j]'(by omega)) hj (List.getElem?_eq_getElem (by omega))
    simp [this]
  rw [this]

set_option maxRecDepth 100000 in
set_option maxHeartbeats 4000000 in
theorem index_any (ws : List Ev) (n : Int) (b c : Nat) (A : Option Addr) (w : World) (hl : ws.length ≤ 1000000) (h : w.cell? ⟨b, 0, none⟩ = some (.int .i64 n)) (hr : ∀ (j : Nat) x, ws[j]? = some x → ∃ ad, A = some ad ∧ w.cell? (ad.add j) = some (ev x)) :
    Calls Try.prog 67 #[.slice A ws.length c, .func (.func 56) #[] #[.pointer (some ⟨b, 0, none⟩)]] w fun e w' => e = .returned (.int .i64 (firstOf ws n)) ∧ Fr fresh w w' := by
  have HR := Lib.hid hr
  clear hr
  go_enter Try.func67, Try.ntmps67
  go_wp2
  go_loopg [8] ws.length (fun q v8 wx => ∃ k : Nat, k + q = ws.length ∧ v8 = .int .i64 (k : Int) ∧ Aside ((∀ j x, j < k → ws[j]? = some x → ((x.1 : Int) == n) = false) ∧ Fr fresh w wx))
  case atStart => exact ⟨0, by omega, rfl, fun j x hj => by omega, Fr.refl _ _⟩
  case round =>
    obtain ⟨k, hkq, rfl, HI⟩ := hrel
    cases gk with
    | zero =>
      obtain rfl : k = ws.length := by omega
      have hf := firstOf_none ws n (fun j x hj => HI.out.1 j x (List.getElem?_eq_some_iff.1 hj).1 hj)
      go_wp2
      go_ret
      exact ⟨by rw [hf]; rfl, HI.out.2⟩
    | succ q =>
      have hm : k < ws.length := by omega
      have hmi : (k : Int) < (ws.length : Int) := by omega
      obtain ⟨x, hx⟩ : ∃ x, ws[k]? = some x := ⟨_, List.getElem?_eq_getElem hm⟩
      obtain ⟨ad, rfl, e1⟩ := HR.out k x hx
      have e1' := Fr.cell HI.out.2 e1 (fun h => h)
      have hb' := Fr.cell HI.out.2 h (fun h => h)
      have HD := Lib.hid (del_any x n b wr hb')
      have HX := Lib.hid hx
      clear e1 hx hb'
      cases hxn : ((x.1 : Int) == n) with
      | true =>
        rw [hxn] at HD
        go_wp2_with (go_at_call 56; refine (HD.out).mono ?_; rintro e w1 ⟨rfl, rfl⟩)
        go_ret
        have hf := firstOf_some ws n k x HX.out hxn HI.out.1
        exact ⟨by rw [hf]; rfl, HI.out.2.alloc _⟩
      | false =>
        rw [hxn] at HD
        go_wp2_with (go_at_call 56; refine (HD.out).mono ?_; rintro e w1 ⟨rfl, rfl⟩)
        go_roundg q
        case measure => omega
        case rel =>
          refine ⟨k + 1, by omega, by go_num, fun j y hj hy => ?_, HI.out.2.alloc _⟩
          by_cases e : j = k
          · subst e
            rw [HX.out] at hy
            obtain rfl := Option.some.inj hy
            exact hxn
          · exact HI.out.1 j y (by omega) hy

/-! DeleteFunc: in place. -/

/-- What stays. -/
def stay (ws : List Ev) (n : Int) : List Ev := ws.filter fun x => !((x.1 : Int) == n)

/-- The row in the loop: i are kept of the first j. -/
structure DelW (w : World) (gw : Nat) (ws : List Ev) (n : Int) (cap : Nat) (i j : Nat) (wx : World) : Prop where
  row : ∃ xs : List Ev, wx.ownsRow 0 76 1 (.slice (some ⟨gw, 0, none⟩) ws.length cap) ws.length (xs.map ev) ∧ xs.length = ws.length ∧ xs.take i = stay (ws.take j) n ∧ xs.drop j = ws.drop j
  fr : Fr (fun k => k = gw) w wx
  le : i < j
  ij : i = (stay (ws.take j) n).length

set_option maxRecDepth 100000 in
theorem firstOf_spec (ws : List Ev) (n : Int) (k : Nat) (h : firstOf ws n = (k : Int)) : ∃ x, ws[k]? = some x ∧ ((x.1 : Int) == n) = true ∧ ∀ j y, j < k → ws[j]? = some y → ((y.1 : Int) == n) = false := by
  unfold firstOf at h
  split at h
  · rename_i k' hk'
    obtain rfl : k' = k := by omega
    rw [List.findIdx?_eq_some_iff_getElem] at hk'
    obtain ⟨hl, hm, hb⟩ := hk'
    refine ⟨ws[k'], List.getElem?_eq_getElem hl, hm, fun j y hj hy => ?_⟩
    obtain ⟨hjl, rfl⟩ := List.getElem?_eq_some_iff.1 hy
    have := hb j hj
    simpa using this
  · omega
set_option maxRecDepth 100000 in
theorem stay_take (ws : List Ev) (n : Int) (j : Nat) (x : Ev) (hx : ws[j]? = some x) : stay (ws.take (j + 1)) n = stay (ws.take j) n ++ (if ((x.1 : Int) == n) = true then [] else [x]) := by
  unfold stay
  rw [List.take_add_one, hx, List.filter_append]
  cases hm : ((x.1 : Int) == n) <;> simp [hm]
set_option maxRecDepth 100000 in
theorem stay_all (ws : List Ev) (n : Int) (k : Nat) (h : ∀ j y, j < k → ws[j]? = some y → ((y.1 : Int) == n) = false) : stay (ws.take k) n = ws.take k := by
  unfold stay
  rw [List.filter_eq_self]
  intro y hy
  obtain ⟨j, hj, e⟩ := List.getElem_of_mem hy
  rw [List.length_take] at hj
  rw [List.getElem_take] at e
  have := h j y (by omega) (by rw [List.getElem?_eq_getElem (by omega), e])
  simp [this]

section
variable {w wx : World} {gw : Nat} {ws : List Ev} {n : Int} {cap i j : Nat}
set_option maxRecDepth 100000 in
theorem DelW.first (hown : w.ownsRow 0 76 1 (.slice (some ⟨gw, 0, none⟩) ws.length cap) ws.length (ws.map ev)) (hf : firstOf ws n = (i : Int)) {w1 : World} (hf1 : Fr fresh w w1) : DelW w gw ws n cap i (i + 1) w1 := by
  obtain ⟨x, hx, hm, hb⟩ := firstOf_spec ws n i hf
  have hst : stay (ws.take (i + 1)) n = ws.take i := by
    rw [stay_take ws n i x hx, if_pos hm, List.append_nil, stay_all ws n i hb]
  have hil := (List.getElem?_eq_some_iff.1 hx).1
  exact ⟨⟨ws, owns_move hown (fun k hk => hf1.same k (hown.lt k hk).2 (fun h => h)), rfl, hst.symm, rfl⟩, hf1.mono (fun _ _ h => h.elim), by omega, by rw [hst, List.length_take]; omega⟩
set_option maxRecDepth 100000 in
theorem DelW.alloc (h : DelW w gw ws n cap i j wx) (o : Obj) : DelW w gw ws n cap i j (wx.alloc o) := by
  obtain ⟨⟨xs, hr, a, b, c⟩, d, e, f⟩ := h
  exact ⟨⟨xs, hr.alloc o, a, b, c⟩, d.alloc o, e, f⟩
set_option maxRecDepth 100000 in
theorem DelW.skip (h : DelW w gw ws n cap i j wx) {x : Ev} (hx : ws[j]? = some x) (hm : ((x.1 : Int) == n) = true) : DelW w gw ws n cap i (j + 1) wx := by
  obtain ⟨⟨xs, hr, a, b, c⟩, d, e, f⟩ := h
  have hst : stay (ws.take (j + 1)) n = stay (ws.take j) n := by rw [stay_take ws n j x hx, if_pos hm, List.append_nil]
  refine ⟨⟨xs, hr, a, by rw [b, hst], ?_⟩, d, by omega, by rw [hst]; exact f⟩
  have := congrArg (List.drop 1) c
  simpa [List.drop_drop, Nat.add_comm] using this
set_option maxRecDepth 100000 in
theorem DelW.put (h : DelW w gw ws n cap i j wx) {x : Ev} (hx : ws[j]? = some x) (hm : ((x.1 : Int) == n) = false) : DelW w gw ws n cap (i + 1) (j + 1) (wx.setCell ⟨gw, i, none⟩ (ev x)) := by
  obtain ⟨⟨xs, hr, a, b, c⟩, d, e, f⟩ := h
  have hjl := (List.getElem?_eq_some_iff.1 hx).1
  have hst : stay (ws.take (j + 1)) n = stay (ws.take j) n ++ [x] := by rw [stay_take ws n j x hx, if_neg (by rw [hm]; decide)]
  refine ⟨⟨xs.set i x, by rw [List.map_set]; exact (hr.stored i (ev x)).1, by simpa using a, ?_, ?_⟩, d.setCell (p := ⟨gw, i, none⟩) (.inl rfl) _, by omega, by rw [hst, List.length_append, ← f]; rfl⟩
  · rw [hst, ← b, List.take_add_one, List.getElem?_set_self (by omega), List.take_set_of_le (Nat.le_refl _)]
    rfl
  · rw [List.drop_set_of_lt (by omega)]
    have := congrArg (List.drop 1) c
    simpa [List.drop_drop, Nat.add_comm] using this
set_option maxRecDepth 100000 in
theorem DelW.reads (h : DelW w gw ws n cap i j wx) {x : Ev} (hx : ws[j]? = some x) : wx.cell? ⟨gw, j, none⟩ = some (ev x) := by
  obtain ⟨⟨xs, hr, a, b, c⟩, d, e, f⟩ := h
  have hjl := (List.getElem?_eq_some_iff.1 hx).1
  rw [hr.cellAt j (by omega), List.getElem?_map]
  have : xs[j]? = some x := by
    have := congrArg (fun l => l[0]?) c
    simpa [List.getElem?_drop, hx] using this
  rw [this]
  rfl
set_option maxRecDepth 100000 in
theorem DelW.caps (h : DelW w gw ws n cap i j wx) : ws.length ≤ cap := by
  obtain ⟨⟨xs, hr, a, b, c⟩, d, e, f⟩ := h
  rcases owns_form hr with ⟨e, _⟩ | ⟨g', c', e, _, _, h1, _⟩
  · simp at e
  · simp at e; omega
set_option maxRecDepth 100000 in
theorem DelW.there (h : DelW w gw ws n cap i j wx) (hi : i < ws.length) : (wx.cell? ⟨gw, i, none⟩).isSome = true ∧ wx.frozen? ⟨gw, i, none⟩ = false := by
  obtain ⟨⟨xs, hr, a, b, c⟩, d, e, f⟩ := h
  refine ⟨?_, hr.frozenAt i⟩
  rw [hr.cellAt i (by omega), List.getElem?_map, List.getElem?_eq_getElem (by omega)]
  rfl
end

set_option maxRecDepth 100000 in
theorem zero_event (w : World) : (zeroValue 76).run Try.prog w = .ok .nilIface w := by
  obtain ⟨i0, hi, hz0, hz1, hz2⟩ := info_parts evInfo
  simp [zeroValue, typeInfo, hi, hz0]

/-- The tail cleared. -/
theorem DelW.clears {w wx : World} {gw : Nat} {ws : List Ev} {n : Int} {cap i j : Nat} (h : DelW w gw ws n cap i j wx) (hj : j = ws.length) : ∃ w', (Builtin.clear_ #[70] 0 #[.slice (some ⟨gw, i, none⟩) (ws.length - i) (cap - i)]).run Try.prog wx = .ok (.tuple #[]) w' ∧
    Fr (fun k => k = gw) w w' ∧ w'.ownsRow 0 76 1 (.slice (some ⟨gw, 0, none⟩) i cap) i ((stay ws n).map ev) := by
  subst hj
  obtain ⟨⟨xs, hr, a, b, c⟩, d, e, f⟩ := h
  rw [List.take_of_length_le (Nat.le_refl _)] at b f
  rcases hr.2 with ⟨e', _⟩ | ⟨g', c', cur, e', hg', hh, hn, hm, hs, ht⟩
  · simp at e'
  · simp only [Value.slice.injEq, Option.some.injEq, Addr.mk.injEq, and_true, true_and] at e'
    obtain ⟨rfl, rfl⟩ := e'
    obtain ⟨q, hq⟩ : ∃ q, ws.length - i = q + 1 := ⟨ws.length - i - 1, by omega⟩
    have hzc : (Builtin.zeroCells Value.nilIface.cells (q + 1)).toList = List.replicate (q + 1) .nilIface := by
      simp [Builtin.zeroCells, Value.cells]
      apply List.ext_getElem
      · simp
      · intro i h1 h2
        simp [Nat.mod_one]
    have hzero := zero_event wx
    have hst := run_storeCells_at Try.prog gw i 76 (List.replicate (q + 1) .nilIface) 0 cur wx hh (by simp; omega) (by intro v hv; rw [List.eq_of_mem_replicate hv]; rfl)
    simp only [Nat.add_zero, List.length_replicate] at hst
    refine ⟨wx.setRow gw (cur.toList.take i ++ List.replicate (q + 1) Value.nilIface ++ cur.toList.drop (i + (q + 1))).toArray, ?_, ⟨d.os, d.tape, d.output, by simpa using d.size, fun k hk hne => (setRow_other wx gw k _ (fun e => hne e)).trans (d.same k hk hne)⟩, by simp; omega, .inr ⟨gw, cap, _, rfl, hg', setRow_heap wx gw cur _ _ _ hh, by omega, hm, ?_, ?_⟩⟩
    · rw [hq]
      simp [Builtin.clear_, run_underlying Try.underlying70, hzero, hzc, hst]
    · simp at hs ⊢
      omega
    · have h2 : cur.toList.take i = (stay ws n).map ev := by
        have := congrArg (List.take i) ht
        rw [List.take_take, ← List.map_take, b] at this
        rw [← this]
        exact congrArg (fun q => List.take q _) (by omega)
      simp only [Nat.mul_one]
      rw [List.append_assoc, List.take_append_of_le_length (by simp; omega), List.take_take, Nat.min_self, h2]

set_option maxRecDepth 100000 in
set_option maxHeartbeats 4000000 in
theorem delete_none (ws : List Ev) (n : Int) (b c : Nat) (A : Option Addr) (w : World) (hl : ws.length ≤ 1000000) (h : w.cell? ⟨b, 0, none⟩ = some (.int .i64 n)) (hr : ∀ (j : Nat) x, ws[j]? = some x → ∃ ad, A = some ad ∧ w.cell? (ad.add j) = some (ev x)) (hf : firstOf ws n = -1) :
    Calls Try.prog 55 #[.slice A ws.length c, .func (.func 56) #[] #[.pointer (some ⟨b, 0, none⟩)]] w fun e w' => e = .returned (.slice A ws.length c) ∧ Fr fresh w w' := by
  have hi := index_any ws n b c A w hl h hr
  rw [hf] at hi
  have HI := Lib.hid hi
  clear hi hr
  go_enter Try.func55, Try.ntmps55
  go_wp2_with (go_at_call 67; refine (HI.out).mono ?_; rintro e w1 ⟨rfl, hf1⟩)
  go_ret
  exact ⟨rfl, hf1⟩

set_option maxRecDepth 100000 in
set_option maxHeartbeats 4000000 in
theorem delete_some (ws : List Ev) (n : Int) (b gw cap k0 : Nat) (w : World) (hl : ws.length ≤ 1000000) (h : w.cell? ⟨b, 0, none⟩ = some (.int .i64 n)) (hbg : b ≠ gw) (hown : w.ownsRow 0 76 1 (.slice (some ⟨gw, 0, none⟩) ws.length cap) ws.length (ws.map ev)) (hf : firstOf ws n = (k0 : Int)) (hk0 : k0 < ws.length) :
    Calls Try.prog 55 #[.slice (some ⟨gw, 0, none⟩) ws.length cap, .func (.func 56) #[] #[.pointer (some ⟨b, 0, none⟩)]] w fun e w' => ∃ l, e = .returned (.slice (some ⟨gw, 0, none⟩) l cap) ∧ Fr (fun k => k = gw) w w' ∧ w'.ownsRow 0 76 1 (.slice (some ⟨gw, 0, none⟩) l cap) l ((stay ws n).map ev) := by
  have hi := index_any ws n b cap (some ⟨gw, 0, none⟩) w hl h (fun j x hj => ⟨_, rfl, hown.cells rfl j (ev x) (by rw [List.getElem?_map, hj]; rfl)⟩)
  rw [hf] at hi
  have HI := Lib.hid hi
  clear hi
  have hk1 : ¬ (k0 : Int) = -1 := by omega
  go_enter Try.func55, Try.ntmps55
  go_wp2_with (go_at_call 67; refine (HI.out).mono ?_; rintro e w1 ⟨rfl, hf1⟩)
  have HW := Lib.hid (DelW.first hown hf hf1)
  have HB := Lib.hid h
  clear h hown hf hf1 HI
  go_loopg [5, 6] ws.length (fun q v5 v6 wx => ∃ i j : Nat, j ≤ ws.length ∧ ws.length ≤ j + q ∧ v5 = .int .i64 (i : Int) ∧ v6 = .int .i64 (j : Int) ∧ Aside (DelW w gw ws n cap i j wx))
  case atStart => exact ⟨k0, k0 + 1, by omega, by omega, rfl, by go_num, HW.out⟩
  case round =>
    obtain ⟨i, j, hj1, hjq, rfl, rfl, HI⟩ := hrel
    have hij := HI.out.le
    by_cases hjl : j = ws.length
    · obtain ⟨w3, hc, hf3, hr3⟩ := HI.out.clears hjl
      have H3 := Lib.hid (And.intro hf3 hr3)
      have hcap := HI.out.caps
      clear hf3 hr3
      have hjl' : ¬ (j : Int) < (ws.length : Int) := by omega
      have hil : (i : Int) ≤ (ws.length : Int) := by omega
      have hic : (i : Int) ≤ (cap : Int) := by omega
      have hne : ¬ cap = i := by omega
      have hi0 : 0 ≤ (i : Int) := by omega
      go_wp2
      go_ret
      exact ⟨i, rfl, H3.out.1, H3.out.2⟩
    · obtain ⟨q, rfl⟩ : ∃ q, gk = q + 1 := ⟨gk - 1, by omega⟩
      have hjl' : (j : Int) < (ws.length : Int) := by omega
      have hil : (i : Int) < (ws.length : Int) := by omega
      obtain ⟨x, hx⟩ : ∃ x, ws[j]? = some x := ⟨_, List.getElem?_eq_getElem (by omega)⟩
      have e1 := HI.out.reads hx
      have hb' := HI.out.fr.cell HB.out hbg
      have HD := Lib.hid (del_any x n b wr hb')
      cases hxn : ((x.1 : Int) == n) with
      | true =>
        rw [hxn] at HD
        have HK := Lib.hid ((HI.out.skip hx hxn).alloc (.cells #[.int .i64 (x.1 : Int), .string x.2] 78))
        clear hx hb'
        go_wp2_with (go_at_call 56; refine (HD.out).mono ?_; rintro e w1 ⟨rfl, rfl⟩)
        go_roundg q
        case measure => omega
        case rel => exact ⟨i, j + 1, by omega, by omega, rfl, by go_num, HK.out⟩
      | false =>
        rw [hxn] at HD
        have HK := Lib.hid ((HI.out.alloc (.cells #[.int .i64 (x.1 : Int), .string x.2] 78)).put hx hxn)
        obtain ⟨hs1, hz1⟩ := (HI.out.alloc (.cells #[.int .i64 (x.1 : Int), .string x.2] 78)).there (by omega)
        obtain ⟨u, hu⟩ := Option.isSome_iff_exists.1 hs1
        clear hx hb' hs1
        unfold ev at HK
        unfold ev at e1
        unfold ev at HD
        go_wp2_with (go_at_call 56; refine (HD.out).mono ?_; rintro e w1 ⟨rfl, rfl⟩)
        go_roundg q
        case measure => omega
        case rel => exact ⟨i + 1, j + 1, by omega, by omega, by go_num, by go_num, HK.out⟩

set_option maxRecDepth 100000 in
theorem stay_none (ws : List Ev) (n : Int) (h : firstOf ws n = -1) : stay ws n = ws := by
  unfold stay
  rw [List.filter_eq_self]
  intro x hx
  unfold firstOf at h
  split at h
  · omega
  · rename_i hn
    rw [List.findIdx?_eq_none_iff] at hn
    have := hn x hx
    simpa using this
set_option maxRecDepth 100000 in
theorem firstOf_range (ws : List Ev) (n : Int) : firstOf ws n = -1 ∨ ∃ k : Nat, firstOf ws n = (k : Int) ∧ k < ws.length := by
  unfold firstOf
  split
  · rename_i k hk
    rw [List.findIdx?_eq_some_iff_getElem] at hk
    obtain ⟨hl, _⟩ := hk
    exact .inr ⟨k, rfl, hl⟩
  · exact .inl rfl

/-- DeleteFunc, of what waits for a disk. -/
theorem delete_disk {w : World} {g s : Nat} {wv : Value} {m : Dsk} (h : IsDisk w g s wv m) (hmany : m.wait.length ≤ 1000000) (n : Int) (b : Nat) (hb : w.cell? ⟨b, 0, none⟩ = some (.int .i64 n)) (hbf : ¬ foot g s wv b) (A : Option Addr) (c : Nat) (hwv : wv = .slice A m.wait.length c) :
    Calls Try.prog 55 #[.slice A m.wait.length c, .func (.func 56) #[] #[.pointer (some ⟨b, 0, none⟩)]] w fun e w' => ∃ A' l c', e = .returned (.slice A' l c') ∧ Fr (fun k => wv.ownBlock = some k) w w' ∧
      w'.ownsRow 0 76 1 (.slice A' l c') (stay m.wait n).length ((stay m.wait n).map ev) ∧ ∀ k, (Value.slice A' l c').ownBlock = some k → wv.ownBlock = some k := by
  have hwait := h.wait
  rcases firstOf_range m.wait n with hf | ⟨k0, hf, hk0⟩
  · obtain ⟨W, cw, hwv', -, hW⟩ := h.waits
    rw [hwv] at hwv'
    simp only [Value.slice.injEq, true_and] at hwv'
    obtain ⟨rfl, rfl⟩ := hwv'
    refine (delete_none m.wait n b c A w hmany hb (fun j x hj => by obtain ⟨ad, e, hc, -⟩ := hW w m h rfl j x hj; exact ⟨ad, e, hc⟩) hf).mono ?_
    rintro e w' ⟨he, hfr⟩
    refine ⟨A, _, c, he, hfr.mono (fun _ _ h => h.elim), ?_, fun k hk => by rw [hwv]; exact hk⟩
    rw [stay_none m.wait n hf, ← hwv]
    exact owns_move hwait (fun k hk => hfr.same k (hwait.lt k hk).2 (fun h => h))
  · rcases owns_form hwait with ⟨e, h0⟩ | ⟨gw, cw, e, -, -, -, -⟩
    · omega
    · have e2 := e
      rw [hwv] at e2
      simp only [Value.slice.injEq, true_and] at e2
      obtain ⟨rfl, rfl⟩ := e2
      rw [e] at hwait
      have hbg : b ≠ gw := fun hh => hbf (.inr (.inr (by rw [e, hh]; rfl)))
      refine (delete_some m.wait n b gw c k0 w hmany hb hbg hwait hf hk0).mono ?_
      rintro e' w' ⟨l, he, hfr, hown⟩
      have hl : l = (stay m.wait n).length := by have := hown.1; simpa using this.symm
      refine ⟨_, l, c, he, hfr.mono (fun k _ hk => by rw [e, hk]; rfl), by rw [← hl]; exact hown, fun k hk => by rw [e]; simpa [Value.ownBlock] using hk⟩

set_option maxRecDepth 100000 in
theorem frozen_of_disk {w : World} {g s : Nat} {wv : Value} {m : Dsk} (h : IsDisk w g s wv m) (j : Nat) : w.frozen? ⟨g, j, none⟩ = false := by
  obtain ⟨cap, -, -, -, -, -, cf, -, -⟩ := h.reads
  exact cf j

/-- Corrupt. -/
def corrupted (m : Dsk) (n : Int) (x : ByteArray) : Dsk := if checkE m n x.size = 0 then { m with wait := stay m.wait n, sec := m.sec.set n.toNat x } else m

set_option maxRecDepth 100000 in
set_option maxHeartbeats 1000000 in
theorem corrupt_not {w : World} {g : Nat} {n : Int} {x : ByteArray} (z : Int) (hz : z ≠ 0)
    (h : Calls Try.prog 51 #[.pointer (some ⟨g, 0, none⟩), .int .i64 n, .string x] (w.alloc (.cells #[.int .i64 n] 3)) fun e w' => e = .returned (.int .i64 z) ∧ w.alloc (.cells #[.int .i64 n] 3) = w') :
    Calls Try.prog 39 #[.pointer (some ⟨g, 0, none⟩), .int .i64 n, .string x] w fun e w' => e = .returned (.int .i64 z) ∧ Fr fresh w w' := by
  have HK := Lib.hid h
  clear h
  go_enter Try.func39, Try.ntmps39
  go_wp2_with (go_at_call 51; refine (HK.out).mono ?_; rintro e w1 ⟨rfl, rfl⟩)
  go_ret
  exact ⟨rfl, (Fr.refl _ w).alloc _⟩

set_option maxRecDepth 100000 in
set_option maxHeartbeats 4000000 in
theorem corrupt_yes {w : World} {g s : Nat} {wv : Value} {m : Dsk} (h : IsDisk w g s wv m) (n : Nat) (x : ByteArray) (hgone : m.gone = false) (hn : n < m.sec.length) (hx : x.size ≤ m.size) (hmany : m.wait.length ≤ 1000000) :
    Calls Try.prog 39 #[.pointer (some ⟨g, 0, none⟩), .int .i64 (n : Int), .string x] w fun e w' => e = .returned (.int .i64 0) ∧
      Step w w' (foot g s wv) (D g { m with wait := stay m.wait n, sec := m.sec.set n x } w') := by
  have h1 := h.alloc (.cells #[.int .i64 (n : Int)] 3)
  have hk := check_any h1 n x
  have he : checkE m n x.size = 0 := by
    unfold checkE
    rw [if_neg (by rw [hgone]; decide), if_neg (by omega), if_neg (by omega)]
  rw [he] at hk
  have HK := Lib.hid hk
  have hb := cell_of_row _ w.heap.size 0 _ _ _ (heap_alloc_new w (.cells #[.int .i64 (n : Int)] 3))
  simp only [List.getElem?_toArray, List.getElem?_cons_zero] at hb
  have hbf : ¬ foot g s wv w.heap.size := fun hh => by have := h.lt _ hh; omega
  obtain ⟨W, cw, hwv, hlen, -⟩ := h.waits
  have HDL := Lib.hid (delete_disk h1 hmany n w.heap.size hb hbf W cw hwv)
  have HB := Lib.hid hb
  obtain ⟨cap, hcap, -, -, c2, -, cf, -, -⟩ := h1.reads
  rw [hwv] at c2
  have H := Lib.hid h
  have H1 := Lib.hid h1
  have HV := Lib.hid hwv
  clear h h1 hk he hb hwv cf
  go_enter Try.func39, Try.ntmps39
  go_wp2_with (first | (go_at_call 51; refine (HK.out).mono ?_; rintro e w1 ⟨rfl, rfl⟩))
  refine HDL.out.mono ?_
  rintro e w2 ⟨A', l, c', rfl, hf2, hr2, hk2⟩
  have hg1 := H1.out.lt g (foot_g _ _ _)
  have hs1 := H1.out.lt s (foot_s _ _ _)
  have bg := hf2.same g hg1 (fun hh => H1.out.gw hh)
  have bs := hf2.same s hs1 (fun hh => H1.out.sw hh)
  have hbn : ¬ wv.ownBlock = some w.heap.size := fun hh => hbf (.inr (.inr hh))
  have hbox := hf2.cell HB.out hbn
  have hfin := H1.out.setWait' bg bs (.slice A' l c') (stay m.wait n) hr2 (fun y hy => H.out.ok y (List.mem_filter.1 hy).1)
  have c2' := (World.cell?_of_block (a := ⟨g, 2, none⟩) bg).trans c2
  have f2' := (World.frozen?_of_block (a := ⟨g, 2, none⟩) bg).trans (frozen_of_disk H1.out 2)
  have hbox' : (w2.setCell ⟨g, 2, none⟩ (.slice A' l c')).drew.cell? ⟨w.heap.size, 0, none⟩ = some (.int .i64 (n : Int)) := (World.cell?_setCell_other _ _ _ _ (by simp)).trans hbox
  obtain ⟨cap', hcap', c0, -, -, -, -, cs, cz⟩ := hfin.drew.reads
  have cn := cs n m.sec[n] (List.getElem?_eq_getElem hn)
  have zn := cz n
  have hni : (n : Int) < (m.sec.length : Int) := by omega
  have HF := Lib.hid (And.intro hfin (And.intro hf2 hk2))
  clear cs cz hfin hf2 hk2 bg bs hr2 hbox
  go_wp2_with fail
  go_still_tail 7, (by kernel_rfl)
  first
    | (change wpStill _ _ (w2.setCell ⟨g, 2, none⟩ (.slice A' l c')).drew _ _ _
       repeat still_step
       refine wpStill_nil ?_)
    | skip
  change wpList _ _ _ _ _ (w2.setCell _ _).drew
  go_wp2
  go_ret
  refine ⟨rfl, foot g s (.slice A' l c'), ⟨s, .slice A' l c', (HF.out.1.setSec n x).drew, rfl⟩, ((((((Fr.refl (foot g s wv) w).alloc _).then (HF.out.2.1.mono (fun k _ hk => .inr (.inr hk))) (fun _ _ h => h)).setCell (p := ⟨g, 2, none⟩) (.inl (foot_g _ _ _)) _).setCell (p := ⟨s, n, none⟩) (.inl (foot_s _ _ _)) _).drew), ?_⟩
  rintro k (rfl | rfl | hk)
  · exact .inl (foot_g _ _ _)
  · exact .inl (foot_s _ _ _)
  · exact .inl (.inr (.inr (HF.out.2.2 k hk)))

set_option maxRecDepth 100000 in
theorem corrupt_at {w : World} {g : Nat} {m : Dsk} (n : Int) (x : ByteArray) (hmany : m.wait.length ≤ 1000000) (S : Nat → Prop) (h : D g m w S) :
    Calls Try.prog 39 #[.pointer (some ⟨g, 0, none⟩), .int .i64 n, .string x] w fun e w' => e = .returned (.int .i64 (checkE m n x.size)) ∧ Step w w' S (D g (corrupted m n x) w') := by
  unfold corrupted
  by_cases he : checkE m n x.size = 0
  · obtain ⟨h1, h2, h3, h4⟩ := checkE_zero he
    rw [if_pos he, he]
    obtain ⟨s, wv, h, rfl⟩ := h
    obtain ⟨k, rfl⟩ := Int.eq_ofNat_of_zero_le h2
    exact corrupt_yes h k x h1 (by omega) h4 hmany
  · rw [if_neg he]
    have hk := check_at (At.alloc h (.cells #[.int .i64 n] 3)) n x
    refine (corrupt_not _ he hk).mono ?_
    rintro e w' ⟨he', hf⟩
    exact ⟨he', Step.same (D.res g m) h hf⟩

end Go.Proofs.Ytpmhjagmgjolmaa.Dk
