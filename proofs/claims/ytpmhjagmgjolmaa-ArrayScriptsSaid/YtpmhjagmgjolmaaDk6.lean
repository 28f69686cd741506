/- The walks of of, slices.Backward and Read, of layer 9. -/
import Derived.Test.YtpmhjagmgjolmaaDk5
import Derived.RangeFuncCalls
import Derived.RegionIn
import Derived.RangeFuncBox
import Derived.RangeFuncLeaves
import Derived.Shelf.Abstract
import Derived.OwnWalkIn
import Derived.TacticsInMore
import Derived.LoopNIn
import Derived.LoopIn
namespace Go.Proofs.Ytpmhjagmgjolmaa.Dk
open Go.RowKit Go.Shelf

theorem assert_ok (v : Value) (w : World) : (Instr.typeAssert (.iface 78 v) 76 78 true).run Try.prog w = .ok (.tuple #[v, .bool true]) w := by kernel_rfl
theorem assert_as (v : Value) (w : World) : (Instr.typeAssert (.iface 78 v) 76 78 false).run Try.prog w = .ok v w := by kernel_rfl

theorem field_text (a b : Value) (w : World) : (Instr.field 78 (.agg #[a, b]) 1).run Try.prog w = .ok b w := by kernel_rfl

set_option maxRecDepth 100000 in
set_option maxHeartbeats 1000000 in
theorem of_any (x : Nat × ByteArray) (n : Int) (w : World) : Calls Try.prog 54 #[ev x, .int .i64 n] w fun e w' => e = .returned (.bool ((x.1 : Int) == n)) ∧ w' = w.alloc (.cells #[.int .i64 (x.1 : Int), .string x.2] 78) := by
  unfold ev
  have hta := assert_ok (.agg #[.int .i64 (x.1 : Int), .string x.2]) w
  go_enter Try.func54, Try.ntmps54
  go_wp2
  go_ret
  exact ⟨rfl, rfl⟩

/-! slices.Backward: its law, as the kit's own text of slices.All has it (turned to this program). -/

abbrev Ev := Nat × ByteArray
def noEv : Ev := (0, ByteArray.empty)

def upto {α : Type} (f : Nat → α) (k : Nat) : List α := (List.range k).map f
theorem upto_succ {α : Type} (f : Nat → α) (k : Nat) : upto f (k + 1) = upto f k ++ [f k] := by simp [upto, List.range_succ]
theorem upto_length {α : Type} (f : Nat → α) (k : Nat) : (upto f k).length = k := by simp [upto]

/-- What comes as the k-th: from the last on. -/
def nth (ws : List Ev) (k : Nat) : Nat × Ev := (ws.length - 1 - k, ws.getD (ws.length - 1 - k) noEv)

attribute [local go_sem] Oper.semAt_some

set_option maxRecDepth 100000 in
set_option maxHeartbeats 2000000 in
theorem back1_in (F : Fence) (n : Nat) (h8 : F.fn 66) (hro : F.round = none) (hn : 1 ≤ n) (l Bs n₀ b cap : Nat) (ws : List Ev) (hreach : ws.length ≤ 9223372036854775807) (hb : b < n₀) (hBn : Bs < n₀) (J Jx : List (Nat × Ev) → World → Prop)
    (hY : ∀ pre x W, J pre W → pre.length < ws.length → YieldAt F (n - 1) Try.prog l #[.int .i64 (x.1 : Int), ev x.2] W fun e W' =>
      (e = .returned (.bool true) ∧ J (pre ++ [x]) W' ∧ Below n₀ W W') ∨ (e = .returned (.bool false) ∧ Jx (pre ++ [x]) W'))
    (W : World) (hBs : W.cell? ⟨Bs, 0, none⟩ = some (.slice (some ⟨b, 0, none⟩) ws.length cap)) (hc : ∀ j, j < ws.length → W.cell? ⟨b, j, none⟩ = some (ev (ws.getD j noEv))) (h0 : J [] W) :
    CallsIn F n Try.prog 66 #[.func (.yield l) #[] #[], .pointer (some ⟨Bs, 0, none⟩)] W fun e W' => (∃ v, e = .returned v) ∧
      ((∃ ys, ys = upto (nth ws) ws.length ∧ J ys W') ∨ (∃ pre, (∃ k, k ≤ ws.length ∧ pre = upto (nth ws) k) ∧ Jx pre W')) := by
  refine callsIn_of_wp Try.func66 rfl h8 ?_ hro
  simp only [Try.ntmps66, List.size_toArray, List.length_cons, List.length_nil, Nat.reduceAdd, Nat.reduceSub, Array.replicate_succ, Array.replicate_zero, List.push_toArray, List.append_toArray, List.nil_append, List.cons_append]
  gi_wp2
  gi_loopw [3] (fun i wr => ∃ k : Nat, k ≤ ws.length ∧ i = .int .i64 (((ws.length - k : Nat) : Int) - 1) ∧ J (upto (nth ws) k) wr ∧ Below n₀ W wr)
    (fun i _ => (intOf i + 1).toNat)
  case atStart => exact ⟨0, Nat.zero_le _, rfl, h0, Below.refl _ _⟩
  case round =>
    obtain ⟨k, hk, rfl, hJs, hnx⟩ := hrel
    by_cases hlt : k < ws.length
    · obtain ⟨j, hj⟩ : ∃ j, ws.length - k = j + 1 := ⟨ws.length - k - 1, by omega⟩
      have hj1 : ((ws.length - k : Nat) : Int) - 1 = (j : Int) := by omega
      have hnth : nth ws k = (j, ws.getD j noEv) := by
        unfold nth
        rw [show ws.length - 1 - k = j by omega]
      have hjl : j < ws.length := by omega
      have hji : (j : Int) < (ws.length : Int) := by omega
      have hcx : wr.cell? ⟨b, j, none⟩ = some (ev (ws.getD j noEv)) := (hnx.cell (p := ⟨b, j, none⟩) hb).trans (hc j hjl)
      have hbx : wr.cell? ⟨Bs, 0, none⟩ = some (.slice (some ⟨b, 0, none⟩) ws.length cap) := (hnx.cell (p := ⟨Bs, 0, none⟩) hBn).trans hBs
      obtain ⟨fn, tmps, assign, body, hy, hR⟩ := hY _ (nth ws k) wr hJs (by rw [upto_length]; exact hlt)
      rw [hnth] at hy hR
      dsimp only at hy
      rw [hj1]
      generalize hev : ev (ws.getD j noEv) = xv at hcx hy
      gi_wp2
      refine hR.mono ?_
      rintro e W3 (⟨rfl, hJ3, hk3⟩ | ⟨rfl, hJx3⟩)
      · gi_wp2
        go_roundw
        case rel => exact ⟨k + 1, by omega, by rw [show ws.length - (k + 1) = j by omega], by rw [upto_succ, hnth]; exact hJ3, hnx.trans hk3⟩
        case measure => simp [intOf]
      · gi_wp2
        refine bodyPost_ret (results_none rfl _ _ _) rfl ?_
        exact ⟨⟨_, rfl⟩, .inr ⟨_, ⟨k + 1, by omega, (upto_succ _ _).symm⟩, by rw [hnth]; exact hJx3⟩⟩
    · obtain rfl : k = ws.length := by omega
      rw [Nat.sub_self]
      gi_wp2
      go_end0
      exact ⟨⟨_, rfl⟩, .inl ⟨_, rfl, hJs⟩⟩

set_option maxRecDepth 100000 in
set_option maxHeartbeats 1000000 in
theorem back1_nil_in (F : Fence) (n : Nat) (h8 : F.fn 66) (hro : F.round = none) (l Bs : Nat) (J : List (Nat × Ev) → World → Prop) (W : World) (hBs : W.cell? ⟨Bs, 0, none⟩ = some (.slice none 0 0)) (h0 : J [] W) :
    CallsIn F n Try.prog 66 #[.func (.yield l) #[] #[], .pointer (some ⟨Bs, 0, none⟩)] W fun e W' => (∃ v, e = .returned v) ∧ J [] W' := by
  refine callsIn_of_wp Try.func66 rfl h8 ?_ hro
  simp only [Try.ntmps66, List.size_toArray, List.length_cons, List.length_nil, Nat.reduceAdd, Nat.reduceSub, Array.replicate_succ, Array.replicate_zero, List.push_toArray, List.append_toArray, List.nil_append, List.cons_append]
  gi_wp2
  gi_loopw [3] (fun i wr => i = .int .i64 (-1) ∧ J [] wr) (fun _ _ => 0)
  case atStart => exact ⟨rfl, h0⟩
  case round =>
    obtain ⟨rfl, hJs⟩ := hrel
    gi_wp2
    go_end0
    exact ⟨⟨_, rfl⟩, hJs⟩

set_option maxRecDepth 100000 in
set_option maxHeartbeats 1000000 in
theorem backward_in (F : Fence) (n : Nat) (h6 : F.fn 53) (hro : F.round = none) (a : Option Addr) (len cap : Nat) (w : World) :
    CallsIn F n Try.prog 53 #[.slice a len cap] w fun e w' => e = .returned (.func (.func 66) #[] #[.pointer (some ⟨w.heap.size, 0, none⟩)]) ∧ w' = w.alloc (.cells #[.slice a len cap] 70) := by
  refine callsIn_of_wp Try.func53 rfl h6 ?_ hro
  simp only [Try.ntmps53, List.size_toArray, List.length_cons, List.length_nil, Nat.reduceAdd, Nat.reduceSub, Array.replicate_succ, Array.replicate_zero, List.push_toArray, List.append_toArray, List.nil_append, List.cons_append]
  gi_wp2
  go_ret
  exact ⟨rfl, rfl⟩

/-- A slice value that holds the events ws, in a block below n₀; or none. -/
def Evs (n₀ : Nat) (W : World) (sv : Value) (ws : List Ev) : Prop :=
  (sv = .slice none 0 0 ∧ ws = []) ∨ ∃ b cap, sv = .slice (some ⟨b, 0, none⟩) ws.length cap ∧ b < n₀ ∧ ∀ j, j < ws.length → W.cell? ⟨b, j, none⟩ = some (ev (ws.getD j noEv))
theorem Evs.below {n₀ : Nat} {A B : World} (h : Below n₀ A B) {sv : Value} {ws : List Ev} : Evs n₀ A sv ws → Evs n₀ B sv ws
  | .inl e => .inl e
  | .inr ⟨b, cap, e, hb, hc⟩ => .inr ⟨b, cap, e, hb, fun j hj => (h.cell (p := ⟨b, j, none⟩) hb).trans (hc j hj)⟩

theorem back_stops (F : Fence) (n : Nat) (h8 : F.fn 66) (hro : F.round = none) (hn : 1 ≤ n) (Bs n₀ : Nat) (sv : Value) (ws : List Ev) (hreach : ws.length ≤ 9223372036854775807) (w : World) (hBn : Bs < n₀) (hn₀ : n₀ ≤ w.heap.size)
    (hc : w.cell? ⟨Bs, 0, none⟩ = some sv) (hI : Evs n₀ w sv ws) :
    SeqStopsK F n Try.prog 66 #[.pointer (some ⟨Bs, 0, none⟩)] (fun x : Nat × Ev => #[Value.int .i64 (x.1 : Int), ev x.2]) (Below n₀) (fun ys => ys = upto (nth ws) ws.length)
      (fun pre => ∃ k, k ≤ ws.length ∧ pre = upto (nth ws) k) ws.length w := fun l J Jx W hW _ _ hY h0 => by
  have hc' := (hW.cell (p := ⟨Bs, 0, none⟩) (show Bs < w.heap.size by omega)).trans hc
  rcases hI.below (hW.mono hn₀) with ⟨rfl, rfl⟩ | ⟨b, cap, rfl, hb, hcs⟩
  · exact (back1_nil_in F n h8 hro l Bs J W hc' h0).mono fun e W' ⟨he, hj⟩ => ⟨he, .inl ⟨_, rfl, hj⟩⟩
  · exact back1_in F n h8 hro hn l Bs n₀ b cap ws hreach hb hBn J Jx hY W hc' hcs h0

/-! Read -/

/-- The last write that waits for a sector, else its text. -/
def latest (m : Dsk) (n : Nat) : ByteArray := match m.wait.reverse.find? (fun x => (x.1 : Int) == (n : Int)) with
  | some x => x.2
  | none => m.sec.getD n ByteArray.empty

theorem nth_rev (ws : List Ev) (k : Nat) (hk : k < ws.length) : ws.reverse[k]? = some (nth ws k).2 := by
  unfold nth
  rw [List.getElem?_reverse hk, List.getD_eq_getElem?_getD, List.getElem?_eq_getElem (by omega)]
  rfl

theorem latest_of (m : Dsk) (n k : Nat) (hk : k < m.wait.length) (h : ∀ p ∈ upto (nth m.wait) k, ((p.2.1 : Int) == (n : Int)) = false) (hl : (((nth m.wait k).2.1 : Int) == (n : Int)) = true) : latest m n = (nth m.wait k).2.2 := by
  unfold latest
  have hf : m.wait.reverse.find? (fun x => (x.1 : Int) == (n : Int)) = some (nth m.wait k).2 := by
    rw [List.find?_eq_some_iff_getElem]
    refine ⟨hl, k, by simpa using hk, ?_, ?_⟩
    · have := nth_rev m.wait k hk
      rw [List.getElem?_eq_getElem (by simpa using hk)] at this
      simpa using this
    · intro j hj
      have := nth_rev m.wait j (by omega)
      rw [List.getElem?_eq_getElem (by simp; omega)] at this
      have e : m.wait.reverse[j]'(by simp; omega) = (nth m.wait j).2 := by simpa using this
      rw [e]
      have := h (nth m.wait j) (by unfold upto; exact List.mem_map.2 ⟨j, by simpa using hj, rfl⟩)
      simp [this]
  rw [hf]

theorem latest_none (m : Dsk) (n : Nat) (h : ∀ p ∈ upto (nth m.wait) m.wait.length, ((p.2.1 : Int) == (n : Int)) = false) : latest m n = m.sec.getD n ByteArray.empty := by
  unfold latest
  have hf : m.wait.reverse.find? (fun x => (x.1 : Int) == (n : Int)) = none := by
    rw [List.find?_eq_none]
    intro x hx
    obtain ⟨j, hj, e⟩ := List.getElem_of_mem hx
    have hj' : j < m.wait.length := by simpa using hj
    have := nth_rev m.wait j hj'
    rw [List.getElem?_eq_getElem hj, e] at this
    have e2 : x = (nth m.wait j).2 := by simpa using this
    rw [e2]
    have := h (nth m.wait j) (by unfold upto; exact List.mem_map.2 ⟨j, by simpa using hj', rfl⟩)
    simp [this]
  rw [hf]

abbrev rw0 (w : World) (n : Nat) : World := ((w.alloc (.cells #[.int .i64 (n : Int)] 3)).alloc (.cells #[.string ByteArray.empty] 9)).alloc (.cells #[.int .i64 0] 24)

abbrev rw4 (w : World) (n : Nat) (sv : Value) : World := (rw0 w n).alloc (.cells #[sv] 70)

theorem IsDisk.evs {w : World} {g s : Nat} {wv : Value} {m : Dsk} (h : IsDisk w g s wv m) (n₀ : Nat) (hn : w.heap.size ≤ n₀) : Evs n₀ w wv m.wait := by
  rcases owns_form h.wait with ⟨rfl, h0⟩ | ⟨gw, cw, rfl, -, hlt, -, -⟩
  · exact .inl ⟨rfl, List.eq_nil_of_length_eq_zero h0⟩
  · refine .inr ⟨gw, cw, rfl, by omega, fun j hj => ?_⟩
    rw [h.wait.cellAt j (by omega), List.getElem?_map, List.getElem?_eq_getElem hj, List.getD_eq_getElem?_getD, List.getElem?_eq_getElem hj]
    rfl

set_option maxRecDepth 100000 in
set_option maxHeartbeats 2000000 in
theorem read_in (F : Fence) (k : Nat) (hro : F.round = none) (hk3 : 3 ≤ k) (hR : F.fn 33) (hC : F.fn 51) (hB : F.fn 53) (h66 : F.fn 66) (hO : F.fn 54)
    {w : World} {g s : Nat} {wv : Value} {m : Dsk} (h : IsDisk w g s wv m) (n : Nat) (hn : n < m.sec.length)
    (hck : ∀ j, CallsIn F j Try.prog 51 #[.pointer (some ⟨g, 0, none⟩), .int .i64 (n : Int), .string ByteArray.empty] (rw0 w n) fun e w' => e = .returned (.int .i64 0) ∧ rw0 w n = w')
    (hof : ∀ j x W, CallsIn F j Try.prog 54 #[ev x, .int .i64 (n : Int)] W fun e w' => e = .returned (.bool ((x.1 : Int) == (n : Int))) ∧ w' = W.alloc (.cells #[.int .i64 (x.1 : Int), .string x.2] 78)) :
    CallsIn F k Try.prog 33 #[.pointer (some ⟨g, 0, none⟩), .int .i64 (n : Int)] w fun e w' => e = .returned (.tuple #[.string (latest m n), .int .i64 0]) ∧ Below w.heap.size w w' := by
  have h1 : 1 ≤ k := by omega
  have hd1 : 1 ≤ k - 1 - 1 := by omega
  have hA := Lib.hid (((h.alloc (.cells #[.int .i64 (n : Int)] 3)).alloc (.cells #[.string ByteArray.empty] 9)).alloc (.cells #[.int .i64 0] 24))
  obtain ⟨cap, hcap, c0, c1, c2, c3, cf, cs, -⟩ := hA.out.reads
  obtain ⟨W, cw, hwv, hlen, -⟩ := h.waits
  have HCK := Lib.hid hck
  have HOF := Lib.hid hof
  have H := Lib.hid h
  rw [hwv] at c2
  clear hck hof cs cf h
  refine callsIn_of_wp_marks Try.func33 rfl hR ?_ hro
  simp only [Try.ntmps33, List.size_toArray, List.length_cons, List.length_nil, Nat.reduceAdd, Nat.reduceSub, Array.replicate_succ, Array.replicate_zero, List.push_toArray, List.append_toArray, List.nil_append, List.cons_append]
  gi_wp2_with (first | (gi_at_call 51; refine (HCK.out _).mono ?_; rintro e w' ⟨rfl, rfl⟩) | (gi_at_call 53; refine (backward_in _ _ hB hro _ _ _ _).mono ?_; rintro e w' ⟨rfl, rfl⟩))
  change Code.wpIn F k Try.prog _ _ _ (rw4 w n (.slice W m.wait.length cw))
  have hw4 : (rw4 w n (.slice W m.wait.length cw)).heap.size = w.heap.size + 4 := by simp
  have hB0 : Below w.heap.size w (rw4 w n (.slice W m.wait.length cw)) := ((((Below.refl _ w).alloc (Nat.le_refl _) _).alloc (by simp) _).alloc (by simp; omega) _).alloc (by simp; omega) _
  have HD4 := Lib.hid (show IsDisk (rw4 w n (.slice W m.wait.length cw)) g s wv m from hA.out.alloc (.cells #[.slice W m.wait.length cw] 70))
  have bN : (rw4 w n (.slice W m.wait.length cw)).cell? ⟨w.heap.size, 0, none⟩ = some (.int .i64 (n : Int)) := by
    rw [cell_of_row _ w.heap.size 0 _ _ _ ((Below.heap_alloc _ _ _ (by simp; omega)).trans ((Below.heap_alloc _ _ _ (by simp; omega)).trans ((Below.heap_alloc _ _ _ (by simp)).trans (heap_alloc_new w _))))]
    rfl
  have bS := ((Boxed.new (w.alloc (.cells #[.int .i64 (n : Int)] 3)) 9 (.string ByteArray.empty)).alloc (.cells #[.int .i64 0] 24)).alloc (.cells #[.slice W m.wait.length cw] 70)
  have bE := (Boxed.new ((w.alloc (.cells #[.int .i64 (n : Int)] 3)).alloc (.cells #[.string ByteArray.empty] 9)) 24 (.int .i64 0)).alloc (.cells #[.slice W m.wait.length cw] 70)
  have bB := Boxed.new (rw0 w n) 70 (.slice W m.wait.length cw)
  have hes : Evs (rw4 w n (.slice W m.wait.length cw)).heap.size (rw4 w n (.slice W m.wait.length cw)) (.slice W m.wait.length cw) m.wait := by
    have := HD4.out.evs (rw4 w n (.slice W m.wait.length cw)).heap.size (Nat.le_refl _)
    rw [hwv] at this
    exact this
  have cS : (rw4 w n (.slice W m.wait.length cw)).cell? ⟨w.heap.size + 1, 0, none⟩ = some (.string ByteArray.empty) := by have := bS.cell; rwa [World.size_alloc] at this
  have fS : (rw4 w n (.slice W m.wait.length cw)).frozen? ⟨w.heap.size + 1, 0, none⟩ = false := by have := bS.frozen; rwa [World.size_alloc] at this
  have cE : (rw4 w n (.slice W m.wait.length cw)).cell? ⟨w.heap.size + 1 + 1, 0, none⟩ = some (.int .i64 0) := by have := bE.cell; rwa [World.size_alloc, World.size_alloc] at this
  have fE : (rw4 w n (.slice W m.wait.length cw)).frozen? ⟨w.heap.size + 1 + 1, 0, none⟩ = false := by have := bE.frozen; rwa [World.size_alloc, World.size_alloc] at this
  have cB : (rw4 w n (.slice W m.wait.length cw)).cell? ⟨w.heap.size + 1 + 1 + 1, 0, none⟩ = some (.slice W m.wait.length cw) := by have := bB.cell; rwa [World.size_alloc, World.size_alloc, World.size_alloc] at this
  clear bS bE bB c0 c1 c2 c3
  generalize hW4 : rw4 w n (.slice W m.wait.length cw) = w4 at *
  refine wpIn_rangeFunc_ownG hro h1 (gf := 66) (lb := #[.pointer (some ⟨w.heap.size + 1 + 1 + 1, 0, none⟩)]) rfl h66 (enters_of Try.func66 (by kernel_rfl) rfl)
    (back_stops F (k - 1) h66 hro (by omega) (w.heap.size + 1 + 1 + 1) w4.heap.size _ m.wait hlen w4 (by omega) (Nat.le_refl _) cB hes) belowK_t (belowK_b (Nat.le_refl _)) (Below.refl _ _) (fun _ => rfl)
    (fun pre W => (∀ p ∈ pre, ((p.2.1 : Int) == (n : Int)) = false) ∧ Below w4.heap.size w4 W)
    (fun c pre W => (c = .ret ∧ ∃ ini last, pre = ini ++ [last] ∧ (∀ p ∈ ini, ((p.2.1 : Int) == (n : Int)) = false) ∧ ((last.2.1 : Int) == (n : Int)) = true ∧ W.cell? ⟨w.heap.size + 1, 0, none⟩ = some (.string last.2.2) ∧ W.cell? ⟨w.heap.size + 1 + 1, 0, none⟩ = some (.int .i64 0)) ∧ Below w.heap.size w W)
    (fun s A B row hs hg hr => ⟨hs.1, hs.2.grown hg (by have := hs.2.size; omega) (fun k e => (hr k e).1)⟩)
    (fun c => OwnFrom.and (Own.from (fun s A B row hs hg hr => by obtain ⟨hc, ini, last, e1, e2, e3, e4, e5⟩ := hs; exact ⟨hc, ini, last, e1, e2, e3, cell_kept e4 hg hr, cell_kept e5 hg hr⟩) _) (ownFrom_below (Nat.le_refl _) (by omega)))
    ⟨by simp, Below.refl _ _⟩
    (fun x => { tmps := #[Value.pointer (some { block := g, off := 0 }), Value.int IntKind.i64 n, undef,
          Value.pointer (some { block := w.heap.size, off := 0 }),
          Value.pointer (some { block := w.heap.size + 1, off := 0 }),
          Value.pointer (some { block := w.heap.size + 1 + 1, off := 0 }), Value.int IntKind.i64 0, undef, ev x.2,
          Value.pointer (some { block := g, off := 0 }), Value.int IntKind.i64 n, Value.int IntKind.i64 0,
          Value.int IntKind.i64 0, Value.bool false, undef, Value.pointer (some { block := g, off := 0 }),
          Value.pointer (some { block := g, off := 0 }), Value.pointer (some { block := g, off := 2 }),
          Value.slice W m.wait.length cw,
          Value.func (Fn.func 66) #[] #[Value.pointer (some { block := w.heap.size + 1 + 1 + 1, off := 0 })], .int .i64 (x.1 : Int),
          ev x.2, undef, undef, undef, undef, undef, undef, undef, undef, undef, undef, undef, undef, undef], defers := [] }) ?assign ?body ?done ?stop
  case assign =>
    intro l x W K hK
    gi_wp2
    exact hK
  case body =>
    rintro l pre x W ⟨hp, hB⟩ _
    have hcn := (hB.cell (p := ⟨w.heap.size, 0, none⟩) (show w.heap.size < _ by omega)).trans bN
    have HO := Lib.hid (fun j => CallsIn.inRound l (HOF.out j x.2 W))
    have hta := assert_as (.agg #[.int .i64 (x.2.1 : Int), .string x.2.2]) (W.alloc (.cells #[.int .i64 (x.2.1 : Int), .string x.2.2] 78))
    change (Instr.typeAssert (ev x.2) _ _ _).run _ _ = _ at hta
    have hft := field_text (.int .i64 (x.2.1 : Int)) (.string x.2.2) (W.alloc (.cells #[.int .i64 (x.2.1 : Int), .string x.2.2] 78))
    have hBa : Below w4.heap.size w4 (W.alloc (.cells #[.int .i64 (x.2.1 : Int), .string x.2.2] 78)) := hB.alloc hB.size _
    have hWa : Below w4.heap.size W (W.alloc (.cells #[.int .i64 (x.2.1 : Int), .string x.2.2] 78)) := (Below.refl _ W).alloc hB.size _
    have pS := (hBa.cell (p := ⟨w.heap.size + 1, 0, none⟩) (show w.heap.size + 1 < _ by omega)).trans cS
    have pE := (hBa.cell (p := ⟨w.heap.size + 1 + 1, 0, none⟩) (show w.heap.size + 1 + 1 < _ by omega)).trans cE
    have qS := (World.frozen?_of_block (a := ⟨w.heap.size + 1, 0, none⟩) (hBa.block (w.heap.size + 1) (by omega))).trans fS
    have qE := (World.frozen?_of_block (a := ⟨w.heap.size + 1 + 1, 0, none⟩) (hBa.block (w.heap.size + 1 + 1) (by omega))).trans fE
    cases hb : ((x.2.1 : Int) == (n : Int)) with
    | true =>
      rw [hb] at HO
      gi_wp2_with (gi_at_call 54; refine (HO.out _).mono ?_; rintro e w' ⟨rfl, rfl⟩)
      refine ⟨?_, ⟨rfl, pre, x, rfl, hp, hb, ?_, ?_⟩, ?_⟩
      · exact (((KeepsOthers.alloc W _).trans (KeepsOthers.setCell _ _ _)).trans (KeepsOthers.setCell _ _ _)).from _
      · rw [World.cell?_setCell_other _ _ _ _ (by simp)]
        exact World.cell?_setCell_same _ _ _ pS
      · exact World.cell?_setCell_same' _ _ _ (by rw [World.cell?_setCell_other _ _ _ _ (by simp), pE]; rfl)
      · exact (((hB0.trans (hBa.mono (by omega))).setCell (p := ⟨w.heap.size + 1, 0, none⟩) (show w.heap.size ≤ w.heap.size + 1 by omega) _).setCell (p := ⟨w.heap.size + 1 + 1, 0, none⟩) (show w.heap.size ≤ w.heap.size + 1 + 1 by omega) _)
    | false =>
      rw [hb] at HO
      gi_wp2_with (gi_at_call 54; refine (HO.out _).mono ?_; rintro e w' ⟨rfl, rfl⟩)
      refine ⟨(KeepsOthers.alloc W _).from _, hWa, ?_, hBa⟩
      intro p hp'
      rcases List.mem_append.1 hp' with hp' | hp'
      · exact hp p hp'
      · simp at hp'
        subst hp'
        exact hb
  case done =>
    rintro D ys W hD rfl ⟨hne, hB⟩ hK
    have hcn := (hB.cell (p := ⟨w.heap.size, 0, none⟩) (show w.heap.size < _ by omega)).trans bN
    have pS := (hB.cell (p := ⟨w.heap.size + 1, 0, none⟩) (show w.heap.size + 1 < _ by omega)).trans cS
    have pE := (hB.cell (p := ⟨w.heap.size + 1 + 1, 0, none⟩) (show w.heap.size + 1 + 1 < _ by omega)).trans cE
    have qS := (World.frozen?_of_block (a := ⟨w.heap.size + 1, 0, none⟩) (hB.block (w.heap.size + 1) (by omega))).trans fS
    have qE := (World.frozen?_of_block (a := ⟨w.heap.size + 1 + 1, 0, none⟩) (hB.block (w.heap.size + 1 + 1) (by omega))).trans fE
    have HD := HD4.out.keep (w' := W) (fun k hk => hB.block k (HD4.out.lt k hk))
    obtain ⟨cap', hcap', c0, -, -, -, -, cs, -⟩ := HD.reads
    have cn := cs n m.sec[n] (List.getElem?_eq_getElem hn)
    clear cs HD
    gi_wp2
    gi_region
    all_goals
      gi_wp2
      refine ⟨by simp, .inl ⟨_, _, rfl, run_takeDeferred ((((KeepsOthers.setCell W _ _).trans (KeepsOthers.setCell _ _ _)).same D _ hK rfl)), ?_⟩⟩
      have hK' : ((W.setCell ⟨w.heap.size + 1, 0, none⟩ (.string m.sec[n])).setCell ⟨w.heap.size + 1 + 1, 0, none⟩ (.int .i64 0)).drew.heap[D]? = some (.deferred (some [])) := (((KeepsOthers.setCell W _ _).trans (KeepsOthers.setCell _ _ _)).same D _ hK rfl)
      have d4 : ((W.setCell ⟨w.heap.size + 1, 0, none⟩ (.string m.sec[n])).setCell ⟨w.heap.size + 1 + 1, 0, none⟩ (.int .i64 0)).drew.cell? ⟨w.heap.size + 1, 0, none⟩ = some (.string m.sec[n]) := by
        show ((W.setCell ⟨w.heap.size + 1, 0, none⟩ (.string m.sec[n])).setCell ⟨w.heap.size + 1 + 1, 0, none⟩ (.int .i64 0)).cell? _ = _
        rw [World.cell?_setCell_other _ _ _ _ (by simp)]
        exact World.cell?_setCell_same _ _ _ pS
      have d5 : ((W.setCell ⟨w.heap.size + 1, 0, none⟩ (.string m.sec[n])).setCell ⟨w.heap.size + 1 + 1, 0, none⟩ (.int .i64 0)).drew.cell? ⟨w.heap.size + 1 + 1, 0, none⟩ = some (.int .i64 0) :=
        World.cell?_setCell_same' _ _ _ (by rw [World.cell?_setCell_other _ _ _ _ (by simp), pE]; rfl)
      have c4 := cell_kept d4 (grownBy_putObj' _ D (.deferred none)) (fun r e => by cases e; exact ⟨_, hK', rfl⟩)
      have c5 := cell_kept d5 (grownBy_putObj' _ D (.deferred none)) (fun r e => by cases e; exact ⟨_, hK', rfl⟩)
      have hl : latest m n = m.sec[n] := (latest_none m n hne).trans (by rw [List.getD_eq_getElem?_getD, List.getElem?_eq_getElem hn]; rfl)
      have hBl : Below w.heap.size w ((W.setCell ⟨w.heap.size + 1, 0, none⟩ (.string m.sec[n])).setCell ⟨w.heap.size + 1 + 1, 0, none⟩ (.int .i64 0)).drew :=
        (((hB0.trans (hB.mono (by omega))).setCell (p := ⟨w.heap.size + 1, 0, none⟩) (show w.heap.size ≤ w.heap.size + 1 by omega) _).setCell (p := ⟨w.heap.size + 1 + 1, 0, none⟩) (show w.heap.size ≤ w.heap.size + 1 + 1 by omega) _).drew
      refine ⟨.tuple #[.string (latest m n), .int .i64 0], ?_, rfl, hBl.trans (belowK_b (w := w) (Nat.le_refl _) _ D _ _ (by omega) hK' rfl rfl)⟩
      rw [hl]
      simp [results, Try.f33, go_sem, c4, c5]
  case stop =>
    rintro D c pre W hD ⟨k', hk', rfl⟩ ⟨⟨rfl, ini, last, e1, e2, e3, e4, e5⟩, hB⟩ hK
    gi_wp2
    refine ⟨by simp, .inl ⟨_, _, rfl, run_takeDeferred hK, ?_⟩⟩
    have c4 := cell_kept e4 (grownBy_putObj' _ D (.deferred none)) (fun r e => by cases e; exact ⟨_, hK, rfl⟩)
    have c5 := cell_kept e5 (grownBy_putObj' _ D (.deferred none)) (fun r e => by cases e; exact ⟨_, hK, rfl⟩)
    obtain ⟨k'', rfl⟩ : ∃ k'', k' = k'' + 1 := by
      cases k' with
      | zero => simp [upto] at e1
      | succ k'' => exact ⟨k'', rfl⟩
    rw [upto_succ] at e1
    obtain ⟨rfl, e6⟩ := List.append_inj' e1 rfl
    obtain rfl : nth m.wait k'' = last := by simpa using e6
    have hl : latest m n = (nth m.wait k'').2.2 := latest_of m n k'' (by omega) e2 e3
    refine ⟨.tuple #[.string (latest m n), .int .i64 0], ?_, rfl, hB.trans (belowK_b (w := w) (Nat.le_refl _) W D _ _ (by omega) hK rfl rfl)⟩
    rw [hl]
    simp [results, Try.f33, go_sem, c4, c5]

end Go.Proofs.Ytpmhjagmgjolmaa.Dk
