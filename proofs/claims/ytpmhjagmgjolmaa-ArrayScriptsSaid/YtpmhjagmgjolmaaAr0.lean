/- Disks together (layer 10): how they lie in memory; a call's step on one of them. -/
import Derived.Test.YtpmhjagmgjolmaaDkCopy
import Derived.Test.YtpmhjagmgjolmaaDkR4
namespace Go.Proofs.Ytpmhjagmgjolmaa.Dk
open Go.RowKit

set_option maxRecDepth 100000 in
theorem op_left {A A' B : Thing} (b : Res B) {w : World} {f : FuncId} {args : Array Value} {X : Ending} (hop : ∀ S, A w S → Calls Try.prog f args w fun e w' => e = X ∧ Step w w' S (A' w')) :
    ∀ S, Both A B w S → Calls Try.prog f args w fun e w' => e = X ∧ Step w w' S (Both A' B w') := by
  rintro U ⟨S, T, hA, hB, hd, rfl⟩
  exact (hop S hA).mono fun e w' ⟨he, hs⟩ => ⟨he, Step.left b hs hB hd⟩
set_option maxRecDepth 100000 in
theorem op_right {A B B' : Thing} (a : Res A) {w : World} {f : FuncId} {args : Array Value} {X : Ending} (hop : ∀ S, B w S → Calls Try.prog f args w fun e w' => e = X ∧ Step w w' S (B' w')) :
    ∀ S, Both A B w S → Calls Try.prog f args w fun e w' => e = X ∧ Step w w' S (Both A B' w') := by
  rintro U ⟨S, T, hA, hB, hd, rfl⟩
  exact (hop T hB).mono fun e w' ⟨he, hs⟩ => ⟨he, Step.right a hA hs hd⟩
set_option maxRecDepth 100000 in
theorem Law.drop {A B : Thing} {w0 w : World} (h : Law w0 w (Both A B)) : Law w0 w A := by
  obtain ⟨U, ⟨S, T, hA, hB, hd, rfl⟩, hn, hb⟩ := h
  exact ⟨S, hA, fun k hk => hn k (.inl hk), hb⟩

/-- Many things apart. -/
def All : List Thing → Thing
  | [] => fun _ S => S = fun _ => False
  | A :: r => Both A (All r)
set_option maxRecDepth 100000 in
theorem All.res : ∀ (l : List Thing), (∀ A ∈ l, Res A) → Res (All l)
  | [], _ => ⟨by rintro w S rfl k h; exact h.elim, by rintro w w' S T rfl _ _; rfl⟩
  | A :: r, h => Both.res (h A (by simp)) (All.res r fun B hB => h B (by simp [hB]))
set_option maxRecDepth 100000 in
theorem All.get : ∀ (l : List Thing) (i : Nat) (A : Thing) (w : World) (S : Nat → Prop), l[i]? = some A → All l w S → ∃ T, A w T ∧ ∀ k, T k → S k
  | [], _, _, _, _, h, _ => by simp at h
  | B :: r, 0, A, w, S, h, hl => by
    simp at h
    subst h
    obtain ⟨S1, S2, h1, h2, hd, rfl⟩ := hl
    exact ⟨S1, h1, fun k hk => .inl hk⟩
  | B :: r, i + 1, A, w, S, h, hl => by
    obtain ⟨S1, S2, h1, h2, hd, rfl⟩ := hl
    obtain ⟨T, hT, hs⟩ := All.get r i A w S2 (by simpa using h) h2
    exact ⟨T, hT, fun k hk => .inr (hs k hk)⟩
set_option maxRecDepth 100000 in
theorem All.op {w : World} {f : FuncId} {args : Array Value} {X : Ending} {A A' : Thing} (hop : ∀ S, A w S → Calls Try.prog f args w fun e w' => e = X ∧ Step w w' S (A' w')) :
    ∀ (l : List Thing) (i : Nat), (∀ B ∈ l, Res B) → l[i]? = some A → ∀ S, All l w S → Calls Try.prog f args w fun e w' => e = X ∧ Step w w' S (All (l.set i A') w')
  | [], _, _, h => by simp at h
  | B :: r, 0, hr, h => by
    simp at h
    subst h
    exact op_left (All.res r fun C hC => hr C (by simp [hC])) hop
  | B :: r, i + 1, hr, h => op_right (hr B (by simp)) (All.op hop r i (fun C hC => hr C (by simp [hC])) (by simpa using h))
set_option maxRecDepth 100000 in
theorem All.snoc : ∀ (l : List Thing) (A : Thing) (w : World) (S : Nat → Prop), Both (All l) A w S → All (l ++ [A]) w S
  | [], A, w, S, h => by
    obtain ⟨S1, S2, rfl, h2, hd, rfl⟩ := h
    exact ⟨S2, fun _ => False, h2, rfl, fun _ _ h => h, by funext k; simp⟩
  | B :: r, A, w, S, h => by
    obtain ⟨S1, S2, ⟨T1, T2, t1, t2, hd1, rfl⟩, h2, hd, rfl⟩ := h
    exact ⟨T1, fun k => T2 k ∨ S2 k, t1, All.snoc r A w _ ⟨T2, S2, t2, h2, fun k hk => hd k (.inr hk), rfl⟩, fun k h1 h2 => h2.elim (hd1 k h1) (hd k (.inl h1)), by funext k; simp [or_assoc]⟩

/-- Disks, the fuse, the power. -/
structure Arr where
  ds : List Dsk
  left : Int
  down : Bool

def ptr (g : Nat) : Value := .pointer (some ⟨g, 0, none⟩)

/-- An array's own cells, and its row of pointers. -/
def Head (T P : TypeId) (ga : Nat) (sv : Value) (gs : List Nat) (left : Int) (down : Bool) : Thing := fun w S =>
  w.heap[ga]? = some (.cells #[sv, .int .i64 left, .bool down] T (0, 0)) ∧ w.ownsRow 0 P 1 sv gs.length (gs.map ptr) ∧ sv.ownBlock ≠ some ga ∧ S = fun k => k = ga ∨ sv.ownBlock = some k
set_option maxRecDepth 100000 in
theorem Head.res (T P : TypeId) (ga : Nat) (sv : Value) (gs : List Nat) (left : Int) (down : Bool) : Res (Head T P ga sv gs left down) := by
  refine ⟨?_, ?_⟩
  · rintro w S ⟨h, hr, hn, rfl⟩ k (rfl | hk)
    · exact (Array.getElem?_eq_some_iff.1 h).1
    · exact (hr.lt k hk).2
  · rintro w w' S V ⟨h, hr, hn, rfl⟩ hf hd
    refine ⟨hf.heap h (hd ga (.inl rfl)), owns_move hr (fun k e => ?_), hn, rfl⟩
    exact hf.same k ((hr.lt k e).2) (hd k (.inr e))

/-- An array lies with its disks. -/
def Ar (X : Nat → Dsk → Thing) (T P : TypeId) (ga : Nat) (sv : Value) (gs : List Nat) (a : Arr) : Thing := fun w S =>
  gs.length = a.ds.length ∧ Both (Head T P ga sv gs a.left a.down) (All (List.zipWith X gs a.ds)) w S

section
variable {X : Nat → Dsk → Thing} (hX : ∀ g m, Res (X g m)) {T P : TypeId} {ga : Nat} {sv : Value} {gs : List Nat} {a : Arr}
include hX
set_option maxRecDepth 100000 in
theorem Ar.disks : ∀ (gs : List Nat) (ds : List Dsk), ∀ B ∈ List.zipWith X gs ds, Res B
  | [], _, B, h => by simp at h
  | _ :: _, [], B, h => by simp at h
  | g :: gs, m :: ds, B, h => by
    simp at h
    rcases h with rfl | h
    · exact hX _ _
    · exact Ar.disks gs ds B h
set_option maxRecDepth 100000 in
theorem Ar.res : Res (Ar X T P ga sv gs a) := by
  have h := Both.res (Head.res T P ga sv gs a.left a.down) (All.res _ (Ar.disks hX gs a.ds))
  refine ⟨?_, ?_⟩
  · rintro w S ⟨_, hb⟩
    exact h.lt hb
  · rintro w w' S V ⟨hl, hb⟩ hf hd
    exact ⟨hl, h.frame hb hf hd⟩

/-- A call on one of its disks. -/
theorem Ar.op {w : World} {f : FuncId} {args : Array Value} {E : Ending} {i g : Nat} {m m' : Dsk} (hi : a.ds[i]? = some m) (hg : gs[i]? = some g)
    (hop : ∀ S, X g m w S → Calls Try.prog f args w fun e w' => e = E ∧ Step w w' S (X g m' w')) :
    ∀ S, Ar X T P ga sv gs a w S → Calls Try.prog f args w fun e w' => e = E ∧ Step w w' S (Ar X T P ga sv gs { a with ds := a.ds.set i m' } w') := by
  rintro S ⟨hl, hb⟩
  have hz : (List.zipWith X gs a.ds)[i]? = some (X g m) := by simp [List.getElem?_zipWith, hi, hg]
  refine (op_right (Head.res T P ga sv gs a.left a.down) (All.op hop _ i (Ar.disks hX gs a.ds) hz) S hb).mono ?_
  rintro e w' ⟨he, S', hB, hf, hg'⟩
  refine ⟨he, S', ⟨by simpa using hl, ?_⟩, hf, hg'⟩
  have hset : (List.zipWith X gs a.ds).set i (X g m') = List.zipWith X gs (a.ds.set i m') := by
    apply List.ext_getElem?
    intro j
    by_cases e : i = j
    · subst e
      have h1 := (List.getElem?_eq_some_iff.1 hi).1
      have h2 := (List.getElem?_eq_some_iff.1 hg).1
      rw [List.getElem?_set_self (by simp; omega), List.getElem?_zipWith, hg, List.getElem?_set_self h1]
    · rw [List.getElem?_set_ne e, List.getElem?_zipWith, List.getElem?_zipWith, List.getElem?_set_ne e]
  rw [hset] at hB
  exact hB

omit hX in
/-- One of its disks. -/
theorem Ar.get {w : World} {S : Nat → Prop} {i g : Nat} {m : Dsk} (hi : a.ds[i]? = some m) (hg : gs[i]? = some g) (h : Ar X T P ga sv gs a w S) : ∃ U, X g m w U ∧ ∀ k, U k → S k := by
  obtain ⟨hl, S1, S2, h1, h2, hd, rfl⟩ := h
  have hz : (List.zipWith X gs a.ds)[i]? = some (X g m) := by simp [List.getElem?_zipWith, hi, hg]
  obtain ⟨U, hU, hs⟩ := All.get _ i _ w S2 hz h2
  exact ⟨U, hU, fun k hk => .inr (hs k hk)⟩

omit hX in
/-- What the walks read. -/
theorem Ar.reads {w : World} {S : Nat → Prop} (h : Ar X T P ga sv gs a w S) : ∃ A c, sv = .slice A a.ds.length c ∧ a.ds.length ≤ 9223372036854775807 ∧ gs.length = a.ds.length ∧
    w.cell? ⟨ga, 0, none⟩ = some sv ∧ w.cell? ⟨ga, 1, none⟩ = some (.int .i64 a.left) ∧ w.cell? ⟨ga, 2, none⟩ = some (.bool a.down) ∧ (∀ j, w.frozen? ⟨ga, j, none⟩ = false) ∧
    ∀ (j : Nat) g, gs[j]? = some g → ∃ ad, A = some ad ∧ w.cell? (ad.add j) = some (.pointer (some ⟨g, 0, none⟩)) := by
  obtain ⟨hl, S1, S2, ⟨hb, hr, hn, rfl⟩, h2, hd, rfl⟩ := h
  have hcells := And.intro (cell_of_row w ga 0 _ _ _ hb) (And.intro (cell_of_row w ga 1 _ _ _ hb) (cell_of_row w ga 2 _ _ _ hb))
  rw [← hl]
  rcases owns_form hr with ⟨rfl, h0⟩ | ⟨gw, cw, rfl, -, -, hnc, hcm⟩
  · refine ⟨none, 0, by rw [h0], by omega, rfl, ?_, ?_, ?_, fun j => frozen_of_row w ga j _ _ hb, fun j g hj => ?_⟩
    · rw [hcells.1]; rfl
    · rw [hcells.2.1]; rfl
    · rw [hcells.2.2]; rfl
    · have := (List.getElem?_eq_some_iff.1 hj).1
      omega
  · refine ⟨some ⟨gw, 0, none⟩, cw, rfl, by unfold maxLen at hcm; omega, rfl, ?_, ?_, ?_, fun j => frozen_of_row w ga j _ _ hb, fun j g hj => ⟨_, rfl, ?_⟩⟩
    · rw [hcells.1]; rfl
    · rw [hcells.2.1]; rfl
    · rw [hcells.2.2]; rfl
    · exact hr.cells rfl j _ (by simp [hj, ptr])

/-- Stores into its own cells. -/
theorem Ar.setLeft {w : World} {S : Nat → Prop} (h : Ar X T P ga sv gs a w S) (x : Int) : Step w (w.setCell ⟨ga, 1, none⟩ (.int .i64 x)) S (Ar X T P ga sv gs { a with left := x } (w.setCell ⟨ga, 1, none⟩ (.int .i64 x))) := by
  obtain ⟨hl, S1, S2, ⟨hb, hr, hn, rfl⟩, h2, hd, rfl⟩ := h
  have hs : Step w (w.setCell ⟨ga, 1, none⟩ (.int .i64 x)) (fun k => k = ga ∨ sv.ownBlock = some k) (Head T P ga sv gs x a.down (w.setCell ⟨ga, 1, none⟩ (.int .i64 x))) := by
    refine ⟨_, ⟨?_, owns_move hr (fun k e => heap_setCell_other w _ k _ (fun e' => ?_)), hn, rfl⟩, (Fr.refl _ w).setCell (p := ⟨ga, 1, none⟩) (.inl (.inl rfl)) _, fun k hk => .inl hk⟩
    · have := heap_setCell_same w ga 1 _ _ (.int .i64 x) hb
      simpa using this
    · simp at e'
      subst e'
      exact hn e
  obtain ⟨S', hB, hf, hg⟩ := Step.left (All.res _ (Ar.disks hX gs a.ds)) hs h2 hd
  exact ⟨S', ⟨hl, hB⟩, hf, hg⟩
set_option maxRecDepth 100000 in
theorem Ar.setDown {w : World} {S : Nat → Prop} (h : Ar X T P ga sv gs a w S) (x : Bool) : Step w (w.setCell ⟨ga, 2, none⟩ (.bool x)) S (Ar X T P ga sv gs { a with down := x } (w.setCell ⟨ga, 2, none⟩ (.bool x))) := by
  obtain ⟨hl, S1, S2, ⟨hb, hr, hn, rfl⟩, h2, hd, rfl⟩ := h
  have hs : Step w (w.setCell ⟨ga, 2, none⟩ (.bool x)) (fun k => k = ga ∨ sv.ownBlock = some k) (Head T P ga sv gs a.left x (w.setCell ⟨ga, 2, none⟩ (.bool x))) := by
    refine ⟨_, ⟨?_, owns_move hr (fun k e => heap_setCell_other w _ k _ (fun e' => ?_)), hn, rfl⟩, (Fr.refl _ w).setCell (p := ⟨ga, 2, none⟩) (.inl (.inl rfl)) _, fun k hk => .inl hk⟩
    · have := heap_setCell_same w ga 2 _ _ (.bool x) hb
      simpa using this
    · simp at e'
      subst e'
      exact hn e
  obtain ⟨S', hB, hf, hg⟩ := Step.left (All.res _ (Ar.disks hX gs a.ds)) hs h2 hd
  exact ⟨S', ⟨hl, hB⟩, hf, hg⟩
end

/-- A step, and another one behind it. -/
theorem Step.then {w w1 w2 : World} {S : Nat → Prop} {A B : World → (Nat → Prop) → Prop} (h : Step w w1 S (A w1)) (k : ∀ S', A w1 S' → Step w1 w2 S' (B w2)) : Step w w2 S (B w2) := by
  obtain ⟨S1, hA, hf, hg⟩ := h
  obtain ⟨S2, hB, hf2, hg2⟩ := k S1 hA
  refine ⟨S2, hB, hf.then hf2 (fun i hi hs => (hg i hs).elim id (fun e => by omega)), fun i hi => ?_⟩
  rcases hg2 i hi with e | e
  · exact hg i e
  · have := hf.size; exact .inr (by omega)

end Go.Proofs.Ytpmhjagmgjolmaa.Dk
