/- Plain ground for the walks of layers 9 and 10: a disk as plain data, how it lies in memory, and what a call may have turned. -/
import Derived.Test.YtpmhjagmgjolmaaProg
import Derived.WalkKit
import Derived.KernelRfl
import Derived.Below
import Derived.WalkSmall
import Derived.Lib.Hide
import Derived.Laws.AppendOwn
import Derived.Laws.OwnMore
import Derived.OwnWalk
import Derived.Laws.Rows
import Derived.Deep.Draws
namespace Go.Proofs.Ytpmhjagmgjolmaa.Dk
open Go.RowKit

/-! What a call may have turned: blocks of S, and new ones. -/

structure Fr (S : Nat → Prop) (w w' : World) : Prop where
  os : w'.os = w.os
  tape : w'.tape = w.tape
  output : w'.output = w.output
  size : w.heap.size ≤ w'.heap.size
  same : ∀ k, k < w.heap.size → ¬ S k → w'.heap[k]? = w.heap[k]?

theorem Fr.refl (S : Nat → Prop) (w : World) : Fr S w w := ⟨rfl, rfl, rfl, Nat.le_refl _, fun _ _ _ => rfl⟩
theorem Fr.trans {S : Nat → Prop} {a b c : World} (h : Fr S a b) (k : Fr S b c) : Fr S a c :=
  ⟨k.os.trans h.os, k.tape.trans h.tape, k.output.trans h.output, Nat.le_trans h.size k.size, fun i hi hs => (k.same i (Nat.lt_of_lt_of_le hi h.size) hs).trans (h.same i hi hs)⟩
theorem Fr.mono {S T : Nat → Prop} {a b : World} (h : Fr S a b) (hs : ∀ k, k < a.heap.size → S k → T k) : Fr T a b :=
  ⟨h.os, h.tape, h.output, h.size, fun i hi ht => h.same i hi (fun e => ht (hs i hi e))⟩
/-- A second call may turn what is new since the first, too. -/
theorem Fr.then {S T : Nat → Prop} {a b c : World} (h : Fr S a b) (k : Fr T b c) (hs : ∀ i, i < a.heap.size → T i → S i) : Fr S a c :=
  ⟨k.os.trans h.os, k.tape.trans h.tape, k.output.trans h.output, Nat.le_trans h.size k.size, fun i hi hn => (k.same i (Nat.lt_of_lt_of_le hi h.size) (fun e => hn (hs i hi e))).trans (h.same i hi hn)⟩
theorem Fr.alloc {S : Nat → Prop} {a b : World} (h : Fr S a b) (o : Obj) : Fr S a (b.alloc o) :=
  ⟨h.os, h.tape, h.output, by have := h.size; simp; omega, fun i hi hs => (Below.heap_alloc b o i (Nat.lt_of_lt_of_le hi h.size)).trans (h.same i hi hs)⟩
theorem Fr.setCell {S : Nat → Prop} {a b : World} (h : Fr S a b) {p : Addr} (hp : S p.block ∨ a.heap.size ≤ p.block) (u : Value) : Fr S a (b.setCell p u) :=
  ⟨h.os, h.tape, h.output, by simpa using h.size, fun i hi hs => (Below.heap_setCell b p u i (fun e => hp.elim (fun hp => hs (e ▸ hp)) (fun hp => by omega))).trans (h.same i hi hs)⟩
theorem Fr.drew {S : Nat → Prop} {a b : World} (h : Fr S a b) : Fr S a b.drew := ⟨h.os, h.tape, h.output, h.size, h.same⟩
theorem Fr.drewN {S : Nat → Prop} {a b : World} (h : Fr S a b) (n : Nat) : Fr S a (b.drewN n) := ⟨h.os, h.tape, h.output, h.size, h.same⟩
theorem Fr.grown {S : Nat → Prop} {a b c : World} {row : Option Nat} (h : Fr S a b) (hg : b.grownBy c row) (hr : ∀ k, row = some k → S k ∨ a.heap.size ≤ k) : Fr S a c :=
  ⟨hg.os.trans h.os, hg.tape.trans h.tape, hg.output.trans h.output, Nat.le_trans h.size hg.size, fun i hi hs => (hg.block i (Nat.lt_of_lt_of_le hi h.size) (fun e => (hr i e.symm).elim hs (fun hp => by omega))).trans (h.same i hi hs)⟩
theorem Fr.of_below {S : Nat → Prop} {a b : World} (h : Below a.heap.size a b) : Fr S a b := ⟨h.os, h.tape, h.output, h.size, fun i hi _ => h.block i hi⟩
theorem Fr.below {S : Nat → Prop} {a b : World} {B : Nat} (h : Fr S a b) (hB : B ≤ a.heap.size) (hs : ∀ k, S k → B ≤ k) : Below B a b :=
  ⟨h.os, h.tape, h.output, h.size, fun i hi => h.same i (by omega) (fun e => by have := hs i e; omega)⟩
theorem Fr.cell {S : Nat → Prop} {a b : World} (h : Fr S a b) {p : Addr} {v : Value} (hc : a.cell? p = some v) (hs : ¬ S p.block) : b.cell? p = some v :=
  (World.cell?_of_block (h.same p.block (World.block_lt_of_cell? a p hc) hs)).trans hc
theorem Fr.heap {S : Nat → Prop} {a b : World} (h : Fr S a b) {k : Nat} {o : Obj} (hc : a.heap[k]? = some o) (hs : ¬ S k) : b.heap[k]? = some o :=
  (h.same k (Array.getElem?_eq_some_iff.1 hc).1 hs).trans hc

/-- Nothing but new blocks. -/
def fresh : Nat → Prop := fun _ => False

theorem owns_move {w w' : World} {base : Nat} {e : TypeId} {size n : Nat} {v : Value} {xs : List Value} (h : w.ownsRow base e size v n xs) (hm : ∀ k, v.ownBlock = some k → w'.heap[k]? = w.heap[k]?) : w'.ownsRow base e size v n xs := by
  obtain ⟨h1, h2⟩ := h
  refine ⟨h1, ?_⟩
  rcases h2 with h2 | ⟨g, cap, cur, rfl, hg, hh, r⟩
  · exact .inl h2
  · exact .inr ⟨g, cap, cur, rfl, hg, (hm g (by simp [Value.ownBlock])).trans hh, r⟩
theorem owns_typed {w : World} {base : Nat} {e : TypeId} {size n : Nat} {v : Value} {xs : List Value} (h : w.ownsRow base e size v n xs) (k : Nat) (hk : v.ownBlock = some k) : ∃ cells, w.heap[k]? = some (.cells cells e (0, 0)) := by
  rcases h.2 with ⟨rfl, _⟩ | ⟨g, cap, cur, rfl, hg, hh, r⟩
  · simp [Value.ownBlock] at hk
  · have : g = k := by simpa [Value.ownBlock] using hk
    subst this
    exact ⟨cur, hh⟩
theorem owns_lower {w : World} {base base' : Nat} {e : TypeId} {size n : Nat} {v : Value} {xs : List Value} (h : w.ownsRow base e size v n xs) (hb : base' ≤ base) : w.ownsRow base' e size v n xs := by
  obtain ⟨h1, h2⟩ := h
  refine ⟨h1, ?_⟩
  rcases h2 with h2 | ⟨g, cap, cur, rfl, hg, hh, r⟩
  · exact .inl h2
  · exact .inr ⟨g, cap, cur, rfl, Nat.le_trans hb hg, hh, r⟩
theorem owns_form {w : World} {base : Nat} {e : TypeId} {size n : Nat} {v : Value} {xs : List Value} (h : w.ownsRow base e size v n xs) :
    (v = .slice none 0 0 ∧ n = 0) ∨ ∃ g cap, v = .slice (some ⟨g, 0, none⟩) n cap ∧ base ≤ g ∧ g < w.heap.size ∧ n ≤ cap ∧ cap ≤ maxLen := by
  rcases h.2 with h2 | ⟨g, cap, cur, rfl, hg, hh, h3, h4, _⟩
  · exact .inl h2
  · exact .inr ⟨g, cap, rfl, hg, (Array.getElem?_eq_some_iff.1 hh).1, h3, h4⟩

/-! A disk as plain data. -/

structure Dsk where
  sec : List ByteArray
  size : Nat
  wait : List (Nat × ByteArray)
  gone : Bool

/-- A write that waits, as the machine holds it. -/
def ev (x : Nat × ByteArray) : Value := .iface 78 (.agg #[.int .i64 (x.1 : Int), .string x.2])

/-- A disk lies at block g; its sectors' row at block s; wv: what waits. -/
structure IsDisk (w : World) (g s : Nat) (wv : Value) (m : Dsk) : Prop where
  blk : ∃ cap, w.heap[g]? = some (.cells #[.slice (some ⟨s, 0, none⟩) m.sec.length cap, .int .i64 (m.size : Int), wv, .bool m.gone] 72 (0, 0)) ∧
    w.ownsRow 0 9 1 (.slice (some ⟨s, 0, none⟩) m.sec.length cap) m.sec.length (m.sec.map .string)
  wait : w.ownsRow 0 76 1 wv m.wait.length (m.wait.map ev)
  ok : ∀ x ∈ m.wait, x.1 < m.sec.length
  pos : 0 < m.sec.length
  most : m.sec.length ≤ 4096
  fits : m.size ≤ 4096

/-- The blocks that are a disk's. -/
def foot (g s : Nat) (wv : Value) : Nat → Prop := fun k => k = g ∨ k = s ∨ wv.ownBlock = some k

theorem foot_g (g s : Nat) (wv : Value) : foot g s wv g := .inl rfl
theorem foot_s (g s : Nat) (wv : Value) : foot g s wv s := .inr (.inl rfl)

section
variable {w w' : World} {g s : Nat} {wv : Value} {m : Dsk}

theorem IsDisk.lt (h : IsDisk w g s wv m) : ∀ k, foot g s wv k → k < w.heap.size := by
  intro k hk
  obtain ⟨cap, hb, hr⟩ := h.blk
  rcases hk with rfl | rfl | hk
  · exact (Array.getElem?_eq_some_iff.1 hb).1
  · exact (hr.lt k rfl).2
  · exact (h.wait.lt k hk).2

/-- What keeps a disk's blocks keeps the disk. -/
theorem IsDisk.keep (h : IsDisk w g s wv m) (hk : ∀ k, foot g s wv k → w'.heap[k]? = w.heap[k]?) : IsDisk w' g s wv m := by
  obtain ⟨cap, hb, hr⟩ := h.blk
  exact ⟨⟨cap, (hk g (foot_g _ _ _)).trans hb, owns_move hr (fun k e => hk k (.inr (.inl (by simpa [Value.ownBlock] using e.symm))))⟩,
    owns_move h.wait (fun k e => hk k (.inr (.inr e))), h.ok, h.pos, h.most, h.fits⟩
theorem IsDisk.frame {S : Nat → Prop} (h : IsDisk w g s wv m) (hf : Fr S w w') (hd : ∀ k, foot g s wv k → ¬ S k) : IsDisk w' g s wv m :=
  h.keep fun k hk => hf.same k (h.lt k hk) (hd k hk)
theorem IsDisk.drew (h : IsDisk w g s wv m) : IsDisk w.drew g s wv m := h.keep fun _ _ => rfl
theorem IsDisk.drewN (h : IsDisk w g s wv m) (n : Nat) : IsDisk (w.drewN n) g s wv m := h.keep fun _ _ => rfl
theorem IsDisk.alloc (h : IsDisk w g s wv m) (o : Obj) : IsDisk (w.alloc o) g s wv m := h.keep fun k hk => Below.heap_alloc w o k (h.lt k hk)

/-- The blocks are three: of three types. -/
theorem IsDisk.gs (h : IsDisk w g s wv m) : g ≠ s := by
  obtain ⟨cap, hb, hr⟩ := h.blk
  obtain ⟨cs, hc⟩ := owns_typed hr s rfl
  rintro rfl
  rw [hb] at hc
  simp at hc
theorem IsDisk.gw (h : IsDisk w g s wv m) : wv.ownBlock ≠ some g := by
  intro e
  obtain ⟨cap, hb, hr⟩ := h.blk
  obtain ⟨cs, hc⟩ := owns_typed h.wait g e
  rw [hb] at hc
  simp at hc
theorem IsDisk.sw (h : IsDisk w g s wv m) : wv.ownBlock ≠ some s := by
  intro e
  obtain ⟨cap, hb, hr⟩ := h.blk
  obtain ⟨cs, hc⟩ := owns_typed hr s rfl
  obtain ⟨cs', hc'⟩ := owns_typed h.wait s e
  rw [hc] at hc'
  simp at hc'

/-- What the walks read of a disk. -/
theorem IsDisk.reads (h : IsDisk w g s wv m) : ∃ cap, m.sec.length ≤ cap ∧ w.cell? ⟨g, 0, none⟩ = some (.slice (some ⟨s, 0, none⟩) m.sec.length cap) ∧ w.cell? ⟨g, 1, none⟩ = some (.int .i64 (m.size : Int)) ∧
    w.cell? ⟨g, 2, none⟩ = some wv ∧ w.cell? ⟨g, 3, none⟩ = some (.bool m.gone) ∧ (∀ j, w.frozen? ⟨g, j, none⟩ = false) ∧
    (∀ (j : Nat) x, m.sec[j]? = some x → w.cell? ⟨s, j, none⟩ = some (.string x)) ∧ (∀ j, w.frozen? ⟨s, j, none⟩ = false) := by
  obtain ⟨cap, hb, hr⟩ := h.blk
  have hcap : m.sec.length ≤ cap := by
    rcases owns_form hr with ⟨e, _⟩ | ⟨g', cap', e, _, _, h1, _⟩
    · simp at e
    · simp at e; omega
  refine ⟨cap, hcap, ?_, ?_, ?_, ?_, fun j => frozen_of_row w g j _ _ hb, fun j x hx => ?_, fun j => hr.frozenAt j⟩
  · rw [cell_of_row w g 0 _ _ _ hb]; rfl
  · rw [cell_of_row w g 1 _ _ _ hb]; rfl
  · rw [cell_of_row w g 2 _ _ _ hb]; rfl
  · rw [cell_of_row w g 3 _ _ _ hb]; rfl
  · have hj := (List.getElem?_eq_some_iff.1 hx).1
    rw [hr.cellAt j (by omega), List.getElem?_map, hx]
    rfl
end

end Go.Proofs.Ytpmhjagmgjolmaa.Dk
