/- Things that lie apart; a call's step on one of them; live of layer 9. -/
import Derived.Test.YtpmhjagmgjolmaaDk7
namespace Go.Proofs.Ytpmhjagmgjolmaa.Dk
open Go.RowKit

/-- A thing: how it lies in a world, of which blocks. -/
abbrev Thing := World → (Nat → Prop) → Prop

structure Res (A : Thing) : Prop where
  lt : ∀ {w S}, A w S → ∀ k, S k → k < w.heap.size
  frame : ∀ {w w' S T}, A w S → Fr T w w' → (∀ k, S k → ¬ T k) → A w' S

def D (g : Nat) (m : Dsk) : Thing := fun w S => At w g S m
theorem D.res (g : Nat) (m : Dsk) : Res (D g m) := ⟨fun h => h.lt, fun h f d => h.frame f d⟩

/-- Two things apart. -/
def Both (A B : Thing) : Thing := fun w U => ∃ S T, A w S ∧ B w T ∧ (∀ k, S k → ¬ T k) ∧ U = fun k => S k ∨ T k
theorem Both.res {A B : Thing} (a : Res A) (b : Res B) : Res (Both A B) := by
  refine ⟨?_, ?_⟩
  · rintro w U ⟨S, T, hA, hB, hd, rfl⟩ k (h | h)
    · exact a.lt hA k h
    · exact b.lt hB k h
  · rintro w w' U V ⟨S, T, hA, hB, hd, rfl⟩ hf hn
    exact ⟨S, T, a.frame hA hf (fun k h => hn k (.inl h)), b.frame hB hf (fun k h => hn k (.inr h)), hd, rfl⟩

/-- A call's step on the one leaves the other. -/
theorem Step.left {A' B : Thing} (b : Res B) {w w' : World} {S T : Nat → Prop} (hs : Step w w' S (A' w')) (hB : B w T) (hd : ∀ k, S k → ¬ T k) : Step w w' (fun k => S k ∨ T k) (Both A' B w') := by
  obtain ⟨S', hA, hf, hg⟩ := hs
  refine ⟨_, ⟨S', T, hA, b.frame hB hf (fun k ht hk => hd k hk ht), fun k h ht => ?_, rfl⟩, hf.mono (fun k _ h => .inl h), ?_⟩
  · rcases hg k h with h | h
    · exact hd k h ht
    · have := b.lt hB k ht; omega
  · rintro k (h | h)
    · exact (hg k h).imp .inl id
    · exact .inl (.inr h)
theorem Step.right {A B' : Thing} (a : Res A) {w w' : World} {S T : Nat → Prop} (hA : A w S) (hs : Step w w' T (B' w')) (hd : ∀ k, S k → ¬ T k) : Step w w' (fun k => S k ∨ T k) (Both A B' w') := by
  obtain ⟨T', hB, hf, hg⟩ := hs
  refine ⟨_, ⟨S, T', a.frame hA hf hd, hB, fun k h ht => ?_, rfl⟩, hf.mono (fun k _ h => .inr h), ?_⟩
  · rcases hg k ht with ht | ht
    · exact hd k h ht
    · have := a.lt hA k h; omega
  · rintro k (h | h)
    · exact .inl (.inl h)
    · exact (hg k h).imp .inr id

/-- A call that makes a new thing leaves the elder. -/
def Made (w w' : World) (B : (Nat → Prop) → Prop) : Prop := ∃ T, B T ∧ Fr fresh w w' ∧ ∀ k, T k → w.heap.size ≤ k
theorem Made.with {A B : Thing} (a : Res A) {w w' : World} {S : Nat → Prop} (hA : A w S) (hs : Made w w' (B w')) : Step w w' S (Both A B w') := by
  obtain ⟨T, hB, hf, hg⟩ := hs
  refine ⟨_, ⟨S, T, a.frame hA hf (fun _ _ h => h), hB, fun k h ht => ?_, rfl⟩, hf.mono (fun _ _ h => h.elim), ?_⟩
  · have := hg k ht; have := a.lt hA k h; omega
  · rintro k (h | h)
    · exact .inl h
    · exact .inr (hg k h)
theorem Step.same {A : Thing} (a : Res A) {w w' : World} {S : Nat → Prop} (hA : A w S) (hf : Fr fresh w w') : Step w w' S (A w') := ⟨S, a.frame hA hf (fun _ _ h => h), hf.mono (fun _ _ h => h.elim), fun _ h => .inl h⟩

/-! What a law's function holds: things that are new since it was called. -/

def Law (w0 w : World) (A : Thing) : Prop := ∃ S, A w S ∧ (∀ k, S k → w0.heap.size ≤ k) ∧ Below w0.heap.size w0 w

theorem Law.below {w0 w : World} {A : Thing} (h : Law w0 w A) : Below w0.heap.size w0 w := by
  obtain ⟨S, _, _, h⟩ := h
  exact h
theorem Law.step {w0 w w' : World} {A' : Thing} {S : Nat → Prop} (hn : ∀ k, S k → w0.heap.size ≤ k) (hb : Below w0.heap.size w0 w) (hs : Step w w' S (A' w')) : Law w0 w' A' := by
  obtain ⟨S', hA, hf, hg⟩ := hs
  refine ⟨S', hA, fun k h => ?_, hb.trans (hf.below hb.size hn)⟩
  rcases hg k h with h | h
  · exact hn k h
  · exact Nat.le_trans hb.size h
theorem Law.made {w0 w w' : World} {B : Thing} (hb : Below w0.heap.size w0 w) (hs : Made w w' (B w')) : Law w0 w' B := by
  obtain ⟨T, hB, hf, hg⟩ := hs
  exact ⟨T, hB, fun k h => Nat.le_trans hb.size (hg k h), hb.trans (hf.below hb.size (fun _ h => h.elim))⟩
theorem Law.op {w0 w : World} {A A' : Thing} (h : Law w0 w A) {f : FuncId} {args : Array Value} {X : Ending} (hop : ∀ S, A w S → Calls Try.prog f args w fun e w' => e = X ∧ Step w w' S (A' w')) :
    Calls Try.prog f args w fun e w' => e = X ∧ Law w0 w' A' := by
  obtain ⟨S, hA, hn, hb⟩ := h
  exact (hop S hA).mono fun e w' ⟨he, hs⟩ => ⟨he, Law.step hn hb hs⟩
theorem Law.alloc {w0 w : World} {A : Thing} (a : Res A) (h : Law w0 w A) (o : Obj) : Law w0 (w.alloc o) A := by
  obtain ⟨S, hA, hn, hb⟩ := h
  exact Law.step hn hb (Step.same a hA ((Fr.refl _ w).alloc o))
theorem Law.drew {w0 w : World} {A : Thing} (a : Res A) (h : Law w0 w A) : Law w0 w.drew A := by
  obtain ⟨S, hA, hn, hb⟩ := h
  exact Law.step hn hb (Step.same a hA (Fr.refl _ w).drew)
theorem Law.imp {w0 w : World} {A B : Thing} (h : Law w0 w A) (hi : ∀ S, A w S → B w S) : Law w0 w B := by
  obtain ⟨S, hA, hn, hb⟩ := h
  exact ⟨S, hi S hA, hn, hb⟩

/-! The disk's calls, so. -/

theorem new_made (n z : Nat) (h1 : 1 ≤ n) (h2 : n ≤ 4096) (h3 : 1 ≤ z) (h4 : z ≤ 4096) (w : World) :
    Calls Try.prog 26 #[.int .i64 (n : Int), .int .i64 (z : Int)] w fun e w' => e = .returned (.tuple #[.pointer (some ⟨w.heap.size + 1, 0, none⟩), .int .i64 0]) ∧ Made w w' (D (w.heap.size + 1) (blank n z) w') := by
  refine (new_yes n z h1 h2 h3 h4 w).mono ?_
  rintro e w' ⟨he, hd, hf⟩
  refine ⟨he, _, ⟨_, _, hd, rfl⟩, hf, ?_⟩
  rintro k (rfl | rfl | hk)
  · omega
  · omega
  · simp [Value.ownBlock] at hk

section
variable {w : World} {g : Nat} {S : Nat → Prop} {m : Dsk}
theorem write_step (n : Int) (x : ByteArray) (hmany : m.wait.length ≤ 1000000) (S : Nat → Prop) (h : D g m w S) : Calls Try.prog 30 #[.pointer (some ⟨g, 0, none⟩), .int .i64 n, .string x] w fun e w' => e = .returned (.int .i64 (checkE m n x.size)) ∧ Step w w' S (D g (wrote m n x) w') := write_at h n x hmany
theorem fail_step (S : Nat → Prop) (h : D g m w S) : Calls Try.prog 35 #[.pointer (some ⟨g, 0, none⟩)] w fun e w' => e = .returned (.int .i64 0) ∧ Step w w' S (D g { m with gone := true, wait := [] } w') := fail_at h
theorem replace_step (S : Nat → Prop) (h : D g m w S) : Calls Try.prog 37 #[.pointer (some ⟨g, 0, none⟩)] w fun e w' => e = .returned (.int .i64 0) ∧ Step w w' S (D g { m with gone := false, wait := [], sec := List.replicate m.sec.length ByteArray.empty } w') := replace_at h
theorem pending_step (S : Nat → Prop) (h : D g m w S) : Calls Try.prog 31 #[.pointer (some ⟨g, 0, none⟩)] w fun e w' => e = .returned (.int .i64 (m.wait.length : Int)) ∧ Step w w' S (D g m w') :=
  (pending_at h).mono fun _ _ ⟨he, hw⟩ => ⟨he, by subst hw; exact Step.same (D.res g m) h (Fr.refl _ _)⟩
theorem alive_step (S : Nat → Prop) (h : D g m w S) : Calls Try.prog 36 #[.pointer (some ⟨g, 0, none⟩)] w fun e w' => e = .returned (.bool (!m.gone)) ∧ Step w w' S (D g m w') :=
  (alive_at h).mono fun _ _ ⟨he, hw⟩ => ⟨he, by subst hw; exact Step.same (D.res g m) h (Fr.refl _ _)⟩
theorem read_step (n : Int) (S : Nat → Prop) (h : D g m w S) : Calls Try.prog 33 #[.pointer (some ⟨g, 0, none⟩), .int .i64 n] w fun e w' => e = .returned (.tuple #[.string (readV m n), .int .i64 (checkE m n 0)]) ∧ Step w w' S (D g m w') :=
  (read_at h n).mono fun _ _ ⟨he, hf⟩ => ⟨he, Step.same (D.res g m) h hf⟩
theorem crash_step (A : Option Addr) (c : Nat) (bs : List Bool) (S : Nat → Prop) (hr : ReadsBools w S A bs) (h : D g m w S) : Calls Try.prog 32 #[.pointer (some ⟨g, 0, none⟩), .slice A bs.length c] w fun e w' => e = .returned (.int .i64 (worksE m)) ∧ Step w w' S (D g (crashed m bs) w') := crash_at h A c bs hr
end

/-- A row of truths that lies ahead of a law's things. -/
theorem Law.readsBools {w0 w : World} {S : Nat → Prop} (hb : Below w0.heap.size w0 w) (hn : ∀ k, S k → w0.heap.size ≤ k) {B : Option Addr} {bs : List Bool}
    (hr : ∀ (j : Nat) b, bs[j]? = some b → ∃ ad, B = some ad ∧ w0.cell? (ad.add j) = some (.bool b)) : ReadsBools w S B bs := by
  intro j b hj
  obtain ⟨ad, rfl, hc⟩ := hr j b hj
  have hlt : ad.block < w0.heap.size := by
    have := World.block_lt_of_cell? w0 _ hc
    rwa [addr_block] at this
  exact ⟨ad, rfl, (hb.cell (by rw [addr_block]; exact hlt)).trans hc, fun h => by have := hn _ h; omega⟩

end Go.Proofs.Ytpmhjagmgjolmaa.Dk
