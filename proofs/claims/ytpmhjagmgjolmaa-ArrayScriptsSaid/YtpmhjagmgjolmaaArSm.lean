/- What an array's calls do to how many writes wait, and to one disk. -/
import Derived.Test.YtpmhjagmgjolmaaArRow
namespace Go.Proofs.Ytpmhjagmgjolmaa.Dk
open Go.RowKit

/-- At most B writes wait on each disk; the fuse is a number that there is. -/
structure Small (a : Arr) (B : Nat) : Prop where
  wait : ∀ m ∈ a.ds, m.wait.length ≤ B
  left : a.left ≤ 9223372036854775807

set_option maxRecDepth 100000 in
theorem Small.dk {a : Arr} {B : Nat} (h : Small a B) (d : Int) : (dk a d).wait.length ≤ B := by
  unfold Dk.dk
  rw [List.getD_eq_getElem?_getD]
  cases e : a.ds[d.toNat]? with
  | none => simp
  | some m => exact h.wait m (List.mem_of_getElem? e)
set_option maxRecDepth 100000 in
theorem Small.mono {a : Arr} {B C : Nat} (h : Small a B) (hc : B ≤ C) : Small a C := ⟨fun m hm => Nat.le_trans (h.wait m hm) hc, h.left⟩
theorem Small.withDk {a : Arr} {B : Nat} (h : Small a B) (d : Int) (m : Dsk) (hm : m.wait.length ≤ B) : Small (withDk a d m) B := by
  refine ⟨fun x hx => ?_, h.left⟩
  rcases List.mem_or_eq_of_mem_set hx with e | e
  · exact h.wait x e
  · rw [e]; exact hm
set_option maxRecDepth 100000 in
theorem wrote_most (m : Dsk) (n : Int) (x : ByteArray) : (wrote m n x).wait.length ≤ m.wait.length + 1 := by
  unfold wrote
  split <;> simp
set_option maxRecDepth 100000 in
theorem corrupted_most (m : Dsk) (n : Int) (x : ByteArray) : (corrupted m n x).wait.length ≤ m.wait.length := by
  unfold corrupted
  split
  · have := List.length_filter_le (fun y : Ev => !((y.1 : Int) == n)) m.wait
    show (stay m.wait n).length ≤ _
    unfold stay
    omega
  · exact Nat.le_refl _
set_option maxRecDepth 100000 in
theorem Small.write {a : Arr} {B : Nat} (h : Small a B) (d n : Int) (s : ByteArray) : Small (awrote a d n s) (B + 1) := by
  unfold awrote
  split
  · exact h.mono (by omega)
  split
  · exact h.mono (by omega)
  split
  · exact h.mono (by omega)
  split
  · exact ⟨fun m hm => Nat.le_trans (h.wait m hm) (by omega), h.left⟩
  · have h2 := (h.mono (Nat.le_succ B)).withDk d (wrote (Dk.dk a d) n s) (Nat.le_trans (wrote_most _ _ _) (by have := h.dk d; omega))
    refine ⟨h2.wait, ?_⟩
    have := h.left
    show (if 0 < a.left then a.left - 1 else a.left) ≤ _
    split <;> omega
set_option maxRecDepth 100000 in
theorem Small.fail {a : Arr} {B : Nat} (h : Small a B) (d : Int) : Small (afaild a d) B := by
  unfold afaild
  split
  · exact h
  · exact h.withDk d _ (by simp)
set_option maxRecDepth 100000 in
theorem Small.replace {a : Arr} {B : Nat} (h : Small a B) (d : Int) : Small (areplaced a d) B := by
  unfold areplaced
  split
  · exact h
  · exact h.withDk d _ (by simp)
set_option maxRecDepth 100000 in
theorem Small.corrupt {a : Arr} {B : Nat} (h : Small a B) (d n : Int) (s : ByteArray) : Small (acorrupted a d n s) B := by
  unfold acorrupted
  split
  · exact h
  · exact h.withDk d _ (Nat.le_trans (corrupted_most _ _ _) (h.dk d))
set_option maxRecDepth 100000 in
theorem Small.fuse {a : Arr} {B : Nat} (h : Small a B) (n : Int) (hn : n ≤ 9223372036854775807) : Small (fused a n) B := by
  unfold fused
  split
  · exact h
  · exact ⟨h.wait, hn⟩
set_option maxRecDepth 100000 in
theorem Small.blanks (d n z : Nat) : Small (blanks d n z) 0 := by
  refine ⟨fun m hm => ?_, by show (-1 : Int) ≤ _; decide⟩
  obtain rfl := (List.mem_replicate.1 hm).2
  simp [blank]

/-! ArrayLost: behind writes alone. -/

/-- An array behind writes: no fuse, there is power, each disk but for what waits as it was made. -/
structure Fresh (d n : Nat) (a : Arr) : Prop where
  left : a.left = -1
  down : a.down = false
  len : a.ds.length = d
  disks : ∀ m ∈ a.ds, ∃ ws, m = { blank n 8 with wait := ws }
set_option maxRecDepth 100000 in
theorem Fresh.first (d n : Nat) : Fresh d n (blanks d n 8) := ⟨rfl, rfl, by simp [Dk.blanks], fun m hm => ⟨[], (List.mem_replicate.1 hm).2⟩⟩
theorem Fresh.write {d n : Nat} {a : Arr} (h : Fresh d n a) (i k : Int) (s : ByteArray) : Fresh d n (awrote a i k s) := by
  unfold awrote
  rw [if_neg (by rw [h.down]; decide)]
  split
  · exact h
  · rename_i hn
    split
    · exact h
    · rw [if_neg (by rw [h.left]; decide)]
      refine ⟨by show (if 0 < a.left then a.left - 1 else a.left) = -1; rw [h.left]; decide, h.down, by simp [Dk.withDk, h.len], fun m hm => ?_⟩
      rcases List.mem_or_eq_of_mem_set hm with e | e
      · exact h.disks m e
      · obtain ⟨ws, hw⟩ := h.disks (dk a i) (List.mem_of_getElem? (dk_at hn).1)
        rw [e, hw]
        unfold wrote
        split
        · exact ⟨_, rfl⟩
        · exact ⟨ws, rfl⟩
set_option maxRecDepth 100000 in
theorem crashed_nil (m : Dsk) (hg : m.gone = false) : crashed m [] = { m with wait := [] } := by
  unfold crashed
  rw [if_neg (by rw [hg]; decide)]
  cases m.wait <;> simp [kept]
set_option maxRecDepth 100000 in
theorem Fresh.crash {d n : Nat} {a : Arr} (h : Fresh d n a) : acrashed a [] = blanks d n 8 := by
  unfold acrashed Dk.blanks
  have : crashAll a.ds [] = List.replicate d (blank n 8) := by
    apply List.ext_getElem?
    intro j
    by_cases hj : j < d
    · obtain ⟨m, hm⟩ : ∃ m, a.ds[j]? = some m := ⟨_, List.getElem?_eq_getElem (by rw [h.len]; exact hj)⟩
      obtain ⟨ws, rfl⟩ := h.disks m (List.mem_of_getElem? hm)
      rw [crashAll_get _ _ _ _ hm, List.getElem?_replicate, if_pos hj]
      simp only [List.drop_nil, List.take_nil]
      rw [crashed_nil _ rfl]
      rfl
    · rw [List.getElem?_eq_none (by rw [crashAll_len, h.len]; omega), List.getElem?_eq_none (by simp; omega)]
  rw [this]
set_option maxRecDepth 100000 in
theorem blanks_read (d n : Nat) (i k : Nat) (hi : i < d) (hk : k < n) : areadE (blanks d n 8) i k = 0 ∧ areadV (blanks d n 8) i k = ByteArray.empty := by
  have hno : ¬ noDisk (blanks d n 8) (i : Int) := by
    unfold noDisk
    simp [Dk.blanks]
    omega
  have hd : dk (blanks d n 8) (i : Int) = blank n 8 := by
    unfold dk
    simp [Dk.blanks, hi]
  have hl : (blank n 8).sec.length = n := by simp [blank]
  obtain ⟨r1, r2⟩ := read_fine (blank n 8) k rfl (by rw [hl]; exact hk)
  unfold areadE areadV
  have hdown : (blanks d n 8).down = false := rfl
  simp only [hdown, Bool.false_eq_true, if_false]
  rw [if_neg hno, if_neg hno, hd, r1, r2]
  refine ⟨rfl, ?_⟩
  simp [latest, blank, hk]

end Go.Proofs.Ytpmhjagmgjolmaa.Dk
