/- ArrayAlone's walk. -/
import Derived.Test.YtpmhjagmgjolmaaArSm
namespace Go.Proofs.Ytpmhjagmgjolmaa.Dk
open Go.RowKit

def bK : ByteArray := ⟨#[107, 101, 112, 116]⟩
/-- Disk 1 behind its first k writes. -/
def kd (n k : Nat) : Dsk := { blank n 8 with wait := (List.range k).map fun i => (i, bK) }

/-- No fuse, power, d disks, disk 1 as said. -/
structure One (d : Nat) (m : Dsk) (a : Arr) : Prop where
  left : a.left = -1
  down : a.down = false
  len : a.ds.length = d
  one : a.ds[1]? = some m

set_option maxRecDepth 100000 in
theorem kd_check (n k i l : Nat) (hi : i < n) (hl : l ≤ 8) : checkE (kd n k) i l = 0 := by
  have h : (kd n k).sec.length = n := by simp [kd, blank]
  unfold checkE
  rw [if_neg (by simp [kd, blank]), if_neg (by rw [h]; omega), if_neg (by simp [kd, blank]; omega)]
set_option maxRecDepth 100000 in
theorem kd_wrote (n k : Nat) (hk : k < n) : wrote (kd n k) k bK = kd n (k + 1) := by
  unfold wrote
  rw [if_pos (kd_check n k k bK.size hk (by decide))]
  unfold kd
  simp only [List.range_succ, List.map_append, List.map_cons, List.map_nil, Int.toNat_natCast]
set_option maxRecDepth 100000 in
theorem One.dk {d : Nat} {m : Dsk} {a : Arr} (h : One d m a) : dk a 1 = m := by
  unfold Dk.dk
  rw [show ((1 : Int)).toNat = 1 from rfl, List.getD_eq_getElem?_getD, h.one]
  rfl
set_option maxRecDepth 100000 in
theorem One.two {d : Nat} {m : Dsk} {a : Arr} (h : One d m a) : 2 ≤ d := by
  have := (List.getElem?_eq_some_iff.1 h.one).1
  rw [h.len] at this
  omega
set_option maxRecDepth 100000 in
theorem One.no {d : Nat} {m : Dsk} {a : Arr} (h : One d m a) : ¬ noDisk a 1 := by
  unfold noDisk
  rw [h.len]
  have := h.two
  omega
set_option maxRecDepth 100000 in
theorem One.first (d n : Nat) (hd : 2 ≤ d) : One d (kd n 0) (blanks d n 8) := by
  refine ⟨rfl, rfl, by simp [Dk.blanks], ?_⟩
  simp [Dk.blanks, kd, blank, show 1 < d by omega]
set_option maxRecDepth 100000 in
theorem One.write1 {d n k : Nat} {a : Arr} (h : One d (kd n k) a) (hk : k < n) : awriteE a 1 k bK.size = 0 ∧ One d (kd n (k + 1)) (awrote a 1 k bK) := by
  have hc := kd_check n k k bK.size hk (by decide)
  unfold awriteE awrote
  have hd : ¬ a.down = true := by rw [h.down]; decide
  have hl : ¬ a.left = 0 := by rw [h.left]; decide
  have hz : ¬ ((0 : Int) ≠ 0) := by simp
  simp only [if_neg hd, if_neg h.no, h.dk, hc, if_neg hz, if_neg hl, kd_wrote n k hk]
  refine ⟨trivial, by show (if 0 < a.left then a.left - 1 else a.left) = -1; rw [h.left]; decide, h.down, by simp [withDk, h.len], ?_⟩
  show (a.ds.set 1 (kd n (k + 1)))[1]? = _
  rw [List.getElem?_set_self (by rw [h.len]; have := h.two; omega)]
set_option maxRecDepth 100000 in
theorem One.set0 {d : Nat} {m : Dsk} {a : Arr} (h : One d m a) (x : Dsk) : One d m (withDk a 0 x) := by
  refine ⟨h.left, h.down, by simp [withDk, h.len], ?_⟩
  show (a.ds.set 0 x)[1]? = _
  rw [List.getElem?_set_ne (by decide)]
  exact h.one
set_option maxRecDepth 100000 in
theorem One.write0 {d : Nat} {m : Dsk} {a : Arr} (h : One d m a) (n : Int) (s : ByteArray) : One d m (awrote a 0 n s) := by
  unfold awrote
  rw [if_neg (by rw [h.down]; decide)]
  split
  · exact h
  split
  · exact h
  · rw [if_neg (by rw [h.left]; decide)]
    have h2 := h.set0 (wrote (Dk.dk a 0) n s)
    exact ⟨by show (if 0 < a.left then a.left - 1 else a.left) = -1; rw [h.left]; decide, h2.down, h2.len, h2.one⟩
set_option maxRecDepth 100000 in
theorem One.fail0 {d : Nat} {m : Dsk} {a : Arr} (h : One d m a) : One d m (afaild a 0) := by
  unfold afaild
  split
  · exact h
  · exact h.set0 _
set_option maxRecDepth 100000 in
theorem One.replace0 {d : Nat} {m : Dsk} {a : Arr} (h : One d m a) : One d m (areplaced a 0) := by
  unfold areplaced
  split
  · exact h
  · exact h.set0 _
set_option maxRecDepth 100000 in
theorem One.corrupt0 {d : Nat} {m : Dsk} {a : Arr} (h : One d m a) (n : Int) (s : ByteArray) : One d m (acorrupted a 0 n s) := by
  unfold acorrupted
  split
  · exact h
  · exact h.set0 _

set_option maxRecDepth 100000 in
theorem kd_find (n i : Nat) (hi : i < n) : ((List.range n).map fun i => ((i, bK) : Ev)).reverse.find? (fun x => (x.1 : Int) == (i : Int)) = some (i, bK) := by
  rw [List.find?_eq_some_iff_append]
  refine ⟨by simp, ((List.range (n - 1 - i)).map fun j => ((i + 1 + j, bK) : Ev)).reverse, ((List.range i).map fun j => ((j, bK) : Ev)).reverse, ?_, ?_⟩
  · have : List.range n = List.range i ++ [i] ++ (List.range (n - 1 - i)).map (fun j => i + 1 + j) := by
      have h1 : n = i + 1 + (n - 1 - i) := by omega
      conv => lhs; rw [h1]
      rw [List.range_add, List.range_succ]
    rw [this]
    simp [List.map_append, List.reverse_append]
  · intro x hx
    simp only [List.mem_reverse, List.mem_map, List.mem_range] at hx
    obtain ⟨j, -, rfl⟩ := hx
    simp
    omega
set_option maxRecDepth 100000 in
theorem One.tells {d n : Nat} {a : Arr} (h : One d (kd n n) a) (i : Nat) (hi : i < n) : areadE a 1 i = 0 ∧ areadV a 1 i = ⟨#[107, 101, 112, 116]⟩ := by
  have hl : (kd n n).sec.length = n := by simp [kd, blank]
  obtain ⟨r1, r2⟩ := read_fine (kd n n) i rfl (by rw [hl]; exact hi)
  unfold areadE areadV
  simp only [h.down, Bool.false_eq_true, if_false]
  rw [if_neg h.no, if_neg h.no, h.dk, r1, r2]
  refine ⟨rfl, ?_⟩
  unfold latest
  rw [show (kd n n).wait = (List.range n).map fun i => ((i, bK) : Ev) from rfl, kd_find n i hi]
  rfl
set_option maxRecDepth 100000 in
theorem One.alive {d n : Nat} {a : Arr} (h : One d (kd n n) a) : aalive a 1 = true := by
  unfold aalive
  rw [if_neg h.no, h.dk]
  rfl

end Go.Proofs.Ytpmhjagmgjolmaa.Dk
