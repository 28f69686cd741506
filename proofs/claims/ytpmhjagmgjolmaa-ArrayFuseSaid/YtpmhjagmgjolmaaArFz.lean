/- ArrayFuse, in plain words: the array behind i writes under a fuse of f. -/
import Derived.Test.YtpmhjagmgjolmaaArRow
namespace Go.Proofs.Ytpmhjagmgjolmaa.Dk
open Go.RowKit

def bX : ByteArray := ⟨#[120]⟩
/-- Those of the first c writes that are disk j's. -/
def wq (c j : Nat) : List Ev := ((List.range c).filter fun k => k % 2 == j).map fun k => (k, bX)
def fd (c j : Nat) : Dsk := { blank 100 8 with wait := wq c j }
def fz (f i : Nat) : Arr := { ds := [fd (min i f) 0, fd (min i f) 1], left := (f : Int) - ((min i f : Nat) : Int), down := decide (f < i) }

set_option maxRecDepth 100000 in
theorem wq_succ (c j : Nat) : wq (c + 1) j = wq c j ++ (if c % 2 = j then [(c, bX)] else []) := by
  unfold wq
  rw [List.range_succ, List.filter_append, List.map_append]
  by_cases h : c % 2 = j <;> simp [h]
set_option maxRecDepth 100000 in
theorem wq_len (c j : Nat) : (wq c j).length ≤ c := by
  unfold wq
  rw [List.length_map]
  have := List.length_filter_le (fun k => k % 2 == j) (List.range c)
  simpa using this
set_option maxRecDepth 100000 in
theorem wq_mem (c j : Nat) (e : Ev) : e ∈ wq c j ↔ e.2 = bX ∧ e.1 < c ∧ e.1 % 2 = j := by
  unfold wq
  simp only [List.mem_map, List.mem_filter, List.mem_range, beq_iff_eq]
  constructor
  · rintro ⟨k, ⟨h1, h2⟩, rfl⟩
    exact ⟨rfl, h1, h2⟩
  · rintro ⟨h0, h1, h2⟩
    exact ⟨e.1, ⟨h1, h2⟩, by rw [← h0]⟩
set_option maxRecDepth 100000 in
theorem fz_zero (f : Nat) : fused (blanks 2 100 8) f = fz f 0 := by
  unfold fused
  rw [if_neg (by omega)]
  simp [fz, blanks, fd, wq, blank]

set_option maxRecDepth 100000 in
theorem fz_no (f i : Nat) (k : Nat) : ¬ noDisk (fz f i) ((k % 2 : Nat) : Int) := by
  have h : (fz f i).ds.length = 2 := rfl
  unfold noDisk
  rw [h]
  omega
set_option maxRecDepth 100000 in
theorem fz_dk (f i : Nat) (k : Nat) : dk (fz f i) ((k % 2 : Nat) : Int) = fd (min i f) (k % 2) := by
  unfold dk
  rw [Int.toNat_natCast]
  rcases Nat.mod_two_eq_zero_or_one k with h | h <;> rw [h] <;> rfl
set_option maxRecDepth 100000 in
theorem fz_check (c j i : Nat) (hi : i < 100) : checkE (fd c j) i 1 = 0 := by
  have h : (fd c j).sec.length = 100 := by simp [fd, blank]
  unfold checkE
  rw [if_neg (by simp [fd, blank]), if_neg (by rw [h]; omega), if_neg (by simp [fd, blank])]
set_option maxRecDepth 100000 in
theorem fz_E (f i : Nat) (hi : i < 100) : awriteE (fz f i) ((i % 2 : Nat) : Int) i 1 = if i < f then 0 else 9 := by
  unfold awriteE
  by_cases h1 : f < i
  · rw [if_pos (by simp [fz, h1]), if_neg (by omega)]
  rw [if_neg (by simp [fz, h1]), if_neg (fz_no f i i), fz_dk, fz_check _ _ _ hi, if_neg (by simp)]
  by_cases h2 : i < f
  · rw [if_neg (by simp only [fz]; omega), if_pos h2]
  · rw [if_pos (by simp only [fz]; omega), if_neg h2]
set_option maxRecDepth 100000 in
theorem fz_next (f i : Nat) (hi : i < 100) : awrote (fz f i) ((i % 2 : Nat) : Int) i bX = fz f (i + 1) := by
  unfold awrote
  by_cases h1 : f < i
  · rw [if_pos (by simp [fz, h1])]
    simp only [fz]
    rw [show min (i + 1) f = min i f by omega]
    have e1 : decide (f < i) = true := by simp [h1]
    have e2 : decide (f < i + 1) = true := by simp; omega
    rw [e1, e2]
  rw [if_neg (by simp [fz, h1]), if_neg (fz_no f i i), show bX.size = 1 from rfl, fz_dk, fz_check _ _ _ hi, if_neg (by simp)]
  by_cases h2 : i < f
  · rw [if_neg (by simp only [fz]; omega)]
    have hw : wrote (fd (min i f) (i % 2)) i bX = fd (min (i + 1) f) (i % 2) := by
      unfold wrote
      rw [show bX.size = 1 from rfl, if_pos (fz_check _ _ _ hi), show min i f = i by omega, show min (i + 1) f = i + 1 by omega]
      unfold fd
      simp only [wq_succ, if_true, Int.toNat_natCast]
    rw [hw]
    have hpos : 0 < (fz f i).left := by simp only [fz]; omega
    rw [if_pos hpos]
    unfold withDk
    simp only [fz, Int.toNat_natCast]
    have e1 : decide (f < i) = false := by simp; omega
    have e2 : decide (f < i + 1) = false := by simp; omega
    rw [e1, e2]
    have hl : (f : Int) - ((min i f : Nat) : Int) - 1 = (f : Int) - ((min (i + 1) f : Nat) : Int) := by omega
    rw [hl]
    have hother : ∀ j, i % 2 ≠ j → fd (min i f) j = fd (min (i + 1) f) j := by
      intro j hj
      rw [show min i f = i by omega, show min (i + 1) f = i + 1 by omega]
      unfold fd
      rw [wq_succ, if_neg hj, List.append_nil]
    rcases Nat.mod_two_eq_zero_or_one i with h | h
    · rw [h, hother 1 (by omega)]
      rfl
    · rw [h, hother 0 (by omega)]
      rfl
  · rw [if_pos (by simp only [fz]; omega)]
    simp only [fz]
    rw [show min (i + 1) f = min i f by omega]
    have e2 : decide (f < i + 1) = true := by simp; omega
    rw [e2]

/-- Writes of one text, all kept. -/
theorem kept_same (x : ByteArray) : ∀ (ws : List Ev) (bs : List Bool) (L : List ByteArray) (n : Nat), (∀ e ∈ ws, e.2 = x ∧ e.1 < L.length) → (∀ j, j < ws.length → bs[j]? = some true) →
    (kept L ws bs)[n]? = if (∃ e ∈ ws, e.1 = n) then some x else L[n]?
  | [], bs, L, n, _, _ => by simp [kept]
  | y :: ys, [], L, n, _, hb => by have := hb 0 (by simp); simp at this
  | y :: ys, b :: bs, L, n, hx, hb => by
    have hb0 : b = true := by have := hb 0 (by simp); simpa using this
    obtain ⟨h1, h2⟩ := hx y (by simp)
    rw [kept, if_pos hb0, kept_same x ys bs _ n (fun e he => by rw [List.length_set]; exact hx e (by simp [he])) (fun j hj => by have := hb (j + 1) (by simp; omega); simpa using this)]
    by_cases h3 : ∃ e ∈ ys, e.1 = n
    · obtain ⟨e, he, rfl⟩ := h3
      rw [if_pos ⟨e, he, rfl⟩, if_pos ⟨e, by simp [he], rfl⟩]
    · rw [if_neg h3]
      by_cases h4 : y.1 = n
      · rw [if_pos ⟨y, by simp, h4⟩, ← h4, List.getElem?_set_self h2, h1]
      · rw [List.getElem?_set_ne h4, if_neg]
        rintro ⟨e, he, h5⟩
        rcases List.mem_cons.1 he with rfl | he
        · exact h4 h5
        · exact h3 ⟨e, he, h5⟩

set_option maxRecDepth 100000 in
theorem fz_crash (f i : Nat) (hi : i ≤ 100) (k : Nat) (hk : k < 100) : areadE (acrashed (fz f i) (List.replicate 200 true)) ((k % 2 : Nat) : Int) k = 0 ∧
    areadV (acrashed (fz f i) (List.replicate 200 true)) ((k % 2 : Nat) : Int) k = if k < f ∧ k < i then bX else ByteArray.empty := by
  obtain ⟨c, hc⟩ : ∃ c, min i f = c := ⟨_, rfl⟩
  have hc100 : c ≤ 100 := by omega
  have hkc : (k < f ∧ k < i) ↔ k < c := by omega
  have hds : (fz f i).ds = [fd c 0, fd c 1] := by rw [← hc]; rfl
  obtain ⟨j, hj⟩ : ∃ j, k % 2 = j := ⟨_, rfl⟩
  have hj2 : j < 2 := by omega
  have hget : (fz f i).ds[j]? = some (fd c j) := by
    rw [hds]
    match j, hj2 with
    | 0, _ => rfl
    | 1, _ => rfl
  have hoff : offs (fz f i).ds j ≤ 100 := by
    have := wq_len c 0
    rw [hds]
    match j, hj2 with
    | 0, _ => simp [offs]
    | 1, _ => simp [offs, fd]; omega
  have hcr := crashAll_get (fz f i).ds (List.replicate 200 true) j (fd c j) hget
  have hn : ¬ noDisk (acrashed (fz f i) (List.replicate 200 true)) ((k % 2 : Nat) : Int) := by
    have : (acrashed (fz f i) (List.replicate 200 true)).ds.length = 2 := by unfold acrashed; rw [crashAll_len]; rfl
    unfold noDisk
    rw [this]
    omega
  have hd : dk (acrashed (fz f i) (List.replicate 200 true)) ((k % 2 : Nat) : Int) = crashed (fd c j) (((List.replicate 200 true).drop (offs (fz f i).ds j)).take (fd c j).wait.length) := by
    unfold dk acrashed
    rw [Int.toNat_natCast, hj, List.getD_eq_getElem?_getD]
    simp only [hcr]
    rfl
  obtain ⟨bs, hbs⟩ : ∃ bs, ((List.replicate 200 true).drop (offs (fz f i).ds j)).take (fd c j).wait.length = bs := ⟨_, rfl⟩
  rw [hbs] at hd
  have hbt : ∀ q, q < (fd c j).wait.length → bs[q]? = some true := by
    intro q hq
    have hwl : (fd c j).wait.length ≤ 100 := Nat.le_trans (wq_len c j) hc100
    rw [← hbs, List.getElem?_take, if_pos hq, List.getElem?_drop, List.getElem?_replicate, if_pos (by omega)]
  have hlen : (crashed (fd c j) bs).sec.length = 100 := by
    unfold crashed
    rw [if_neg (by simp [fd, blank])]
    simp only [length_kept]
    simp [fd, blank]
  have hsec : (crashed (fd c j) bs).sec[k]? = some (if k < c then bX else ByteArray.empty) := by
    unfold crashed
    rw [if_neg (by simp [fd, blank])]
    simp only
    have hw : (fd c j).wait = wq c j := rfl
    have hs : (fd c j).sec = List.replicate 100 ByteArray.empty := rfl
    rw [kept_same bX (fd c j).wait bs (fd c j).sec k (fun e he => by
      rw [hw] at he
      obtain ⟨h1, h2, h3⟩ := (wq_mem c j e).1 he
      exact ⟨h1, by rw [hs]; simp; omega⟩) hbt]
    by_cases h : k < c
    · rw [if_pos h, if_pos ⟨(k, bX), by rw [hw]; exact (wq_mem c j _).2 ⟨rfl, h, hj⟩, rfl⟩]
    · rw [if_neg h, if_neg, hs, List.getElem?_replicate, if_pos hk]
      · rintro ⟨e, he, rfl⟩
        rw [hw] at he
        exact h ((wq_mem c j e).1 he).2.1
  have hgone : (crashed (fd c j) bs).gone = false := by
    unfold crashed
    rw [if_neg (by simp [fd, blank])]
    rfl
  have hwait : (crashed (fd c j) bs).wait = [] := by
    unfold crashed
    rw [if_neg (by simp [fd, blank])]
  obtain ⟨r1, r2⟩ := read_fine (crashed (fd c j) bs) k hgone (by rw [hlen]; exact hk)
  have hdown : (acrashed (fz f i) (List.replicate 200 true)).down = false := rfl
  unfold areadE areadV
  simp only [hdown, Bool.false_eq_true, if_false]
  rw [if_neg hn, if_neg hn, hd, r1, r2]
  refine ⟨rfl, ?_⟩
  unfold latest
  rw [hwait]
  simp only [List.reverse_nil, List.find?_nil, List.getD_eq_getElem?_getD, hsec, Option.getD_some]
  by_cases h : k < c
  · rw [if_pos h, if_pos (hkc.2 h)]
  · rw [if_neg h, if_neg (fun e => h (hkc.1 e))]

end Go.Proofs.Ytpmhjagmgjolmaa.Dk
