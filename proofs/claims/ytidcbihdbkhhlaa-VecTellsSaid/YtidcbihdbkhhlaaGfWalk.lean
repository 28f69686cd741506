/- The walks of layer 1's functions that use the tables: make1 hands back the tables of powers and of logarithms, whole; Div, Exp, Log, Pow hand back what the plain arithmetic says. -/
import Derived.Test.YtidcbihdbkhhlaaProg
import Derived.Test.YtidcbihdbkhhlaaGfMath
import Derived.WalkKit
import Derived.KernelRfl
import Derived.Deep.LoopGhost
import Derived.Deep.WholeRow
import Derived.Deep.QuietTactic
import Derived.BigQuiet
import Derived.Laws.ResultCell
import Derived.Laws.BitsAllLaws
import Derived.Lib.Hide
namespace Go.Proofs.Ytidcbihdbkhhlaa.Gf
open Go.RowKit

/-- The tables behind k rounds. -/
def expAt (k i : Nat) : Value := .int .u8 (if i % 255 < k then (ex i : Nat) else 0 : Nat)
def logAt (k v : Nat) : Value := .int .i64 (if v ≠ 0 ∧ lg v < k then (lg v : Nat) else 0 : Nat)
def tab (k : Nat) : Array Value := ((List.range 510).map (expAt k) ++ (List.range 256).map (logAt k)).toArray

theorem tab_size (k : Nat) : (tab k).size = 766 := by simp [tab]
theorem tab_exp (k i : Nat) (h : i < 510) : (tab k)[i]? = some (expAt k i) := by
  simp [tab, List.getElem?_append, h]
theorem tab_log (k v : Nat) (h : v < 256) : (tab k)[510 + v]? = some (logAt k v) := by
  simp [tab, List.getElem?_append, h]
theorem tab_one (k : Nat) : (tab k).all (·.oneCell') = true := by
  rw [Array.all_eq_true_iff_forall_mem]
  intro x hx
  simp only [tab, List.mem_toArray, List.mem_append, List.mem_map, List.mem_range] at hx
  rcases hx with ⟨i, _, rfl⟩ | ⟨i, _, rfl⟩ <;> rfl

/-- One round: three stores. -/
theorem tab_step (k : Nat) (hk : k < 255) :
    (((tab k).setIfInBounds k (.int .u8 (ex k : Nat))).setIfInBounds (k + 255) (.int .u8 (ex k : Nat))).setIfInBounds (510 + ex k) (.int .i64 (k : Nat)) = tab (k + 1) := by
  have hx := ex_lt k
  apply Array.ext_getElem?
  intro i
  simp only [Array.getElem?_setIfInBounds, Array.size_setIfInBounds, tab_size]
  by_cases h : i < 510
  · rw [tab_exp _ i h, tab_exp _ i h, if_neg (by omega)]
    unfold expAt
    by_cases h1 : i = k + 255
    · subst h1
      rw [if_pos rfl, if_pos (by omega), ex_period, if_pos (by omega)]
    · rw [if_neg (by omega)]
      by_cases h2 : i = k
      · subst h2
        rw [if_pos rfl, if_pos (by omega), if_pos (by omega)]
      · rw [if_neg (by omega)]
        congr 4
        apply propext
        omega
  · by_cases h' : i < 766
    · obtain ⟨v, rfl⟩ : ∃ v, i = 510 + v := ⟨i - 510, by omega⟩
      have hv : v < 256 := by omega
      rw [tab_log _ v hv, tab_log _ v hv]
      unfold logAt
      by_cases h1 : v = ex k
      · subst h1
        rw [if_pos rfl, if_pos (by omega), lg_ex hk, if_pos ⟨ex_ne k, by omega⟩]
      · rw [if_neg (by omega), if_neg (by omega), if_neg (by omega)]
        by_cases h0 : v = 0
        · subst h0; simp
        · have hne : lg v ≠ k := fun e => h1 (by rw [← e, ex_lg h0 hv])
          congr 4
          apply propext
          omega
    · have : ∀ k, (tab k)[i]? = none := fun k => Array.getElem?_eq_none (by rw [tab_size]; omega)
      rw [this, this, if_neg (by omega), if_neg (by omega), if_neg (by omega)]

theorem bits_i64 (a b : Nat) (ha : a < 65536) (hb : b < 65536) : bits .xor .i64 (a : Int) (b : Int) = ((a ^^^ b : Nat) : Int) := by
  have h : a ^^^ b < 65536 := Nat.xor_lt_two_pow (n := 16) ha hb
  simp only [bits, BitVec.ofInt_natCast, BitVec.toNat_xor, BitVec.toNat_ofNat]
  rw [Nat.mod_eq_of_lt (Nat.lt_of_lt_of_le ha (by decide)), Nat.mod_eq_of_lt (Nat.lt_of_lt_of_le hb (by decide)), IntKind.wrap_i64]
  omega
theorem tw_hi (x : Nat) (h : 255 < x * 2) (hx : x < 256) : bits .xor .i64 ((x : Int) * 2) 285 = ((tw x : Nat) : Int) := by
  have := bits_i64 (x * 2) 285 (by omega) (by decide)
  rw [tw, if_pos h, ← this]
  rfl
theorem tw_lo (x : Nat) (h : ¬ 255 < x * 2) : (x : Int) * 2 = ((tw x : Nat) : Int) := by
  rw [tw, if_neg h]
  rfl

theorem alloc2_setRow (w : World) (a b c : Array Value) (t u : TypeId) :
    ((w.alloc (.cells a t)).alloc (.cells b u)).setRow w.heap.size c = (w.alloc (.cells c t)).alloc (.cells b u) := by
  simp only [World.setRow, World.alloc]
  congr 1
  apply Array.ext_getElem?
  intro i
  rw [Array.getElem?_modify]
  by_cases h : w.heap.size = i
  · subst h
    simp [Array.getElem?_push]
  · have h' : ¬ i = w.heap.size := fun e => h e.symm
    simp [h, h', Array.getElem?_push]

theorem info41 : (Try.prog.info? 52).map (fun i => (i.zero, i.size)) = some (some (.agg (tab 0)), 766) := by kernel_rfl


set_option maxHeartbeats 1000000 in
set_option maxRecDepth 100000 in
theorem make1_calls (w : World) :
    Calls Try.prog 28 #[] w fun e w' => e = .returned (.agg (tab 255)) ∧ w' = (w.alloc (.cells (tab 255) 52)).alloc (.cells (tab 255) 52) := by
  obtain ⟨hz41, hi41⟩ := zero_of_info info41
  go_enter Try.func28, Try.ntmps28
  go_wp2
  go_loopg [2, 4] 255 (fun g s2 s4 wx => ∃ k : Nat, k + g = 255 ∧ s2 = .int .i64 (ex k : Nat) ∧ s4 = .int .i64 (k : Nat) ∧ wx = (w.alloc (.cells (tab 0) 52)).alloc (.cells (tab k) 52))
  case atStart => exact ⟨0, by omega, rfl, rfl, rfl⟩
  case round =>
    obtain ⟨k, hkg, rfl, rfl, rfl⟩ := hrel
    cases gk with
    | zero =>
      obtain rfl : k = 255 := by omega
      have hi : (Try.prog.info? 52).map (·.size) = some (tab 255).size := by rw [tab_size]; exact hi41
      have hu : ∃ d, Try.prog.underlying 52 = some d ∧ (match d with | .struct _ | .array _ _ => true | _ => false) = true := ⟨_, Try.underlying52, rfl⟩
      have HI := Lib.hid hi
      clear hi
      have hW0 := heap_alloc2_old w (.cells (tab 0) 52) (.cells (tab 255) 52)
      have hW1 := heap_alloc2_new w (.cells (tab 0) 52) (.cells (tab 255) 52)
      have HW0 := Lib.hid hW0
      have HW1 := Lib.hid hW1
      clear hW0 hW1 hz41 hi41
      go_wp2_with (first | (refine wpList_load_row rfl 52 (.tmp 1) rfl (w.heap.size + 1) rfl 52 (tab 255) (0, 0) _ HW1.out Try.underlying52 rfl HI.out ?_) | (refine wpList_store_row rfl 52 (.tmp 0) (.tmp 29) rfl w.heap.size (tab 255) rfl rfl 52 (tab 0) HW0.out HI.out (by rw [tab_size, tab_size]) (tab_one 255) ?_))
      refine bodyPost_ret (v := .agg (tab 255)) ?_ rfl ⟨rfl, alloc2_setRow w _ _ _ _ _⟩
      exact results_cell_row rfl _ _ w.heap.size 52 (tab 255) (0, 0) _ rfl (setRow_heap _ _ _ _ _ _ HW0.out) Try.underlying52 rfl HI.out
    | succ g =>
      have hk : (k : Int) < 255 := by omega
      obtain ⟨x, hx⟩ : ∃ x : Nat, ex k = x := ⟨_, rfl⟩
      rw [hx]
      have hx256 : (x : Int) < 256 := by have := ex_lt k; omega
      have HX := Lib.hid hx
      clear hx
      have hst := tab_step k (by omega)
      rw [HX.out] at hst
      have HST := Lib.hid hst
      clear hst
      obtain ⟨v1, c1⟩ : ∃ v, (tab k)[k]? = some v := ⟨_, tab_exp k k (by omega)⟩
      obtain ⟨v2, c2⟩ : ∃ v, (tab k)[k + 255]? = some v := ⟨_, tab_exp k (k + 255) (by omega)⟩
      obtain ⟨v3, c3⟩ : ∃ v, (((tab k).setIfInBounds k (.int .u8 (x : Int))).setIfInBounds (k + 255) (.int .u8 (x : Int)))[510 + x]? = some v :=
        ⟨_, Array.getElem?_eq_getElem (by simp [tab_size]; omega)⟩
      by_cases hx2 : 255 < (x : Int) * 2
      · go_wp2
        go_roundg g
        case measure => omega
        case rel => exact ⟨k + 1, by omega, by show Value.int _ _ = Value.int _ ((tw (ex k) : Nat) : Int); rw [HX.out, tw_hi x (by omega) (by omega)], by go_num, by rw [HST.out]⟩
      · go_wp2
        go_roundg g
        case measure => omega
        case rel => exact ⟨k + 1, by omega, by show Value.int _ _ = Value.int _ ((tw (ex k) : Nat) : Int); rw [HX.out, tw_lo x (by omega)], by go_num, by rw [HST.out]⟩


/-- The world behind 't := make1()': three blocks more, each with the tables. -/
def tabW (w : World) : World := ((w.alloc (.cells (tab 255) 52)).alloc (.cells (tab 255) 52)).alloc (.cells (tab 255) 52)
theorem tabW_below (w : World) : Below w.heap.size w (tabW w) :=
  (((Below.refl _ _).alloc (Nat.le_refl _) _).alloc (by simp) _).alloc (by simp; omega) _
/-- The third block's own row, as it is made, and the world behind its store. -/
theorem tabW_new (w : World) : (((w.alloc (.cells (tab 255) 52)).alloc (.cells (tab 255) 52)).alloc (.cells (tab 0) 52)).heap[w.heap.size + 1 + 1]? = some (.cells (tab 0) 52) := by
  have h := heap_alloc_new ((w.alloc (.cells (tab 255) 52)).alloc (.cells (tab 255) 52)) (.cells (tab 0) 52)
  have e : ((w.alloc (.cells (tab 255) 52)).alloc (.cells (tab 255) 52)).heap.size = w.heap.size + 1 + 1 := by simp
  rwa [e] at h
theorem tabW_set (w : World) : (((w.alloc (.cells (tab 255) 52)).alloc (.cells (tab 255) 52)).alloc (.cells (tab 0) 52)).setRow (w.heap.size + 1 + 1) (tab 255) = tabW w := by
  have h := World.setRow_alloc_new ((w.alloc (.cells (tab 255) 52)).alloc (.cells (tab 255) 52)) (tab 0) (tab 255) 52
  have e : ((w.alloc (.cells (tab 255) 52)).alloc (.cells (tab 255) 52)).heap.size = w.heap.size + 1 + 1 := by simp
  rwa [e] at h
theorem tabW_cell (w : World) (i : Nat) (v : Value) (h : (tab 255)[i]? = some v) : (tabW w).cell? ⟨w.heap.size + 1 + 1, i, none⟩ = some v := by
  have : (tabW w).heap[w.heap.size + 1 + 1]? = some (.cells (tab 255) 52) := by
    have h := heap_alloc_new ((w.alloc (.cells (tab 255) 52)).alloc (.cells (tab 255) 52)) (.cells (tab 255) 52)
    have e : ((w.alloc (.cells (tab 255) 52)).alloc (.cells (tab 255) 52)).heap.size = w.heap.size + 1 + 1 := by simp
    rwa [e] at h
  rw [cell_of_row _ _ _ _ _ _ this]
  exact h
theorem tabW_exp (w : World) (i : Nat) (h : i < 510) : (tabW w).cell? ⟨w.heap.size + 1 + 1, i, none⟩ = some (.int .u8 (ex i : Nat)) := by
  rw [tabW_cell w i _ (tab_exp 255 i h), expAt, if_pos (by omega)]
theorem tabW_log (w : World) (v : Nat) (h0 : v ≠ 0) (h : v < 256) : (tabW w).cell? ⟨w.heap.size + 1 + 1, 510 + v, none⟩ = some (.int .i64 (lg v : Nat)) := by
  rw [tabW_cell w _ _ (tab_log 255 v h), logAt, if_pos ⟨h0, lg_lt v⟩]


theorem tmod255 (n : Int) : -255 < n.tmod 255 ∧ n.tmod 255 < 255 ∧ (n.tmod 255 + 255) % 255 = n % 255 := by
  by_cases h : 0 ≤ n
  · rw [Int.tmod_eq_emod_of_nonneg h]
    omega
  · have h1 : n.tmod 255 = -((-n) % 255) := by
      have := Int.neg_tmod (-n) 255
      rw [Int.neg_neg, Int.tmod_eq_emod_of_nonneg (by omega : 0 ≤ -n)] at this
      exact this
    rw [h1]
    omega

theorem below_refl (w : World) : Below w.heap.size w w := Below.refl _ _

set_option maxHeartbeats 1000000 in
set_option maxRecDepth 100000 in
theorem div_null (a : Int) (w : World) :
    Calls Try.prog 26 #[.int .u8 a, .int .u8 0] w fun e w' => e = .returned (.tuple #[.int .u8 0, .int .i64 1]) ∧ Below w.heap.size w w' := by
  go_enter Try.func26, Try.ntmps26
  go_wp2
  go_ret2
  exact ⟨rfl, below_refl w⟩

set_option maxHeartbeats 1000000 in
set_option maxRecDepth 100000 in
theorem div_zero (b : Nat) (h : b ≠ 0) (w : World) :
    Calls Try.prog 26 #[.int .u8 0, .int .u8 (b : Int)] w fun e w' => e = .returned (.tuple #[.int .u8 0, .int .i64 0]) ∧ Below w.heap.size w w' := by
  have hv0 : ((b : Int) == 0) = false := by simpa using h
  go_enter Try.func26, Try.ntmps26
  go_wp2
  go_ret2
  exact ⟨rfl, below_refl w⟩

set_option maxHeartbeats 1000000 in
set_option maxRecDepth 100000 in
theorem div_calls (a b : Nat) (ha0 : a ≠ 0) (ha : a < 256) (hb0 : b ≠ 0) (hb : b < 256) (w : World) :
    Calls Try.prog 26 #[.int .u8 (a : Int), .int .u8 (b : Int)] w fun e w' => e = .returned (.tuple #[.int .u8 (divT a b : Nat), .int .i64 0]) ∧ Below w.heap.size w w' := by
  obtain ⟨hz41, hi41⟩ := zero_of_info info41
  have hi : (Try.prog.info? 52).map (·.size) = some (tab 255).size := by rw [tab_size]; exact hi41
  have HI := Lib.hid hi
  clear hi hi41
  have HN := Lib.hid (tabW_new w)
  have hb00 : ((b : Int) == 0) = false := by simpa using hb0
  have ha00 : ((a : Int) == 0) = false := by simpa using ha0
  have ha1 : (a : Int) < 256 := by omega
  have hb1 : (b : Int) < 256 := by omega
  have hla := lg_lt a
  have hlb := lg_lt b
  have hc1 := tabW_log w a ha0 ha
  have hc2 := tabW_log w b hb0 hb
  have hc3 := tabW_exp w (lg a + 255 - lg b) (by omega)
  unfold divT
  obtain ⟨l, hl1⟩ : ∃ l, lg a = l := ⟨_, rfl⟩
  obtain ⟨m, hm1⟩ : ∃ m, lg b = m := ⟨_, rfl⟩
  rw [hl1, hm1] at hc3 ⊢
  rw [hl1] at hc1 hla
  rw [hm1] at hc2 hlb
  have hla' : (l : Int) < 255 := by omega
  have hlb' : (m : Int) < 255 := by omega
  have hlm0 : 0 ≤ (l : Int) + 255 - m := by omega
  have hlm1 : (l : Int) + 255 - m < 510 := by omega
  have HC1 := Lib.hid hc1
  have HC2 := Lib.hid hc2
  obtain ⟨j, hj⟩ : ∃ j, l + 255 - m = j := ⟨_, rfl⟩
  rw [hj] at hc3 ⊢
  have hw2 : IntKind.i64.wrap ((l : Int) + 255 - m) = (j : Int) := by rw [IntKind.wrap_i64]; omega
  have hj1 : (j : Int) < 510 := by omega
  have HC3 := Lib.hid hc3
  have HW2 := Lib.hid hw2
  clear hc1 hc2 hc3 hl1 hm1 hlm0 hlm1 hj hw2
  go_enter Try.func26, Try.ntmps26
  go_wp2_with (first | (go_at_call 28; refine (make1_calls _).mono ?_; rintro e w' ⟨rfl, rfl⟩) | (refine wpList_store_row rfl 52 (.tmp 6) (.tmp 11) rfl (w.heap.size + 1 + 1) (tab 255) rfl rfl 52 (tab 0) HN.out HI.out (by rw [tab_size, tab_size]) (tab_one 255) ?_; rw [tabW_set]; have hc1 := HC1.out; have hc2 := HC2.out; have hc3 := HC3.out))
  have hw1 : IntKind.i64.wrap ((l : Int) + 255) = (l : Int) + 255 := by rw [IntKind.wrap_i64]; omega
  have hw2 := HW2.out
  go_quiet (fail)
  clear hw1 hw2
  go_wp2
  go_ret2
  exact ⟨rfl, (tabW_below w).trans ⟨rfl, rfl, rfl, Nat.le_refl _, fun _ _ => rfl⟩⟩

/-! The same, as plain functions of whole numbers, none outside the numbers of 256. -/

def divF (a b : Int) : Option (Int × Int) :=
  if 0 ≤ a ∧ a < 256 ∧ 0 ≤ b ∧ b < 256 then some (if b = 0 then (0, 1) else if a = 0 then (0, 0) else ((divT a.toNat b.toNat : Nat), 0)) else none
def logF (a : Int) : Option (Int × Int) :=
  if 0 ≤ a ∧ a < 256 then some (if a = 0 then (0, 1) else ((lg a.toNat : Nat), 0)) else none
def expF (n : Int) : Option Int := some ((ex (n % 255).toNat : Nat) : Int)
def powF (a n : Int) : Option Int :=
  if 0 ≤ a ∧ a < 256 then some (if n ≤ 0 then 1 else if a = 0 then 0 else ((ex (lg a.toNat * n.toNat) : Nat) : Int)) else none

theorem divF_calls (a b r1 r2 : Int) (w : World) (h : divF a b = some (r1, r2)) :
    Calls Try.prog 26 #[.int .u8 a, .int .u8 b] w fun e w' => e = .returned (.tuple #[.int .u8 r1, .int .i64 r2]) ∧ Below w.heap.size w w' := by
  unfold divF at h
  split at h
  · rename_i hc
    obtain ⟨ha0, ha1, hb0, hb1⟩ := hc
    have h := Option.some.inj h
    by_cases hb : b = 0
    · rw [if_pos hb] at h
      obtain ⟨rfl, rfl⟩ := Prod.mk.inj h
      subst hb
      exact div_null a w
    · rw [if_neg hb] at h
      obtain ⟨b, rfl⟩ := Int.eq_ofNat_of_zero_le hb0
      by_cases ha : a = 0
      · rw [if_pos ha] at h
        obtain ⟨rfl, rfl⟩ := Prod.mk.inj h
        subst ha
        exact div_zero b (by omega) w
      · rw [if_neg ha] at h
        obtain ⟨a, rfl⟩ := Int.eq_ofNat_of_zero_le ha0
        obtain ⟨rfl, rfl⟩ := Prod.mk.inj h
        exact div_calls a b (by omega) (by omega) (by omega) (by omega) w
  · exact absurd h (by simp)

end Go.Proofs.Ytidcbihdbkhhlaa.Gf
