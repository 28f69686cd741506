/- vec.Scale's walk: a row scaled is each of its bytes multiplied, whatever the row. -/
import Derived.Test.YtidcbihdbkhhlaaGfMul
import Derived.Lib.ConvBytes
import Derived.Laws.BytesArg
import Derived.Laws.Rows
import Derived.WalkSmall
namespace Go.Proofs.Ytidcbihdbkhhlaa.Gf
open Go.RowKit

/-- A row's bytes, as whole numbers, scaled. -/
def scl (s : ByteArray) (c : Nat) (k i : Nat) : Int := if i < k then ((mul (s.data.toList.getD i 0).toNat c : Nat) : Int) else ((s.data.toList.getD i 0).toNat : Int)
def sclRow (s : ByteArray) (c : Nat) (k : Nat) : List Int := (List.range s.size).map (scl s c k)

theorem scl_hit (s : ByteArray) (c k : Nat) : scl s c (k + 1) k = ((mul (s.data.toList.getD k 0).toNat c : Nat) : Int) := by unfold scl; rw [if_pos (by omega)]

theorem scl_at (s : ByteArray) (c k : Nat) : scl s c k k = ((s.data.toList.getD k 0).toNat : Int) := by unfold scl; rw [if_neg (by omega)]

theorem scl_else (s : ByteArray) (c k i : Nat) (h : i ≠ k) : scl s c (k + 1) i = scl s c k i := by
  unfold scl
  by_cases h1 : i < k
  · rw [if_pos h1, if_pos (by omega)]
  · rw [if_neg h1, if_neg (by omega)]

theorem scl_zero (s : ByteArray) (c i : Nat) : scl s c 0 i = ((s.data.toList.getD i 0).toNat : Int) := by unfold scl; rw [if_neg (by omega)]

theorem byte_lt (s : ByteArray) (i : Nat) : (s.data.toList.getD i 0).toNat < 256 := UInt8.toNat_lt _

/-- The world in the rounds: the new row holds the numbers, those below k scaled. -/
structure SclW (w : World) (s : ByteArray) (c k : Nat) (wx : World) : Prop where
  size : w.heap.size < wx.heap.size
  cell : ∀ i, i < s.size → wx.cell? ⟨w.heap.size, i, none⟩ = some (.int .u8 (scl s c k i))
  free : ∀ i, i < s.size → wx.frozen? ⟨w.heap.size, i, none⟩ = false
  below : Below w.heap.size w wx

theorem SclW.start (w : World) (s : ByteArray) (c : Nat) : SclW w s c 0 (Lib.bytesWorld w 5 s) := by
  refine ⟨by rw [Lib.bytesWorld_size]; omega, fun i hi => ?_, fun i hi => ?_, ?_⟩
  · rw [Lib.bytesWorld_cell w 5 s i hi, scl_zero]
  · have hsz : i < (Lib.bytesCells w 5 s).size := by
      have : s.size = s.data.toList.length := by simp
      simp [Lib.bytesCells]
      omega
    simp [World.frozen?, Lib.bytesWorld_at_new]
    omega
  · exact ⟨rfl, rfl, rfl, by rw [Lib.bytesWorld_size]; omega, fun j hj => Lib.bytesWorld_at_old w 5 s j hj⟩

theorem SclW.step {w wx : World} {s : ByteArray} {c k : Nat} (h : SclW w s c k wx) (hk : k < s.size) :
    SclW w s c (k + 1) (wx.setCell ⟨w.heap.size, k, none⟩ (.int .u8 ((mul (s.data.toList.getD k 0).toNat c : Nat) : Int))) := by
  refine ⟨by simpa using h.size, fun i hi => ?_, fun i hi => ?_, h.below.setCell (Nat.le_refl _) _⟩
  · by_cases e : i = k
    · subst e
      rw [scl_hit, World.cell?_setCell_same _ _ _ (h.cell i hi)]
    · rw [World.cell?_setCell_other _ _ _ _ (by simp [e]), h.cell i hi, scl_else s c k i e]
  · rw [World.frozen?_setCell, h.free i hi]

theorem SclW.drew {w wx : World} {s : ByteArray} {c k : Nat} (h : SclW w s c k wx) : SclW w s c k wx.drew :=
  ⟨h.size, h.cell, h.free, h.below.drew⟩

/-- A row, scaled. -/
def scaleB (s : ByteArray) (c : Nat) : ByteArray := strOfNums (sclRow s c s.size)

set_option maxHeartbeats 1000000 in
set_option maxRecDepth 100000 in
theorem scale_any (s : ByteArray) (c : Nat) (hs : s.size ≤ 140737488351232) (hc : c < 256) (w : World) :
    Calls Try.prog 17 #[.string s, .int .u8 (c : Int)] w fun e w' => e = .returned (.string (scaleB s c)) ∧ Below w.heap.size w w' := by
  have hcv := Lib.run_convert_string_bytes (P := Try.prog) w 9 33 5 s Try.underlying9 Try.underlying33 Try.underlying5
  have hst := SclW.start w s c
  obtain ⟨cap, hcap⟩ : ∃ cap, grownCap w s.size 0 5 = cap := ⟨_, rfl⟩
  obtain ⟨W1, hW1⟩ : ∃ W1, Lib.bytesWorld w 5 s = W1 := ⟨_, rfl⟩
  rw [hcap, hW1] at hcv
  rw [hW1] at hst
  have HST := Lib.hid hst
  clear hst hcap hW1
  go_enter Try.func17, Try.ntmps17
  go_wp2
  clear hcv
  go_loopg [12] s.size (fun g v12 wx => ∃ k : Nat, k + g = s.size ∧ v12 = .int .i64 (k : Int) ∧ Aside (SclW w s c k wx))
  case atStart => exact ⟨0, by omega, rfl, HST.out⟩
  case round =>
    obtain ⟨k, hkg, rfl, HI⟩ := hrel
    cases gk with
    | zero =>
      obtain rfl : k = s.size := by omega
      have hbk := run_convert_bytes_arg (P := Try.prog) wr 33 5 Try.underlying33 Try.underlying5 w.heap.size 0 s.size cap (sclRow s c s.size) (by simp [sclRow]) (fun i hi => by
        have := HI.out.cell i hi
        rw [Nat.zero_add, this]
        simp [sclRow, hi]) 9 Try.underlying9
      go_wp2
      go_ret
      exact ⟨rfl, HI.out.below⟩
    | succ g =>
      have hk : k < s.size := by omega
      have hki : (k : Int) < (s.size : Int) := by omega
      obtain ⟨b, hb⟩ : ∃ b, (s.data.toList.getD k 0).toNat = b := ⟨_, rfl⟩
      have hb8 : b < 256 := by rw [← hb]; exact byte_lt s k
      have hc0 := HI.out.cell k hk
      rw [scl_at, hb] at hc0
      have hf0 := HI.out.free k hk
      have hsz := HI.out.size
      have hnx := HI.out.step hk
      rw [hb] at hnx
      have HN := Lib.hid hnx
      clear hnx hb HST
      go_wp2_with (go_at_call 21; refine (mul_any b c hb8 hc _).mono ?_; rintro e w1 ⟨rfl, rfl⟩)
      go_roundg g
      case measure => omega
      case rel => exact ⟨k + 1, by omega, by go_num, HN.out⟩

/-- The same, as a plain function of a row and a whole number. -/
def scaleF (s : ByteArray) (c : Int) : Option ByteArray := if s.size ≤ 140737488351232 ∧ 0 ≤ c ∧ c < 256 then some (scaleB s c.toNat) else none

theorem scaleF_calls (s : ByteArray) (c : Int) (r : ByteArray) (w : World) (h : scaleF s c = some r) :
    Calls Try.prog 17 #[.string s, .int .u8 c] w fun e w' => e = .returned (.string r) ∧ Below w.heap.size w w' := by
  unfold scaleF at h
  split at h
  · rename_i hc
    obtain ⟨c, rfl⟩ := Int.eq_ofNat_of_zero_le hc.2.1
    obtain rfl := Option.some.inj h
    exact scale_any s c hc.1 (by omega) w
  · exact absurd h (by simp)

end Go.Proofs.Ytidcbihdbkhhlaa.Gf
