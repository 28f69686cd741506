/- vec.sum's walk: rows of one length, added: each byte is the sum of the rows' bytes, whatever the rows. -/
import Derived.Test.YtidcbihdbkhhlaaGfMul
import Derived.Laws.BytesArg
import Derived.Laws.Rows
import Derived.Deep.OwnRows
import Derived.StillTailTactics
import Derived.WalkSmall
namespace Go.Proofs.Ytidcbihdbkhhlaa.Gf
open Go.RowKit

def byteAt (s : ByteArray) (i : Nat) : Nat := (s.data.toList.getD i 0).toNat

theorem byteAt_get (s : ByteArray) (i : Nat) (h : i < s.size) : byteAt s i = (s[i]'h).toNat := by
  unfold byteAt
  rw [List.getD_eq_getElem?_getD, List.getElem?_eq_getElem (by simpa using h)]
  rfl

theorem byteAt_lt (s : ByteArray) (i : Nat) : byteAt s i < 256 := UInt8.toNat_lt _

/-- The sum of the rows' bytes at one place. -/
def accR : List ByteArray → Nat → Nat
  | [], _ => 0
  | r :: rs, i => byteAt r i ^^^ accR rs i

theorem accR_lt : ∀ (rs : List ByteArray) (i : Nat), accR rs i < 256
  | [], _ => (by decide : 0 < 256)
  | r :: rs, i => xor_lt (byteAt_lt r i) (accR_lt rs i)

theorem accR_snoc (r : ByteArray) (i : Nat) : ∀ (rs : List ByteArray), accR (rs ++ [r]) i = accR rs i ^^^ byteAt r i
  | [] => by simp [accR]
  | x :: rs => by
    show byteAt x i ^^^ accR (rs ++ [r]) i = (byteAt x i ^^^ accR rs i) ^^^ byteAt r i
    rw [accR_snoc r i rs]
    ac_rfl

/-- A block of n bytes that tell f. -/
structure RowW (w : World) (B n : Nat) (f : Nat → Nat) (wx : World) : Prop where
  lo : w.heap.size ≤ B
  hi : B < wx.heap.size
  cell : ∀ i, i < n → wx.cell? ⟨B, i, none⟩ = some (.int .u8 (f i : Nat))
  free : ∀ i, i < n → wx.frozen? ⟨B, i, none⟩ = false
  below : Below w.heap.size w wx

theorem RowW.congr {w wx : World} {B n : Nat} {f g : Nat → Nat} (h : RowW w B n f wx) (e : ∀ i, i < n → f i = g i) : RowW w B n g wx :=
  ⟨h.lo, h.hi, fun i hi => by rw [h.cell i hi, e i hi], h.free, h.below⟩

theorem RowW.drew {w wx : World} {B n : Nat} {f : Nat → Nat} (h : RowW w B n f wx) : RowW w B n f wx.drew :=
  ⟨h.lo, h.hi, h.cell, h.free, h.below.drew⟩

theorem RowW.put {w wx : World} {B n : Nat} {f : Nat → Nat} (h : RowW w B n f wx) {k : Nat} (hk : k < n) (v : Nat) :
    RowW w B n (fun i => if i = k then v else f i) (wx.setCell ⟨B, k, none⟩ (.int .u8 (v : Nat))) := by
  refine ⟨h.lo, by simpa using h.hi, fun i hi => ?_, fun i hi => ?_, h.below.setCell h.lo _⟩
  · by_cases e : i = k
    · subst e
      rw [World.cell?_setCell_same _ _ _ (h.cell i hi), if_pos rfl]
    · rw [World.cell?_setCell_other _ _ _ _ (by intro e'; exact e (by simpa using e'.symm)), h.cell i hi, if_neg e]
  · rw [World.frozen?_setCell, h.free i hi]

/-- The sum in the inner rounds: the bytes below k are of one row more. -/
def accK (rs : List ByteArray) (r : ByteArray) (k i : Nat) : Nat := if i < k then accR rs i ^^^ byteAt r i else accR rs i

/-- The sum, as a text. -/
def sumB (n : Nat) (rs : List ByteArray) : ByteArray := strOfNums ((List.range n).map fun i => ((accR rs i : Nat) : Int))

theorem RowW.made (w : World) (n : Nat) : RowW w w.heap.size n (accR []) (w.alloc (.cells (madeCells #[.int .u8 0] n) 5)) := by
  have h := World.rowIs_made w (.int .u8 0) n 5
  exact ⟨Nat.le_refl _, by simp, fun i hi => by rw [h.cell hi]; rfl, fun i hi => h.frozen i, (Below.refl _ _).alloc (Nat.le_refl _) _⟩

theorem addr_block (A : Addr) (m : Nat) : (A.add m).block = A.block := by unfold Addr.add; split <;> rfl

theorem u8info : (Try.prog.info? 5).map (fun i => (i.zero, i.size, i.bytes)) = some (some (.int .u8 0), 1, 1) := by kernel_rfl

set_option maxHeartbeats 1000000 in
set_option maxRecDepth 100000 in
theorem sum_any (n : Nat) (rs : List ByteArray) (A : Addr) (cap : Nat) (w : World) (hn : n ≤ 140737488351232) (hl : rs.length ≤ 140737488351232)
    (hrow : ∀ (j : Nat) r, rs[j]? = some r → w.cell? (A.add j) = some (.string r) ∧ A.block < w.heap.size ∧ n ≤ r.size) :
    Calls Try.prog 24 #[.int .i64 (n : Int), .slice (some A) rs.length cap] w fun e w' => e = .returned (.string (sumB n rs)) ∧ Below w.heap.size w w' := by
  have HROW := Lib.hid hrow
  clear hrow
  have hmk := run_make_row' (P := Try.prog) 33 5 (.int .u8 0) 1 Try.underlying33 u8info rfl .i64 .i64 n (by omega) (by omega)
  go_enter Try.func24, Try.ntmps24
  go_wp2
  clear hmk
  go_loopg [13] rs.length (fun g v13 wx => ∃ m : Nat, m + g = rs.length ∧ v13 = .int .i64 (m : Int) ∧ Aside (RowW w w.heap.size n (accR (rs.take m)) wx))
  case atStart => exact ⟨0, by omega, rfl, RowW.made w n⟩
  case round =>
    obtain ⟨m, hmg, rfl, HI⟩ := hrel
    cases gk with
    | zero =>
      obtain rfl : m = rs.length := by omega
      have hbk := run_convert_bytes_arg (P := Try.prog) wr 33 5 Try.underlying33 Try.underlying5 w.heap.size 0 n n ((List.range n).map fun i => ((accR rs i : Nat) : Int)) (by simp) (fun i hi => by
        have := HI.out.cell i hi
        rw [Nat.zero_add, this, List.take_of_length_le (Nat.le_refl _)]
        simp [hi]) 9 Try.underlying9
      go_wp2
      go_ret
      exact ⟨rfl, HI.out.below⟩
    | succ g =>
      have hm : m < rs.length := by omega
      have hmi : (m : Int) < (rs.length : Int) := by omega
      obtain ⟨r, hr⟩ : ∃ r, rs[m]? = some r := ⟨_, List.getElem?_eq_getElem hm⟩
      obtain ⟨hc0, hA, hnr⟩ := HROW.out m r hr
      have hcw : wr.cell? (A.add m) = some (.string r) := (HI.out.below.cell (p := A.add m) (by rw [addr_block]; exact hA)).trans hc0
      have hnr' : (n : Int) ≤ (r.size : Int) := by omega
      have HR := Lib.hid hr
      clear hr hc0 hA
      go_wp2
      obtain ⟨wo, hwo⟩ : ∃ wo : World, wo = wr := ⟨_, rfl⟩
      clear hcw
      go_loopg [19] n (fun h v19 wx => ∃ k : Nat, k + h = n ∧ v19 = .int .i64 (k : Int) ∧ Aside (RowW w w.heap.size n (accK (rs.take m) r k) wx))
      case atStart => exact ⟨0, by omega, rfl, HI.out.congr fun i _ => by unfold accK; rw [if_neg (by omega)]⟩
      case round =>
        obtain ⟨k, hkg, rfl, HK⟩ := hrel
        cases gk with
        | zero =>
          obtain rfl : k = n := by omega
          go_wp2
          go_roundg g
          case measure => omega
          case rel => exact ⟨m + 1, by omega, by go_num, HK.out.congr fun i hi => by rw [List.take_add_one, HR.out]; unfold accK; rw [if_pos hi]; exact (accR_snoc r i _).symm⟩
        | succ h =>
          have hk : k < n := by omega
          have hki : (k : Int) < (n : Int) := by omega
          have hkr : (k : Int) < (r.size : Int) := by omega
          have hc1 := HK.out.cell k hk
          have hf1 := HK.out.free k hk
          have hsz := HK.out.hi
          obtain ⟨x, hx⟩ : ∃ x, accK (rs.take m) r k k = x := ⟨_, rfl⟩
          obtain ⟨y, hy⟩ : ∃ y, byteAt r k = y := ⟨_, rfl⟩
          rw [hx] at hc1
          have hx8 : x < 256 := by rw [← hx]; unfold accK; split <;> first | exact accR_lt _ _ | exact xor_lt (accR_lt _ _) (byteAt_lt _ _)
          have hy8 : y < 256 := by rw [← hy]; exact byteAt_lt _ _
          have hkn : k < r.size := by omega
          have hidx : (r[k]'hkn).toNat = y := by rw [← hy]; exact (byteAt_get r k hkn).symm
          have hput := HK.out.put hk (x ^^^ y)
          have hnext : ∀ i, i < n → (if i = k then x ^^^ y else accK (rs.take m) r k i) = accK (rs.take m) r (k + 1) i := by
            intro i _
            by_cases e : i = k
            · subst e
              rw [if_pos rfl, ← hx, ← hy]
              unfold accK
              rw [if_neg (by omega), if_pos (by omega)]
            · rw [if_neg e]
              unfold accK
              by_cases e2 : i < k
              · rw [if_pos e2, if_pos (by omega)]
              · rw [if_neg e2, if_neg (by omega)]
          have hput2 := hput.congr hnext
          have HP := Lib.hid hput2.drew
          clear hput hput2 hnext hx hy
          go_wp2_with fail
          go_still_tail 11, (by kernel_rfl)
          still_call ((add_any x y hx8 hy8 _).mono (fun _ _ h => ⟨h.1, h.2.symm⟩))
          repeat still_step
          refine wpStill_nil ?_
          change wpList _ _ _ _ _ wr.drew
          go_wp2
          go_roundg h
          case measure => omega
          case rel => exact ⟨k + 1, by omega, by go_num, HP.out⟩

/-- The same, as a plain function of a whole number and rows. -/
def sumF (n : Int) (rs : List ByteArray) : Option ByteArray :=
  if 0 ≤ n ∧ n ≤ 140737488351232 ∧ rs.length ≤ 140737488351232 ∧ rs ≠ [] ∧ (∀ r ∈ rs, n.toNat ≤ r.size) then some (sumB n.toNat rs) else none

theorem sumF_calls (n : Int) (A : Option Addr) (c : Nat) (rs : List ByteArray) (r : ByteArray) (w : World)
    (hr : ∀ (j : Nat) x, rs[j]? = some x → ∃ ad, A = some ad ∧ w.cell? (ad.add j) = some (.string x)) (h : sumF n rs = some r) :
    Calls Try.prog 24 #[.int .i64 n, .slice A rs.length c] w fun e w' => e = .returned (.string r) ∧ Below w.heap.size w w' := by
  unfold sumF at h
  split at h
  · rename_i hc
    obtain ⟨h0, h1, h2, h3, h4⟩ := hc
    obtain ⟨n, rfl⟩ := Int.eq_ofNat_of_zero_le h0
    obtain rfl := Option.some.inj h
    cases rs with
    | nil => exact absurd rfl h3
    | cons x xs =>
      obtain ⟨ad, rfl, _⟩ := hr 0 x rfl
      refine sum_any n (x :: xs) ad c w (by omega) h2 (fun j y hj => ?_)
      obtain ⟨ad', he, hc⟩ := hr j y hj
      obtain rfl := Option.some.inj he
      refine ⟨hc, ?_, h4 y (List.mem_of_getElem? hj)⟩
      have := World.block_lt_of_cell? w _ hc
      rw [addr_block] at this
      exact this
  · exact absurd h (by simp)

end Go.Proofs.Ytidcbihdbkhhlaa.Gf
