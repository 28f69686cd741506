/- The walks of the document's disk: Replace, Read. -/
import Derived.Test.YtpmhjagmgjolmaaDkR1
namespace Go.Proofs.Ytpmhjagmgjolmaa.Dk
open Go.RowKit

section
variable {w : World} {g s : Nat} {wv : Value} {m : Dsk}
theorem IsRef.newSec (h : IsRef w g s wv m) : IsRef ((w.alloc (.cells (madeCells #[.string ByteArray.empty] m.sec.length) 9)).setCell ⟨g, 0, none⟩ (.slice (some ⟨w.heap.size, 0, none⟩) m.sec.length m.sec.length)) g w.heap.size wv { m with sec := List.replicate m.sec.length ByteArray.empty } := by
  have hlt := h.lt
  have hgw := h.gw
  have hg := hlt g (foot_g _ _ _)
  obtain ⟨cap, hb, hr⟩ := h.blk
  have hb1 := (Below.heap_alloc w (.cells (madeCells #[.string ByteArray.empty] m.sec.length) 9) g hg).trans hb
  have hrow := World.ownsRow_lit (e := 9) (base := 0) (size := 1) w (madeCells #[.string ByteArray.empty] m.sec.length) m.sec.length (Nat.zero_le _) (by have := h.most; unfold maxLen; omega) (by rw [size_madeCells]; omega)
  rw [toList_madeCells_one] at hrow
  refine ⟨⟨m.sec.length, ?_, ?_⟩, owns_move (owns_move h.wait (fun k e => Below.heap_alloc w _ k (hlt k (.inr (.inr e))))) (fun k e => heap_setCell_other _ _ k _ (fun e' => ?_)), by simpa using h.ok, by simpa using h.pos, by simpa using h.most, h.fits⟩
  · have := heap_setCell_same _ g 0 _ _ (.slice (some ⟨w.heap.size, 0, none⟩) m.sec.length m.sec.length) hb1
    simpa using this
  · refine owns_move (w := w.alloc (.cells (madeCells #[.string ByteArray.empty] m.sec.length) 9)) (by simpa using hrow) (fun k e => heap_setCell_other _ _ k _ (fun e' => ?_))
    simp [Value.ownBlock] at e
    simp at e'
    omega
  · simp at e'
    subst e'
    exact hgw e
end

set_option maxRecDepth 100000 in
set_option maxHeartbeats 1000000 in
theorem rreplace_at {w : World} {g : Nat} {m : Dsk} (S : Nat → Prop) (h : R g m w S) :
    Calls Try.prog 62 #[.pointer (some ⟨g, 0, none⟩)] w fun e w' => e = .returned (.int .i64 0) ∧ Step w w' S (R g { m with gone := false, wait := [], sec := List.replicate m.sec.length ByteArray.empty } w') := by
  obtain ⟨s, wv, h, rfl⟩ := h
  obtain ⟨cap, hcap, c0, c1, c2, c3, cf, -, -⟩ := h.reads
  have f0 := cf 0
  have f2 := cf 2
  have f3 := cf 3
  have hmost := h.most
  have hmk := run_make_row' (P := Try.prog) 48 9 (.string ByteArray.empty) 16 Try.underlying48 strInfo rfl .i64 .i64 m.sec.length (by omega) (by omega)
  have h2 := (h.setGone false).setWait (.slice none 0 0) [] (World.ownsRow_nil _ _ _ _) (by simp)
  have h3 := h2.newSec
  have hgl := h.lt g (foot_g _ _ _)
  rw [World.setCell_alloc_past _ _ _ _ (by simpa using hgl)] at h3
  simp only [World.size_setCell] at h3
  have H3 := Lib.hid h3
  clear cf h h2 h3
  go_enter Try.func62, Try.ntmps62
  go_wp2
  go_ret
  refine ⟨rfl, _, ⟨_, _, H3.out, rfl⟩, ((((Fr.refl _ w).setCell (p := ⟨g, 3, none⟩) (.inl (foot_g _ _ _)) _).setCell (p := ⟨g, 2, none⟩) (.inl (foot_g _ _ _)) _).setCell (p := ⟨g, 0, none⟩) (.inl (foot_g _ _ _)) _).alloc _, ?_⟩
  rintro k (rfl | rfl | hk)
  · exact .inl (foot_g _ _ _)
  · exact .inr (Nat.le_refl _)
  · simp [Value.ownBlock] at hk

/-! Read -/

/-- The last of the first k writes to a sector, else its text. -/
def lastK (m : Dsk) (n k : Nat) : ByteArray := match (m.wait.take k).reverse.find? (fun x => (x.1 : Int) == (n : Int)) with
  | some x => x.2
  | none => m.sec.getD n ByteArray.empty

theorem lastK_all (m : Dsk) (n : Nat) : lastK m n m.wait.length = latest m n := by
  unfold lastK latest
  rw [List.take_of_length_le (Nat.le_refl _)]
  rfl
theorem lastK_step (m : Dsk) (n k : Nat) (x : Ev) (h : m.wait[k]? = some x) : lastK m n (k + 1) = if (x.1 : Int) = (n : Int) then x.2 else lastK m n k := by
  unfold lastK
  rw [List.take_add_one, h, List.reverse_append]
  simp only [Option.toList_some, List.reverse_singleton, List.singleton_append, List.find?_cons]
  by_cases e : (x.1 : Int) = (n : Int)
  · rw [if_pos e]
    have : ((x.1 : Int) == (n : Int)) = true := by simp [e]
    rw [this]
  · rw [if_neg e]
    have : ((x.1 : Int) == (n : Int)) = false := by simp [e]
    rw [this]

structure RefW (w : World) (g s : Nat) (wv : Value) (m : Dsk) (L : List ByteArray) (wx : World) : Prop where
  disk : IsRef wx g s wv { m with sec := L }
  fr : Fr (foot g s wv) w wx

set_option maxRecDepth 100000 in
set_option maxHeartbeats 2000000 in
theorem rread_not {w : World} {g : Nat} {n : Int} (z : Int) (hz : z ≠ 0)
    (h : Calls Try.prog 64 #[.pointer (some ⟨g, 0, none⟩), .int .i64 n, .string ByteArray.empty] w fun e w' => e = .returned (.int .i64 z) ∧ w = w') :
    Calls Try.prog 47 #[.pointer (some ⟨g, 0, none⟩), .int .i64 n] w fun e w' => e = .returned (.tuple #[.string ByteArray.empty, .int .i64 z]) ∧ w = w' := by
  have HK := Lib.hid h
  clear h
  go_enter Try.func47, Try.ntmps47
  go_wp2_with (go_at_call 64; refine (HK.out).mono ?_; rintro e w1 ⟨rfl, rfl⟩)
  go_ret2
  exact ⟨rfl, rfl⟩

set_option maxRecDepth 100000 in
set_option maxHeartbeats 4000000 in
theorem rread_yes {w : World} {g s : Nat} {wv : Value} {m : Dsk} (h : IsRef w g s wv m) (n : Nat) (hgone : m.gone = false) (hn : n < m.sec.length) :
    Calls Try.prog 47 #[.pointer (some ⟨g, 0, none⟩), .int .i64 (n : Int)] w fun e w' => e = .returned (.tuple #[.string (latest m n), .int .i64 0]) ∧ Fr fresh w w' := by
  have hk := rcheck_any h n ByteArray.empty
  have he : checkE m n 0 = 0 := by
    unfold checkE
    rw [if_neg (by rw [hgone]; decide), if_neg (by omega), if_neg (by omega)]
  rw [show ByteArray.empty.size = 0 from rfl, he] at hk
  have HK := Lib.hid hk
  clear hk he
  obtain ⟨cap, hcap, c0, -, c2, -, -, cs, -⟩ := h.reads
  have cn := cs n m.sec[n] (List.getElem?_eq_getElem hn)
  have hni : (n : Int) < (m.sec.length : Int) := by omega
  obtain ⟨W, cw, hwv, hlen, hW⟩ := h.waits
  have HW := Lib.hid hW
  rw [hwv] at c2
  have H := Lib.hid h
  have hl0 : m.sec[n] = lastK m n 0 := by simp [lastK, hn]
  clear cs hW
  go_enter Try.func47, Try.ntmps47
  go_wp2_with (go_at_call 64; refine (HK.out).mono ?_; rintro e w1 ⟨rfl, rfl⟩)
  clear hl0 cn
  go_loopg [7, 8] m.wait.length (fun q v5 v6 wx => ∃ k : Nat, k + q = m.wait.length ∧ v5 = .string (lastK m n k) ∧ v6 = .int .i64 (k : Int) ∧ Aside (Fr fresh w wx))
  case atStart => exact ⟨0, by omega, rfl, rfl, Fr.refl _ _⟩
  case round =>
    obtain ⟨k, hkq, rfl, rfl, HI⟩ := hrel
    have hIR : IsRef wr g s wv m := H.out.frame HI (fun _ _ h => h)
    have c2' := Fr.cell HI c2 (fun h => h)
    have HIR := Lib.hid hIR
    clear hIR
    cases gk with
    | zero =>
      obtain rfl : k = m.wait.length := by omega
      rw [lastK_all]
      go_wp2
      go_ret2
      exact ⟨rfl, HI⟩
    | succ q =>
      have hm : k < m.wait.length := by omega
      have hmi : (k : Int) < (m.wait.length : Int) := by omega
      obtain ⟨x, hx⟩ : ∃ x, m.wait[k]? = some x := ⟨_, List.getElem?_eq_getElem hm⟩
      obtain ⟨ad, rfl, e1, e2⟩ := HW.out wr _ HIR.out rfl k x hx
      have HS := Lib.hid (lastK_step m n k x hx)
      clear hx
      by_cases hxn : (x.1 : Int) = (n : Int)
      · rw [if_pos hxn] at HS
        rw [hxn] at e1
        go_wp2
        go_roundg q
        case measure => omega
        case rel => exact ⟨k + 1, by omega, by rw [HS.out], by go_num, HI⟩
      · rw [if_neg hxn] at HS
        go_wp2
        go_roundg q
        case measure => omega
        case rel => exact ⟨k + 1, by omega, by rw [HS.out], by go_num, HI⟩

theorem rread_at {w : World} {g : Nat} {m : Dsk} (n : Int) (S : Nat → Prop) (h : R g m w S) :
    Calls Try.prog 47 #[.pointer (some ⟨g, 0, none⟩), .int .i64 n] w fun e w' => e = .returned (.tuple #[.string (readV m n), .int .i64 (checkE m n 0)]) ∧ Step w w' S (R g m w') := by
  obtain ⟨s, wv, h, rfl⟩ := h
  have hk := rcheck_any h n ByteArray.empty
  rw [show ByteArray.empty.size = 0 from rfl] at hk
  unfold readV
  by_cases he : checkE m n 0 = 0
  · obtain ⟨h1, h2, h3, h4⟩ := checkE_zero he
    rw [if_pos he, he]
    obtain ⟨k, rfl⟩ := Int.eq_ofNat_of_zero_le h2
    exact (rread_yes h k h1 (by omega)).mono fun e w' ⟨he, hf⟩ => ⟨he, Step.same (R.res g m) ⟨s, wv, h, rfl⟩ hf⟩
  · rw [if_neg he]
    refine (rread_not _ he hk).mono ?_
    rintro e w' ⟨rfl, rfl⟩
    exact ⟨rfl, Step.same (R.res g m) ⟨s, wv, h, rfl⟩ (Fr.refl _ _)⟩

end Go.Proofs.Ytpmhjagmgjolmaa.Dk
