/- Read of layer 9, whatever it is given. -/
import Derived.Test.YtpmhjagmgjolmaaDk6
namespace Go.Proofs.Ytpmhjagmgjolmaa.Dk
open Go.RowKit Go.Shelf

attribute [local go_sem] Oper.semAt_some

/-- What Read hands back lies in its two boxes. -/
theorem results_boxes2 {b1 b2 : Nat} {u v : Value} (W : World) (h1 : W.cell? ⟨b1, 0, none⟩ = some u) (h2 : W.cell? ⟨b2, 0, none⟩ = some v) {x0 x1 x2 x3 : Value} {ys : List Value} :
    (results Try.f33 (x0 :: x1 :: x2 :: x3 :: .pointer (some ⟨b1, 0, none⟩) :: .pointer (some ⟨b2, 0, none⟩) :: ys).toArray).run Try.prog W = .ok (.tuple #[u, v]) W := by
  simp [results, Try.f33, go_sem, h1, h2]

/-- The world with Read's boxes. -/
abbrev rwi (w : World) (n : Int) : World := ((w.alloc (.cells #[.int .i64 n] 3)).alloc (.cells #[.string ByteArray.empty] 9)).alloc (.cells #[.int .i64 0] 24)

set_option maxRecDepth 100000 in
set_option maxHeartbeats 2000000 in
theorem read_err_in (F : Fence) (k : Nat) (hro : F.round = none) (hk3 : 3 ≤ k) (hR : F.fn 33) (hC : F.fn 51)
    (w : World) (p : Option Addr) (n z : Int) (hz : z ≠ 0)
    (hck : ∀ j, CallsIn F j Try.prog 51 #[.pointer p, .int .i64 n, .string ByteArray.empty] (rwi w n) fun e w' => e = .returned (.int .i64 z) ∧ rwi w n = w') :
    CallsIn F k Try.prog 33 #[.pointer p, .int .i64 n] w fun e w' => e = .returned (.tuple #[.string ByteArray.empty, .int .i64 z]) ∧ Below w.heap.size w w' := by
  have h1 : 1 ≤ k := by omega
  have HCK := Lib.hid hck
  clear hck
  refine callsIn_of_wp_marks Try.func33 rfl hR ?_ hro
  simp only [Try.ntmps33, List.size_toArray, List.length_cons, List.length_nil, Nat.reduceAdd, Nat.reduceSub, Array.replicate_succ, Array.replicate_zero, List.push_toArray, List.append_toArray, List.nil_append, List.cons_append]
  gi_wp2_with (first | (gi_at_call 51; refine (HCK.out _).mono ?_; rintro e w' ⟨rfl, rfl⟩))
  have bS := (Boxed.new (w.alloc (.cells #[.int .i64 n] 3)) 9 (.string ByteArray.empty)).alloc (.cells #[.int .i64 z] 24)
  have bE := Boxed.new ((w.alloc (.cells #[.int .i64 n] 3)).alloc (.cells #[.string ByteArray.empty] 9)) 24 (.int .i64 z)
  have c4 := bS.cell
  have c5 := bE.cell
  rw [World.size_alloc] at c4
  rw [World.size_alloc, World.size_alloc] at c5
  have hB0 : Below w.heap.size w (((w.alloc (.cells #[.int .i64 n] 3)).alloc (.cells #[.string ByteArray.empty] 9)).alloc (.cells #[.int .i64 z] 24)) := (((Below.refl _ w).alloc (Nat.le_refl _) _).alloc (by simp) _).alloc (by simp; omega) _
  refine ⟨.tuple #[.string ByteArray.empty, .int .i64 z], ?_, rfl, hB0⟩
  exact results_boxes2 _ c4 c5

theorem readNil (w : World) (n : Int) : Calls Try.prog 33 #[.pointer none, .int .i64 n] w fun e w' => e = .returned (.tuple #[.string ByteArray.empty, .int .i64 1]) ∧ Below w.heap.size w w' :=
  callsIn_wide.1 (read_err_in Fence.wide 3 rfl (Nat.le_refl _) trivial trivial w none n 1 (by decide) (fun j => callsIn_wide.2 (check_nil n ByteArray.empty (rwi w n))))

theorem IsDisk.boxes {w : World} {g s : Nat} {wv : Value} {m : Dsk} (h : IsDisk w g s wv m) (n : Int) : IsDisk (rwi w n) g s wv m := ((h.alloc _).alloc _).alloc _

/-- What Read tells. -/
def readV (m : Dsk) (n : Int) : ByteArray := if checkE m n 0 = 0 then latest m n.toNat else ByteArray.empty

theorem read_below {w : World} {g : Nat} {S : Nat → Prop} {m : Dsk} (h : At w g S m) (n : Int) :
    Calls Try.prog 33 #[.pointer (some ⟨g, 0, none⟩), .int .i64 n] w fun e w' => e = .returned (.tuple #[.string (readV m n), .int .i64 (checkE m n 0)]) ∧ Below w.heap.size w w' := by
  obtain ⟨s, wv, h, rfl⟩ := h
  have hk := check_any (h.boxes n) n ByteArray.empty
  rw [show ByteArray.empty.size = 0 from rfl] at hk
  unfold readV
  by_cases he : checkE m n 0 = 0
  · obtain ⟨h1, h2, h3, h4⟩ := checkE_zero he
    rw [if_pos he, he]
    rw [he] at hk
    obtain ⟨k, rfl⟩ := Int.eq_ofNat_of_zero_le h2
    exact callsIn_wide.1 (read_in Fence.wide 3 rfl (Nat.le_refl _) trivial trivial trivial trivial trivial h k (by omega) (fun j => callsIn_wide.2 hk) (fun j x W => callsIn_wide.2 (of_any x k W)))
  · rw [if_neg he]
    exact callsIn_wide.1 (read_err_in Fence.wide 3 rfl (Nat.le_refl _) trivial trivial w (some ⟨g, 0, none⟩) n _ he (fun j => callsIn_wide.2 hk))

theorem read_at {w : World} {g : Nat} {S : Nat → Prop} {m : Dsk} (h : At w g S m) (n : Int) :
    Calls Try.prog 33 #[.pointer (some ⟨g, 0, none⟩), .int .i64 n] w fun e w' => e = .returned (.tuple #[.string (readV m n), .int .i64 (checkE m n 0)]) ∧ Fr fresh w w' :=
  (read_below h n).mono fun _ _ ⟨he, hb⟩ => ⟨he, Fr.of_below hb⟩

end Go.Proofs.Ytpmhjagmgjolmaa.Dk
