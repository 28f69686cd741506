/- The walks of power, disk, Fuse, Down, Disks, Read, Alive of layer 10. -/
import Derived.Test.YtpmhjagmgjolmaaAr0
namespace Go.Proofs.Ytpmhjagmgjolmaa.Dk
open Go.RowKit

/-- The program's array. -/
abbrev Pa (ga : Nat) (sv : Value) (gs : List Nat) (a : Arr) : Thing := Ar D 57 58 ga sv gs a

set_option maxRecDepth 100000 in
theorem Pa.res (ga : Nat) (sv : Value) (gs : List Nat) (a : Arr) : Res (Pa ga sv gs a) := Ar.res D.res

def powerE (a : Arr) : Int := if a.down = true then 9 else 0
set_option maxRecDepth 100000 in
theorem power_nil (w : World) : Calls Try.prog 27 #[.pointer none] w fun e w' => e = .returned (.int .i64 1) ∧ w = w' := by
  go_enter Try.func27, Try.ntmps27
  go_wp2
  go_ret
  exact ⟨rfl, rfl⟩
set_option maxRecDepth 100000 in
theorem power_at {w : World} {ga : Nat} {sv : Value} {gs : List Nat} {a : Arr} {S : Nat → Prop} (h : Pa ga sv gs a w S) :
    Calls Try.prog 27 #[.pointer (some ⟨ga, 0, none⟩)] w fun e w' => e = .returned (.int .i64 (powerE a)) ∧ w = w' := by
  obtain ⟨A, c, rfl, hm, hl, c0, c1, c2, cf, cs⟩ := h.reads
  clear cs cf c0 c1 h
  unfold powerE
  by_cases hd : a.down = true
  · rw [hd] at c2 ⊢
    go_enter Try.func27, Try.ntmps27
    go_wp2
    go_ret
    exact ⟨rfl, rfl⟩
  · simp only [Bool.not_eq_true] at hd
    rw [hd] at c2 ⊢
    go_enter Try.func27, Try.ntmps27
    go_wp2
    go_ret
    exact ⟨rfl, rfl⟩

set_option maxRecDepth 100000 in
theorem disk_nil (d : Int) (w : World) : Calls Try.prog 28 #[.pointer none, .int .i64 d] w fun e w' => e = .returned (.tuple #[.pointer none, .int .i64 1]) ∧ w = w' := by
  go_enter Try.func28, Try.ntmps28
  go_wp2
  go_ret2
  exact ⟨rfl, rfl⟩
set_option maxRecDepth 100000 in
theorem disk_no {w : World} {ga : Nat} {sv : Value} {gs : List Nat} {a : Arr} {S : Nat → Prop} (h : Pa ga sv gs a w S) (d : Int) (hd : d < 0 ∨ (a.ds.length : Int) ≤ d) :
    Calls Try.prog 28 #[.pointer (some ⟨ga, 0, none⟩), .int .i64 d] w fun e w' => e = .returned (.tuple #[.pointer none, .int .i64 1]) ∧ w = w' := by
  obtain ⟨A, c, rfl, hm, hl, c0, c1, c2, cf, cs⟩ := h.reads
  clear cs cf c1 c2 h hl
  by_cases h1 : d < 0
  · clear hd
    go_enter Try.func28, Try.ntmps28
    go_wp2
    go_ret2
    exact ⟨rfl, rfl⟩
  · have h2 : ¬ d < (a.ds.length : Int) := by omega
    clear hd
    go_enter Try.func28, Try.ntmps28
    go_wp2
    go_ret2
    exact ⟨rfl, rfl⟩
set_option maxRecDepth 100000 in
theorem disk_yes {w : World} {ga : Nat} {sv : Value} {gs : List Nat} {a : Arr} {S : Nat → Prop} (h : Pa ga sv gs a w S) (d g : Nat) (hg : gs[d]? = some g) :
    Calls Try.prog 28 #[.pointer (some ⟨ga, 0, none⟩), .int .i64 (d : Int)] w fun e w' => e = .returned (.tuple #[.pointer (some ⟨g, 0, none⟩), .int .i64 0]) ∧ w = w' := by
  obtain ⟨A, c, rfl, hm, hl, c0, c1, c2, cf, cs⟩ := h.reads
  obtain ⟨ad, rfl, hc⟩ := cs d g hg
  have hd := (List.getElem?_eq_some_iff.1 hg).1
  have hd1 : ¬ (d : Int) < 0 := by omega
  have hd2 : (d : Int) < (a.ds.length : Int) := by omega
  have hd3 : d < a.ds.length := by omega
  clear cs cf c1 c2 h hl hg hd
  go_enter Try.func28, Try.ntmps28
  go_wp2
  go_ret2
  exact ⟨rfl, rfl⟩

set_option maxRecDepth 100000 in
theorem fuse_nil (n : Int) (w : World) : Calls Try.prog 11 #[.pointer none, .int .i64 n] w fun e w' => e = .returned (.int .i64 1) ∧ w = w' := by
  go_enter Try.func11, Try.ntmps11
  go_wp2
  go_ret
  exact ⟨rfl, rfl⟩
def fused (a : Arr) (n : Int) : Arr := if n < 0 then a else { a with left := n }
set_option maxRecDepth 100000 in
theorem fuse_at {ga : Nat} {sv : Value} {gs : List Nat} {a : Arr} {w : World} (n : Int) (S : Nat → Prop) (h : Pa ga sv gs a w S) :
    Calls Try.prog 11 #[.pointer (some ⟨ga, 0, none⟩), .int .i64 n] w fun e w' => e = .returned (.int .i64 (if n < 0 then 1 else 0)) ∧ Step w w' S (Pa ga sv gs (fused a n) w') := by
  obtain ⟨A, c, rfl, hm, hl, c0, c1, c2, cf, cs⟩ := h.reads
  have f1 := cf 1
  have H := Lib.hid h
  clear cs cf c0 c2 h hl
  unfold fused
  by_cases hn : n < 0
  · rw [if_pos hn, if_pos hn]
    go_enter Try.func11, Try.ntmps11
    go_wp2
    go_ret
    exact ⟨rfl, Step.same (Pa.res _ _ _ _) H.out (Fr.refl _ _)⟩
  · rw [if_neg hn, if_neg hn]
    go_enter Try.func11, Try.ntmps11
    go_wp2
    go_ret
    exact ⟨rfl, H.out.setLeft D.res n⟩

set_option maxRecDepth 100000 in
theorem down_nil (w : World) : Calls Try.prog 13 #[.pointer none] w fun e w' => e = .returned (.bool false) ∧ w = w' := by
  go_enter Try.func13, Try.ntmps13
  go_wp2
  go_ret
  exact ⟨rfl, rfl⟩
set_option maxRecDepth 100000 in
theorem down_at {ga : Nat} {sv : Value} {gs : List Nat} {a : Arr} {w : World} (S : Nat → Prop) (h : Pa ga sv gs a w S) :
    Calls Try.prog 13 #[.pointer (some ⟨ga, 0, none⟩)] w fun e w' => e = .returned (.bool a.down) ∧ Step w w' S (Pa ga sv gs a w') := by
  obtain ⟨A, c, rfl, hm, hl, c0, c1, c2, cf, cs⟩ := h.reads
  have H := Lib.hid h
  clear cs cf c0 c1 h hl
  go_enter Try.func13, Try.ntmps13
  go_wp2
  go_ret
  exact ⟨rfl, Step.same (Pa.res _ _ _ _) H.out (Fr.refl _ _)⟩

set_option maxRecDepth 100000 in
theorem disks_nil (w : World) : Calls Try.prog 23 #[.pointer none] w fun e w' => e = .returned (.int .i64 0) ∧ w = w' := by
  go_enter Try.func23, Try.ntmps23
  go_wp2
  go_ret
  exact ⟨rfl, rfl⟩
set_option maxRecDepth 100000 in
theorem disks_at {ga : Nat} {sv : Value} {gs : List Nat} {a : Arr} {w : World} (S : Nat → Prop) (h : Pa ga sv gs a w S) :
    Calls Try.prog 23 #[.pointer (some ⟨ga, 0, none⟩)] w fun e w' => e = .returned (.int .i64 (a.ds.length : Int)) ∧ Step w w' S (Pa ga sv gs a w') := by
  obtain ⟨A, c, rfl, hm, hl, c0, c1, c2, cf, cs⟩ := h.reads
  have H := Lib.hid h
  clear cs cf c1 c2 h hl
  go_enter Try.func23, Try.ntmps23
  go_wp2
  go_ret
  exact ⟨rfl, Step.same (Pa.res _ _ _ _) H.out (Fr.refl _ _)⟩

end Go.Proofs.Ytpmhjagmgjolmaa.Dk
