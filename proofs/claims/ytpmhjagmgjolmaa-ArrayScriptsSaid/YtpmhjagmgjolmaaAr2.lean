/- The walks of Read, Alive, Fail, Replace, Corrupt of layer 10. -/
import Derived.Test.YtpmhjagmgjolmaaAr1
namespace Go.Proofs.Ytpmhjagmgjolmaa.Dk
open Go.RowKit

/-- The disk that is called for. -/
def dk (a : Arr) (d : Int) : Dsk := a.ds.getD d.toNat ⟨[], 0, [], false⟩
/-- There is no such disk. -/
abbrev noDisk (a : Arr) (d : Int) : Prop := d < 0 ∨ (a.ds.length : Int) ≤ d
set_option maxRecDepth 100000 in
theorem dk_at {a : Arr} {d : Int} (h : ¬ noDisk a d) : a.ds[d.toNat]? = some (dk a d) ∧ ((d.toNat : Nat) : Int) = d := by
  have h1 : d.toNat < a.ds.length := by omega
  refine ⟨?_, Int.toNat_of_nonneg (by omega)⟩
  unfold dk
  rw [List.getD_eq_getElem?_getD, List.getElem?_eq_getElem h1]
  rfl
/-- The array with one disk turned. -/
def withDk (a : Arr) (d : Int) (m : Dsk) : Arr := { a with ds := a.ds.set d.toNat m }
set_option maxRecDepth 100000 in
theorem withDk_same {a : Arr} {d : Int} (h : ¬ noDisk a d) : withDk a d (dk a d) = a := by
  unfold withDk
  have := (dk_at h).1
  obtain ⟨h1, h2⟩ := List.getElem?_eq_some_iff.1 this
  rw [← h2, List.set_getElem_self]

section
variable {X : Nat → Dsk → Thing} (hX : ∀ g m, Res (X g m)) {T P : TypeId} {ga : Nat} {sv : Value} {gs : List Nat} {a : Arr}
include hX
set_option maxRecDepth 100000 in
theorem Ar.opAt {w : World} {S : Nat → Prop} {d : Int} (h : Ar X T P ga sv gs a w S) (hd : ¬ noDisk a d) {f : FuncId} {rest : List Value} {E : Ending} {m' : Dsk}
    (hop : ∀ g U, X g (dk a d) w U → Calls Try.prog f (.pointer (some ⟨g, 0, none⟩) :: rest).toArray w fun e w' => e = E ∧ Step w w' U (X g m' w')) :
    ∃ g, gs[d.toNat]? = some g ∧ Calls Try.prog f (.pointer (some ⟨g, 0, none⟩) :: rest).toArray w fun e w' => e = E ∧ Step w w' S (Ar X T P ga sv gs (withDk a d m') w') := by
  obtain ⟨h1, h2⟩ := dk_at hd
  have hlt : d.toNat < gs.length := by rw [h.1]; exact (List.getElem?_eq_some_iff.1 h1).1
  have hg : gs[d.toNat]? = some gs[d.toNat] := List.getElem?_eq_getElem hlt
  exact ⟨_, hg, Ar.op hX h1 hg (hop _) S h⟩
end

set_option maxRecDepth 100000 in
theorem aread_nil (d n : Int) (w : World) : Calls Try.prog 15 #[.pointer none, .int .i64 d, .int .i64 n] w fun e w' => e = .returned (.tuple #[.string ByteArray.empty, .int .i64 1]) ∧ w = w' := by
  have K := Lib.hid (power_nil w)
  go_enter Try.func15, Try.ntmps15
  go_wp2_with fail
  refine K.out.mono ?_
  rintro e w1 ⟨rfl, rfl⟩
  go_wp2_with fail
  go_ret2
  exact ⟨rfl, rfl⟩

def areadV (a : Arr) (d n : Int) : ByteArray := if a.down = true then ByteArray.empty else if noDisk a d then ByteArray.empty else readV (dk a d) n
def areadE (a : Arr) (d n : Int) : Int := if a.down = true then 9 else if noDisk a d then 1 else checkE (dk a d) n 0

set_option maxRecDepth 100000 in
set_option maxHeartbeats 2000000 in
theorem aread_at {ga : Nat} {sv : Value} {gs : List Nat} {a : Arr} {w : World} (d n : Int) (S : Nat → Prop) (h : Pa ga sv gs a w S) :
    Calls Try.prog 15 #[.pointer (some ⟨ga, 0, none⟩), .int .i64 d, .int .i64 n] w fun e w' => e = .returned (.tuple #[.string (areadV a d n), .int .i64 (areadE a d n)]) ∧ Step w w' S (Pa ga sv gs a w') := by
  have hp := power_at h
  have H := Lib.hid h
  unfold areadV areadE
  unfold powerE at hp
  by_cases hd : a.down = true
  · rw [if_pos hd] at hp
    rw [if_pos hd, if_pos hd]
    have K := Lib.hid hp
    clear hp h
    go_enter Try.func15, Try.ntmps15
    go_wp2_with fail
    refine K.out.mono ?_
    rintro e w1 ⟨rfl, rfl⟩
    go_wp2_with fail
    go_ret2
    exact ⟨rfl, Step.same (Pa.res _ _ _ _) H.out (Fr.refl _ _)⟩
  rw [if_neg hd] at hp
  rw [if_neg hd, if_neg hd]
  have K := Lib.hid hp
  clear hp
  by_cases hn : noDisk a d
  · rw [if_pos hn, if_pos hn]
    have K2 := Lib.hid (disk_no h d hn)
    clear h hn
    go_enter Try.func15, Try.ntmps15
    go_wp2_with fail
    refine K.out.mono ?_
    rintro e w1 ⟨rfl, rfl⟩
    go_wp2_with fail
    refine K2.out.mono ?_
    rintro e w1 ⟨rfl, rfl⟩
    go_wp2_with fail
    go_ret2
    exact ⟨rfl, Step.same (Pa.res _ _ _ _) H.out (Fr.refl _ _)⟩
  rw [if_neg hn, if_neg hn]
  obtain ⟨g, hg, hop⟩ := Ar.opAt D.res h hn (rest := [.int .i64 n]) (fun g U hU => read_step n U hU)
  rw [withDk_same hn] at hop
  have hk := disk_yes h d.toNat g hg
  rw [(dk_at hn).2] at hk
  have K2 := Lib.hid hk
  have K3 := Lib.hid hop
  clear h hn hk hop
  go_enter Try.func15, Try.ntmps15
  go_wp2_with fail
  refine K.out.mono ?_
  rintro e w1 ⟨rfl, rfl⟩
  go_wp2_with fail
  refine K2.out.mono ?_
  rintro e w1 ⟨rfl, rfl⟩
  go_wp2_with fail
  refine K3.out.mono ?_
  rintro e w1 ⟨rfl, hs⟩
  have HS := Lib.hid hs
  clear hs
  go_wp2_with fail
  go_ret2
  exact ⟨rfl, HS.out⟩

set_option maxRecDepth 100000 in
theorem aalive_nil (d : Int) (w : World) : Calls Try.prog 18 #[.pointer none, .int .i64 d] w fun e w' => e = .returned (.bool false) ∧ w = w' := by
  have K := Lib.hid (disk_nil d w)
  go_enter Try.func18, Try.ntmps18
  go_wp2_with fail
  refine K.out.mono ?_
  rintro e w1 ⟨rfl, rfl⟩
  go_wp2_with fail
  go_ret
  exact ⟨rfl, rfl⟩
def aalive (a : Arr) (d : Int) : Bool := if noDisk a d then false else !(dk a d).gone
set_option maxRecDepth 100000 in
theorem aalive_at {ga : Nat} {sv : Value} {gs : List Nat} {a : Arr} {w : World} (d : Int) (S : Nat → Prop) (h : Pa ga sv gs a w S) :
    Calls Try.prog 18 #[.pointer (some ⟨ga, 0, none⟩), .int .i64 d] w fun e w' => e = .returned (.bool (aalive a d)) ∧ Step w w' S (Pa ga sv gs a w') := by
  have H := Lib.hid h
  unfold aalive
  by_cases hn : noDisk a d
  · rw [if_pos hn]
    have K2 := Lib.hid (disk_no h d hn)
    clear h hn
    go_enter Try.func18, Try.ntmps18
    go_wp2_with fail
    refine K2.out.mono ?_
    rintro e w1 ⟨rfl, rfl⟩
    go_wp2_with fail
    go_ret
    exact ⟨rfl, Step.same (Pa.res _ _ _ _) H.out (Fr.refl _ _)⟩
  rw [if_neg hn]
  obtain ⟨g, hg, hop⟩ := Ar.opAt D.res h hn (rest := []) (fun g U hU => alive_step U hU)
  rw [withDk_same hn] at hop
  have hk := disk_yes h d.toNat g hg
  rw [(dk_at hn).2] at hk
  have K2 := Lib.hid hk
  have K3 := Lib.hid hop
  clear h hn hk hop
  go_enter Try.func18, Try.ntmps18
  go_wp2_with fail
  refine K2.out.mono ?_
  rintro e w1 ⟨rfl, rfl⟩
  go_wp2_with fail
  refine K3.out.mono ?_
  rintro e w1 ⟨rfl, hs⟩
  have HS := Lib.hid hs
  clear hs
  go_wp2_with fail
  go_ret
  exact ⟨rfl, HS.out⟩

end Go.Proofs.Ytpmhjagmgjolmaa.Dk
