/- does of layer 10: a call on an array and on the document's: both tell the same, and both stay at one plain array. -/
import Derived.Test.YtpmhjagmgjolmaaArR6
import Derived.Deep.RegionHeld3
namespace Go.Proofs.Ytpmhjagmgjolmaa.Dk
open Go.RowKit
set_option linter.unusedVariables false

/-- A plain array behind a call. -/
def adid (a : Arr) (o : Op) : Arr :=
  if o.what = 0 then awrote a o.d o.n o.s else if o.what = 1 then a else if o.what = 2 then aflushed a else if o.what = 3 then acrashed a o.keep else if o.what = 4 then acorrupted a o.d o.n o.s
  else if o.what = 5 then afaild a o.d else if o.what = 6 then areplaced a o.d else if o.what = 7 then fused a o.n else a

/-- The box of a call's own argument. -/
def OpT (b : Nat) (v0 v1 v2 v3 v4 : Value) : Thing := fun w S => w.heap[b]? = some (.cells #[v0, v1, v2, v3, v4] 36 (0, 0)) ∧ S = fun i => i = b
set_option maxRecDepth 100000 in
theorem OpT.res (b : Nat) (v0 v1 v2 v3 v4 : Value) : Res (OpT b v0 v1 v2 v3 v4) := by
  refine ⟨?_, ?_⟩
  · rintro w S ⟨h, rfl⟩ k rfl
    exact (Array.getElem?_eq_some_iff.1 h).1
  · rintro w w' S T ⟨h, rfl⟩ hf hd
    exact ⟨hf.heap h (hd b rfl), rfl⟩
set_option maxRecDepth 100000 in
theorem OpT.made (w : World) (v0 v1 v2 v3 v4 : Value) : Made w (w.alloc (.cells #[v0, v1, v2, v3, v4] 36)) (OpT w.heap.size v0 v1 v2 v3 v4 (w.alloc (.cells #[v0, v1, v2, v3, v4] 36))) :=
  ⟨_, ⟨heap_alloc_new w _, rfl⟩, (Fr.refl _ w).alloc _, by rintro k rfl; exact Nat.le_refl _⟩
def OpC (w : World) (b : Nat) (v0 v1 v2 v3 v4 : Value) : Prop := w.heap[b]? = some (.cells #[v0, v1, v2, v3, v4] 36 (0, 0))
set_option maxRecDepth 100000 in
theorem Law.opC {A : Thing} {w0 w : World} {b : Nat} {v0 v1 v2 v3 v4 : Value} (h : Law w0 w (Both A (OpT b v0 v1 v2 v3 v4))) : OpC w b v0 v1 v2 v3 v4 := by
  obtain ⟨U, ⟨S, T, hA, hB, hd, rfl⟩, hn, hb⟩ := h
  exact hB.1

set_option maxRecDepth 100000 in
theorem Law.acrash2 {B C : Thing} (b : Res B) (c : Res C) {w0 w : World} {ga : Nat} {sv : Value} {gs : List Nat} {a : Arr} (h : Law w0 w (Both (Both (Pa ga sv gs a) B) C)) (K : Option Addr) (kc : Nat) (bs : List Bool) (hcap : bs.length ≤ kc) (hmax : kc ≤ 9223372036854775807) (hnil : K = none → kc = 0) (hr : RowBools w0 K bs) :
    Calls Try.prog 14 #[.pointer (some ⟨ga, 0, none⟩), .slice K bs.length kc] w fun e w' => e = .returned (.int .i64 0) ∧ Law w0 w' (Both (Both (Pa ga sv gs (acrashed a bs)) B) C) := by
  obtain ⟨U, ⟨S, T, ⟨S1, S2, h1, h2, hd2, rfl⟩, hC, hd, rfl⟩, hn, hb⟩ := h
  exact (acrash_at K kc bs hcap hmax hnil S1 (Law.readsBools hb (fun k h => hn k (.inl (.inl h))) hr) h1).mono fun e w' ⟨he, hs⟩ => ⟨he, Law.step hn hb (Step.left c (Step.left b hs h2 hd2) hC hd)⟩
set_option maxRecDepth 100000 in
theorem Law.racrash2 {B C : Thing} (b : Res B) (c : Res C) {w0 w : World} {ga : Nat} {sv : Value} {gs : List Nat} {a : Arr} (h : Law w0 w (Both (Both B (Rf ga sv gs a)) C)) (K : Option Addr) (kc : Nat) (bs : List Bool) (hcap : bs.length ≤ kc) (hmax : kc ≤ 9223372036854775807) (hnil : K = none → kc = 0) (hsum : ∀ m ∈ a.ds, m.wait.length ≤ 1000000) (hfew : a.ds.length ≤ 255) (hr : RowBools w0 K bs) :
    Calls Try.prog 43 #[.pointer (some ⟨ga, 0, none⟩), .slice K bs.length kc] w fun e w' => e = .returned (.int .i64 0) ∧ Law w0 w' (Both (Both B (Rf ga sv gs (acrashed a bs))) C) := by
  obtain ⟨U, ⟨S, T, ⟨S1, S2, h1, h2, hd2, rfl⟩, hC, hd, rfl⟩, hn, hb⟩ := h
  exact (racrash_at K kc bs hcap hmax hnil hsum hfew S2 (Law.readsBools hb (fun k h => hn k (.inl (.inr h))) hr) h2).mono fun e w' ⟨he, hs⟩ => ⟨he, Law.step hn hb (Step.left c (Step.right b h1 hs hd2) hC hd)⟩

set_option maxRecDepth 100000 in
set_option maxHeartbeats 4000000 in
theorem adoes_write {w0 w : World} {ga ra : Nat} {sv rv : Value} {gs rs : List Nat} {a : Arr} {B : Nat} (h : Law w0 w (Both (Pa ga sv gs a) (Rf ra rv rs a))) (hsm : Small a B) (hB : B ≤ 999999) (hfew : a.ds.length ≤ 255) (d n : Int) (s : ByteArray) (K : Option Addr) (c : Nat) (l : Nat) :
    Calls Try.prog 22 #[.pointer (some ⟨ga, 0, none⟩), .pointer (some ⟨ra, 0, none⟩), .agg #[.int .i64 0, .int .i64 d, .int .i64 n, .string s, .slice K l c]] w fun e w' => e = .returned (.bool true) ∧ Law w0 w' (Both (Pa ga sv gs (awrote a d n s)) (Rf ra rv rs (awrote a d n s))) := by
  have hL : Law w0 (w.alloc (.cells #[.int .i64 0, .int .i64 d, .int .i64 n, .string s, .slice K l c] 36)) (Both (Both (Pa ga sv gs a) (Rf ra rv rs a)) (OpT w.heap.size (.int .i64 0) (.int .i64 d) (.int .i64 n) (.string s) (.slice K l c))) := by
    obtain ⟨S, hA, hn, hb⟩ := h
    exact Law.step hn hb (Made.with (Both.res (Pa.res _ _ _ _) (Rf.res _ _ _ _)) hA (OpT.made w _ _ _ _ _))
  have hres : Res (Both (Both (Pa ga sv gs a) (Rf ra rv rs a)) (OpT w.heap.size (.int .i64 0) (.int .i64 d) (.int .i64 n) (.string s) (.slice K l c))) := Both.res (Both.res (Pa.res _ _ _ _) (Rf.res _ _ _ _)) (OpT.res _ _ _ _ _ _)
  have hdk := hsm.dk
  have hB1 : ∀ i, (dk a i).wait.length ≤ 1000000 := fun i => Nat.le_trans (hdk i) (by omega)
  have hB2 : ∀ m ∈ a.ds, m.wait.length ≤ 1000000 := fun m hm => Nat.le_trans (hsm.wait m hm) (by omega)
  have d1 : ∀ w', OpC w' w.heap.size (.int .i64 0) (.int .i64 d) (.int .i64 n) (.string s) (.slice K l c) → w'.cell? ⟨w.heap.size, 1, none⟩ = some (.int .i64 d) := fun w' hc => cell_of_row _ _ 1 _ _ _ hc
  have d2 : ∀ w', OpC w' w.heap.size (.int .i64 0) (.int .i64 d) (.int .i64 n) (.string s) (.slice K l c) → w'.cell? ⟨w.heap.size, 2, none⟩ = some (.int .i64 n) := fun w' hc => cell_of_row _ _ 2 _ _ _ hc
  have d3 : ∀ w', OpC w' w.heap.size (.int .i64 0) (.int .i64 d) (.int .i64 n) (.string s) (.slice K l c) → w'.cell? ⟨w.heap.size, 3, none⟩ = some (.string s) := fun w' hc => cell_of_row _ _ 3 _ _ _ hc
  have d4 : ∀ w', OpC w' w.heap.size (.int .i64 0) (.int .i64 d) (.int .i64 n) (.string s) (.slice K l c) → w'.cell? ⟨w.heap.size, 4, none⟩ = some (.slice K l c) := fun w' hc => cell_of_row _ _ 4 _ _ _ hc
  have K1 := Lib.hid (fun w' (hl : Law w0 w' (Both (Both (Pa ga sv gs a) (Rf ra rv rs a)) (OpT w.heap.size (.int .i64 0) (.int .i64 d) (.int .i64 n) (.string s) (.slice K l c)))) => hl.op (op_left (OpT.res _ _ _ _ _ _) (op_left (Rf.res _ _ _ _) (awrite_at d n s (hB1 d) hsm.left))))
  have K2 := Lib.hid (fun w' (hl : Law w0 w' (Both (Both (Pa ga sv gs (awrote a d n s)) (Rf ra rv rs a)) (OpT w.heap.size (.int .i64 0) (.int .i64 d) (.int .i64 n) (.string s) (.slice K l c)))) => hl.op (op_left (OpT.res _ _ _ _ _ _) (op_right (Pa.res _ _ _ _) (rawrite_at d n s (hB1 d) hsm.left))))
  have hLd := hL.drew hres
  have hC0 : OpC (w.alloc (.cells #[.int .i64 0, .int .i64 d, .int .i64 n, .string s, .slice K l c] 36)).drew w.heap.size (.int .i64 0) (.int .i64 d) (.int .i64 n) (.string s) (.slice K l c) := hLd.opC
  clear h hL hres hdk hB1 hB2 hsm
  go_enter Try.func22, Try.ntmps22
  go_wp2_with fail
  go_region_held3 (fun w' => OpC w' w.heap.size (.int .i64 0) (.int .i64 d) (.int .i64 n) (.string s) (.slice K l c)) (first | assumption)
    (first | (go_at_call 12; refine (K1.out _ (by assumption)).mono ?_; rintro e w2 ⟨rfl, hl2⟩; have hc2 := hl2.opC) | (go_at_call 41; refine (K2.out _ (by assumption)).mono ?_; rintro e w3 ⟨rfl, hl3⟩; have hc3 := hl3.opC))
  all_goals
    go_wp2
    go_ret
    exact ⟨rfl, hl3.drop⟩

set_option maxRecDepth 100000 in
set_option maxHeartbeats 4000000 in
theorem adoes_read {w0 w : World} {ga ra : Nat} {sv rv : Value} {gs rs : List Nat} {a : Arr} {B : Nat} (h : Law w0 w (Both (Pa ga sv gs a) (Rf ra rv rs a))) (hsm : Small a B) (hB : B ≤ 999999) (hfew : a.ds.length ≤ 255) (d n : Int) (s : ByteArray) (K : Option Addr) (c : Nat) (l : Nat) :
    Calls Try.prog 22 #[.pointer (some ⟨ga, 0, none⟩), .pointer (some ⟨ra, 0, none⟩), .agg #[.int .i64 1, .int .i64 d, .int .i64 n, .string s, .slice K l c]] w fun e w' => e = .returned (.bool true) ∧ Law w0 w' (Both (Pa ga sv gs a) (Rf ra rv rs a)) := by
  have hL : Law w0 (w.alloc (.cells #[.int .i64 1, .int .i64 d, .int .i64 n, .string s, .slice K l c] 36)) (Both (Both (Pa ga sv gs a) (Rf ra rv rs a)) (OpT w.heap.size (.int .i64 1) (.int .i64 d) (.int .i64 n) (.string s) (.slice K l c))) := by
    obtain ⟨S, hA, hn, hb⟩ := h
    exact Law.step hn hb (Made.with (Both.res (Pa.res _ _ _ _) (Rf.res _ _ _ _)) hA (OpT.made w _ _ _ _ _))
  have hres : Res (Both (Both (Pa ga sv gs a) (Rf ra rv rs a)) (OpT w.heap.size (.int .i64 1) (.int .i64 d) (.int .i64 n) (.string s) (.slice K l c))) := Both.res (Both.res (Pa.res _ _ _ _) (Rf.res _ _ _ _)) (OpT.res _ _ _ _ _ _)
  have hdk := hsm.dk
  have hB1 : ∀ i, (dk a i).wait.length ≤ 1000000 := fun i => Nat.le_trans (hdk i) (by omega)
  have hB2 : ∀ m ∈ a.ds, m.wait.length ≤ 1000000 := fun m hm => Nat.le_trans (hsm.wait m hm) (by omega)
  have d1 : ∀ w', OpC w' w.heap.size (.int .i64 1) (.int .i64 d) (.int .i64 n) (.string s) (.slice K l c) → w'.cell? ⟨w.heap.size, 1, none⟩ = some (.int .i64 d) := fun w' hc => cell_of_row _ _ 1 _ _ _ hc
  have d2 : ∀ w', OpC w' w.heap.size (.int .i64 1) (.int .i64 d) (.int .i64 n) (.string s) (.slice K l c) → w'.cell? ⟨w.heap.size, 2, none⟩ = some (.int .i64 n) := fun w' hc => cell_of_row _ _ 2 _ _ _ hc
  have d3 : ∀ w', OpC w' w.heap.size (.int .i64 1) (.int .i64 d) (.int .i64 n) (.string s) (.slice K l c) → w'.cell? ⟨w.heap.size, 3, none⟩ = some (.string s) := fun w' hc => cell_of_row _ _ 3 _ _ _ hc
  have d4 : ∀ w', OpC w' w.heap.size (.int .i64 1) (.int .i64 d) (.int .i64 n) (.string s) (.slice K l c) → w'.cell? ⟨w.heap.size, 4, none⟩ = some (.slice K l c) := fun w' hc => cell_of_row _ _ 4 _ _ _ hc
  have K1 := Lib.hid (fun w' (hl : Law w0 w' (Both (Both (Pa ga sv gs a) (Rf ra rv rs a)) (OpT w.heap.size (.int .i64 1) (.int .i64 d) (.int .i64 n) (.string s) (.slice K l c)))) => hl.op (op_left (OpT.res _ _ _ _ _ _) (op_left (Rf.res _ _ _ _) (aread_at d n))))
  have K2 := Lib.hid (fun w' (hl : Law w0 w' (Both (Both (Pa ga sv gs a) (Rf ra rv rs a)) (OpT w.heap.size (.int .i64 1) (.int .i64 d) (.int .i64 n) (.string s) (.slice K l c)))) => hl.op (op_left (OpT.res _ _ _ _ _ _) (op_right (Pa.res _ _ _ _) (raread_at d n))))
  clear h hres hdk hB1 hB2 hsm
  have e1 := d1 _ hL.opC
  have e2 := d2 _ hL.opC
  have HL := Lib.hid hL
  clear hL
  go_enter Try.func22, Try.ntmps22
  go_wp2_with fail
  refine (K1.out _ HL.out).mono ?_
  rintro e w2 ⟨rfl, hl2⟩
  have e3 := d1 _ hl2.opC
  have e4 := d2 _ hl2.opC
  have HL2 := Lib.hid hl2
  clear hl2
  go_wp2_with fail
  refine (K2.out _ HL2.out).mono ?_
  rintro e w3 ⟨rfl, hl3⟩
  have HL3 := Lib.hid hl3.drop
  clear hl3
  go_wp2_with fail
  go_ret
  exact ⟨rfl, HL3.out⟩

set_option maxRecDepth 100000 in
set_option maxHeartbeats 4000000 in
theorem adoes_flush {w0 w : World} {ga ra : Nat} {sv rv : Value} {gs rs : List Nat} {a : Arr} {B : Nat} (h : Law w0 w (Both (Pa ga sv gs a) (Rf ra rv rs a))) (hsm : Small a B) (hB : B ≤ 999999) (hfew : a.ds.length ≤ 255) (d n : Int) (s : ByteArray) (K : Option Addr) (c : Nat) (l : Nat) :
    Calls Try.prog 22 #[.pointer (some ⟨ga, 0, none⟩), .pointer (some ⟨ra, 0, none⟩), .agg #[.int .i64 2, .int .i64 d, .int .i64 n, .string s, .slice K l c]] w fun e w' => e = .returned (.bool true) ∧ Law w0 w' (Both (Pa ga sv gs (aflushed a)) (Rf ra rv rs (aflushed a))) := by
  have hL : Law w0 (w.alloc (.cells #[.int .i64 2, .int .i64 d, .int .i64 n, .string s, .slice K l c] 36)) (Both (Both (Pa ga sv gs a) (Rf ra rv rs a)) (OpT w.heap.size (.int .i64 2) (.int .i64 d) (.int .i64 n) (.string s) (.slice K l c))) := by
    obtain ⟨S, hA, hn, hb⟩ := h
    exact Law.step hn hb (Made.with (Both.res (Pa.res _ _ _ _) (Rf.res _ _ _ _)) hA (OpT.made w _ _ _ _ _))
  have hres : Res (Both (Both (Pa ga sv gs a) (Rf ra rv rs a)) (OpT w.heap.size (.int .i64 2) (.int .i64 d) (.int .i64 n) (.string s) (.slice K l c))) := Both.res (Both.res (Pa.res _ _ _ _) (Rf.res _ _ _ _)) (OpT.res _ _ _ _ _ _)
  have hdk := hsm.dk
  have hB1 : ∀ i, (dk a i).wait.length ≤ 1000000 := fun i => Nat.le_trans (hdk i) (by omega)
  have hB2 : ∀ m ∈ a.ds, m.wait.length ≤ 1000000 := fun m hm => Nat.le_trans (hsm.wait m hm) (by omega)
  have d1 : ∀ w', OpC w' w.heap.size (.int .i64 2) (.int .i64 d) (.int .i64 n) (.string s) (.slice K l c) → w'.cell? ⟨w.heap.size, 1, none⟩ = some (.int .i64 d) := fun w' hc => cell_of_row _ _ 1 _ _ _ hc
  have d2 : ∀ w', OpC w' w.heap.size (.int .i64 2) (.int .i64 d) (.int .i64 n) (.string s) (.slice K l c) → w'.cell? ⟨w.heap.size, 2, none⟩ = some (.int .i64 n) := fun w' hc => cell_of_row _ _ 2 _ _ _ hc
  have d3 : ∀ w', OpC w' w.heap.size (.int .i64 2) (.int .i64 d) (.int .i64 n) (.string s) (.slice K l c) → w'.cell? ⟨w.heap.size, 3, none⟩ = some (.string s) := fun w' hc => cell_of_row _ _ 3 _ _ _ hc
  have d4 : ∀ w', OpC w' w.heap.size (.int .i64 2) (.int .i64 d) (.int .i64 n) (.string s) (.slice K l c) → w'.cell? ⟨w.heap.size, 4, none⟩ = some (.slice K l c) := fun w' hc => cell_of_row _ _ 4 _ _ _ hc
  have K1 := Lib.hid (fun w' (hl : Law w0 w' (Both (Both (Pa ga sv gs a) (Rf ra rv rs a)) (OpT w.heap.size (.int .i64 2) (.int .i64 d) (.int .i64 n) (.string s) (.slice K l c)))) => hl.op (op_left (OpT.res _ _ _ _ _ _) (op_left (Rf.res _ _ _ _) (aflush_at hB2))))
  have K2 := Lib.hid (fun w' (hl : Law w0 w' (Both (Both (Pa ga sv gs (aflushed a)) (Rf ra rv rs a)) (OpT w.heap.size (.int .i64 2) (.int .i64 d) (.int .i64 n) (.string s) (.slice K l c)))) => hl.op (op_left (OpT.res _ _ _ _ _ _) (op_right (Pa.res _ _ _ _) (raflush_at))))
  clear h hres hdk hB1 hB2 hsm
  have e1 := d1 _ hL.opC
  have e2 := d2 _ hL.opC
  have HL := Lib.hid hL
  clear hL
  go_enter Try.func22, Try.ntmps22
  go_wp2_with fail
  refine (K1.out _ HL.out).mono ?_
  rintro e w2 ⟨rfl, hl2⟩
  have e3 := d1 _ hl2.opC
  have e4 := d2 _ hl2.opC
  have HL2 := Lib.hid hl2
  clear hl2
  go_wp2_with fail
  refine (K2.out _ HL2.out).mono ?_
  rintro e w3 ⟨rfl, hl3⟩
  have HL3 := Lib.hid hl3.drop
  clear hl3
  go_wp2_with fail
  go_ret
  exact ⟨rfl, HL3.out⟩

set_option maxRecDepth 100000 in
set_option maxHeartbeats 4000000 in
theorem adoes_crash {w0 w : World} {ga ra : Nat} {sv rv : Value} {gs rs : List Nat} {a : Arr} {B : Nat} (h : Law w0 w (Both (Pa ga sv gs a) (Rf ra rv rs a))) (hsm : Small a B) (hB : B ≤ 999999) (hfew : a.ds.length ≤ 255) (d n : Int) (s : ByteArray) (K : Option Addr) (c : Nat) (bs : List Bool) (hcap : bs.length ≤ c) (hmax : c ≤ 9223372036854775807) (hnil : K = none → c = 0) (hr : RowBools w0 K bs) :
    Calls Try.prog 22 #[.pointer (some ⟨ga, 0, none⟩), .pointer (some ⟨ra, 0, none⟩), .agg #[.int .i64 3, .int .i64 d, .int .i64 n, .string s, .slice K bs.length c]] w fun e w' => e = .returned (.bool true) ∧ Law w0 w' (Both (Pa ga sv gs (acrashed a bs)) (Rf ra rv rs (acrashed a bs))) := by
  have hL : Law w0 (w.alloc (.cells #[.int .i64 3, .int .i64 d, .int .i64 n, .string s, .slice K bs.length c] 36)) (Both (Both (Pa ga sv gs a) (Rf ra rv rs a)) (OpT w.heap.size (.int .i64 3) (.int .i64 d) (.int .i64 n) (.string s) (.slice K bs.length c))) := by
    obtain ⟨S, hA, hn, hb⟩ := h
    exact Law.step hn hb (Made.with (Both.res (Pa.res _ _ _ _) (Rf.res _ _ _ _)) hA (OpT.made w _ _ _ _ _))
  have hres : Res (Both (Both (Pa ga sv gs a) (Rf ra rv rs a)) (OpT w.heap.size (.int .i64 3) (.int .i64 d) (.int .i64 n) (.string s) (.slice K bs.length c))) := Both.res (Both.res (Pa.res _ _ _ _) (Rf.res _ _ _ _)) (OpT.res _ _ _ _ _ _)
  have hdk := hsm.dk
  have hB1 : ∀ i, (dk a i).wait.length ≤ 1000000 := fun i => Nat.le_trans (hdk i) (by omega)
  have hB2 : ∀ m ∈ a.ds, m.wait.length ≤ 1000000 := fun m hm => Nat.le_trans (hsm.wait m hm) (by omega)
  have d1 : ∀ w', OpC w' w.heap.size (.int .i64 3) (.int .i64 d) (.int .i64 n) (.string s) (.slice K bs.length c) → w'.cell? ⟨w.heap.size, 1, none⟩ = some (.int .i64 d) := fun w' hc => cell_of_row _ _ 1 _ _ _ hc
  have d2 : ∀ w', OpC w' w.heap.size (.int .i64 3) (.int .i64 d) (.int .i64 n) (.string s) (.slice K bs.length c) → w'.cell? ⟨w.heap.size, 2, none⟩ = some (.int .i64 n) := fun w' hc => cell_of_row _ _ 2 _ _ _ hc
  have d3 : ∀ w', OpC w' w.heap.size (.int .i64 3) (.int .i64 d) (.int .i64 n) (.string s) (.slice K bs.length c) → w'.cell? ⟨w.heap.size, 3, none⟩ = some (.string s) := fun w' hc => cell_of_row _ _ 3 _ _ _ hc
  have d4 : ∀ w', OpC w' w.heap.size (.int .i64 3) (.int .i64 d) (.int .i64 n) (.string s) (.slice K bs.length c) → w'.cell? ⟨w.heap.size, 4, none⟩ = some (.slice K bs.length c) := fun w' hc => cell_of_row _ _ 4 _ _ _ hc
  have K1 := Lib.hid (fun w' (hl : Law w0 w' (Both (Both (Pa ga sv gs a) (Rf ra rv rs a)) (OpT w.heap.size (.int .i64 3) (.int .i64 d) (.int .i64 n) (.string s) (.slice K bs.length c)))) => hl.acrash2 (Rf.res _ _ _ _) (OpT.res _ _ _ _ _ _) K c bs hcap hmax hnil hr)
  have K2 := Lib.hid (fun w' (hl : Law w0 w' (Both (Both (Pa ga sv gs (acrashed a bs)) (Rf ra rv rs a)) (OpT w.heap.size (.int .i64 3) (.int .i64 d) (.int .i64 n) (.string s) (.slice K bs.length c)))) => hl.racrash2 (Pa.res _ _ _ _) (OpT.res _ _ _ _ _ _) K c bs hcap hmax hnil hB2 hfew hr)
  have hLd := hL.drew hres
  have hC0 : OpC (w.alloc (.cells #[.int .i64 3, .int .i64 d, .int .i64 n, .string s, .slice K bs.length c] 36)).drew w.heap.size (.int .i64 3) (.int .i64 d) (.int .i64 n) (.string s) (.slice K bs.length c) := hLd.opC
  clear h hL hres hdk hB1 hB2 hsm
  go_enter Try.func22, Try.ntmps22
  go_wp2_with fail
  go_region_held3 (fun w' => OpC w' w.heap.size (.int .i64 3) (.int .i64 d) (.int .i64 n) (.string s) (.slice K bs.length c)) (first | assumption)
    (first | (go_at_call 14; refine (K1.out _ (by assumption)).mono ?_; rintro e w2 ⟨rfl, hl2⟩; have hc2 := hl2.opC) | (go_at_call 43; refine (K2.out _ (by assumption)).mono ?_; rintro e w3 ⟨rfl, hl3⟩; have hc3 := hl3.opC))
  all_goals
    go_wp2
    go_ret
    exact ⟨rfl, hl3.drop⟩

set_option maxRecDepth 100000 in
set_option maxHeartbeats 4000000 in
theorem adoes_corrupt {w0 w : World} {ga ra : Nat} {sv rv : Value} {gs rs : List Nat} {a : Arr} {B : Nat} (h : Law w0 w (Both (Pa ga sv gs a) (Rf ra rv rs a))) (hsm : Small a B) (hB : B ≤ 999999) (hfew : a.ds.length ≤ 255) (d n : Int) (s : ByteArray) (K : Option Addr) (c : Nat) (l : Nat) :
    Calls Try.prog 22 #[.pointer (some ⟨ga, 0, none⟩), .pointer (some ⟨ra, 0, none⟩), .agg #[.int .i64 4, .int .i64 d, .int .i64 n, .string s, .slice K l c]] w fun e w' => e = .returned (.bool true) ∧ Law w0 w' (Both (Pa ga sv gs (acorrupted a d n s)) (Rf ra rv rs (acorrupted a d n s))) := by
  have hL : Law w0 (w.alloc (.cells #[.int .i64 4, .int .i64 d, .int .i64 n, .string s, .slice K l c] 36)) (Both (Both (Pa ga sv gs a) (Rf ra rv rs a)) (OpT w.heap.size (.int .i64 4) (.int .i64 d) (.int .i64 n) (.string s) (.slice K l c))) := by
    obtain ⟨S, hA, hn, hb⟩ := h
    exact Law.step hn hb (Made.with (Both.res (Pa.res _ _ _ _) (Rf.res _ _ _ _)) hA (OpT.made w _ _ _ _ _))
  have hres : Res (Both (Both (Pa ga sv gs a) (Rf ra rv rs a)) (OpT w.heap.size (.int .i64 4) (.int .i64 d) (.int .i64 n) (.string s) (.slice K l c))) := Both.res (Both.res (Pa.res _ _ _ _) (Rf.res _ _ _ _)) (OpT.res _ _ _ _ _ _)
  have hdk := hsm.dk
  have hB1 : ∀ i, (dk a i).wait.length ≤ 1000000 := fun i => Nat.le_trans (hdk i) (by omega)
  have hB2 : ∀ m ∈ a.ds, m.wait.length ≤ 1000000 := fun m hm => Nat.le_trans (hsm.wait m hm) (by omega)
  have d1 : ∀ w', OpC w' w.heap.size (.int .i64 4) (.int .i64 d) (.int .i64 n) (.string s) (.slice K l c) → w'.cell? ⟨w.heap.size, 1, none⟩ = some (.int .i64 d) := fun w' hc => cell_of_row _ _ 1 _ _ _ hc
  have d2 : ∀ w', OpC w' w.heap.size (.int .i64 4) (.int .i64 d) (.int .i64 n) (.string s) (.slice K l c) → w'.cell? ⟨w.heap.size, 2, none⟩ = some (.int .i64 n) := fun w' hc => cell_of_row _ _ 2 _ _ _ hc
  have d3 : ∀ w', OpC w' w.heap.size (.int .i64 4) (.int .i64 d) (.int .i64 n) (.string s) (.slice K l c) → w'.cell? ⟨w.heap.size, 3, none⟩ = some (.string s) := fun w' hc => cell_of_row _ _ 3 _ _ _ hc
  have d4 : ∀ w', OpC w' w.heap.size (.int .i64 4) (.int .i64 d) (.int .i64 n) (.string s) (.slice K l c) → w'.cell? ⟨w.heap.size, 4, none⟩ = some (.slice K l c) := fun w' hc => cell_of_row _ _ 4 _ _ _ hc
  have K1 := Lib.hid (fun w' (hl : Law w0 w' (Both (Both (Pa ga sv gs a) (Rf ra rv rs a)) (OpT w.heap.size (.int .i64 4) (.int .i64 d) (.int .i64 n) (.string s) (.slice K l c)))) => hl.op (op_left (OpT.res _ _ _ _ _ _) (op_left (Rf.res _ _ _ _) (acorrupt_at d n s (hB1 d)))))
  have K2 := Lib.hid (fun w' (hl : Law w0 w' (Both (Both (Pa ga sv gs (acorrupted a d n s)) (Rf ra rv rs a)) (OpT w.heap.size (.int .i64 4) (.int .i64 d) (.int .i64 n) (.string s) (.slice K l c)))) => hl.op (op_left (OpT.res _ _ _ _ _ _) (op_right (Pa.res _ _ _ _) (rdo2 d n s (hB1 d)))))
  have hLd := hL.drew hres
  have hC0 : OpC (w.alloc (.cells #[.int .i64 4, .int .i64 d, .int .i64 n, .string s, .slice K l c] 36)).drew w.heap.size (.int .i64 4) (.int .i64 d) (.int .i64 n) (.string s) (.slice K l c) := hLd.opC
  clear h hL hres hdk hB1 hB2 hsm
  go_enter Try.func22, Try.ntmps22
  go_wp2_with fail
  go_region_held3 (fun w' => OpC w' w.heap.size (.int .i64 4) (.int .i64 d) (.int .i64 n) (.string s) (.slice K l c)) (first | assumption)
    (first | (go_at_call 20; refine (K1.out _ (by assumption)).mono ?_; rintro e w2 ⟨rfl, hl2⟩; have hc2 := hl2.opC) | (go_at_call 44; refine (K2.out _ (by assumption)).mono ?_; rintro e w3 ⟨rfl, hl3⟩; have hc3 := hl3.opC))
  all_goals
    go_wp2
    go_ret
    exact ⟨rfl, hl3.drop⟩

set_option maxRecDepth 100000 in
set_option maxHeartbeats 4000000 in
theorem adoes_fail {w0 w : World} {ga ra : Nat} {sv rv : Value} {gs rs : List Nat} {a : Arr} {B : Nat} (h : Law w0 w (Both (Pa ga sv gs a) (Rf ra rv rs a))) (hsm : Small a B) (hB : B ≤ 999999) (hfew : a.ds.length ≤ 255) (d n : Int) (s : ByteArray) (K : Option Addr) (c : Nat) (l : Nat) :
    Calls Try.prog 22 #[.pointer (some ⟨ga, 0, none⟩), .pointer (some ⟨ra, 0, none⟩), .agg #[.int .i64 5, .int .i64 d, .int .i64 n, .string s, .slice K l c]] w fun e w' => e = .returned (.bool true) ∧ Law w0 w' (Both (Pa ga sv gs (afaild a d)) (Rf ra rv rs (afaild a d))) := by
  have hL : Law w0 (w.alloc (.cells #[.int .i64 5, .int .i64 d, .int .i64 n, .string s, .slice K l c] 36)) (Both (Both (Pa ga sv gs a) (Rf ra rv rs a)) (OpT w.heap.size (.int .i64 5) (.int .i64 d) (.int .i64 n) (.string s) (.slice K l c))) := by
    obtain ⟨S, hA, hn, hb⟩ := h
    exact Law.step hn hb (Made.with (Both.res (Pa.res _ _ _ _) (Rf.res _ _ _ _)) hA (OpT.made w _ _ _ _ _))
  have hres : Res (Both (Both (Pa ga sv gs a) (Rf ra rv rs a)) (OpT w.heap.size (.int .i64 5) (.int .i64 d) (.int .i64 n) (.string s) (.slice K l c))) := Both.res (Both.res (Pa.res _ _ _ _) (Rf.res _ _ _ _)) (OpT.res _ _ _ _ _ _)
  have hdk := hsm.dk
  have hB1 : ∀ i, (dk a i).wait.length ≤ 1000000 := fun i => Nat.le_trans (hdk i) (by omega)
  have hB2 : ∀ m ∈ a.ds, m.wait.length ≤ 1000000 := fun m hm => Nat.le_trans (hsm.wait m hm) (by omega)
  have d1 : ∀ w', OpC w' w.heap.size (.int .i64 5) (.int .i64 d) (.int .i64 n) (.string s) (.slice K l c) → w'.cell? ⟨w.heap.size, 1, none⟩ = some (.int .i64 d) := fun w' hc => cell_of_row _ _ 1 _ _ _ hc
  have d2 : ∀ w', OpC w' w.heap.size (.int .i64 5) (.int .i64 d) (.int .i64 n) (.string s) (.slice K l c) → w'.cell? ⟨w.heap.size, 2, none⟩ = some (.int .i64 n) := fun w' hc => cell_of_row _ _ 2 _ _ _ hc
  have d3 : ∀ w', OpC w' w.heap.size (.int .i64 5) (.int .i64 d) (.int .i64 n) (.string s) (.slice K l c) → w'.cell? ⟨w.heap.size, 3, none⟩ = some (.string s) := fun w' hc => cell_of_row _ _ 3 _ _ _ hc
  have d4 : ∀ w', OpC w' w.heap.size (.int .i64 5) (.int .i64 d) (.int .i64 n) (.string s) (.slice K l c) → w'.cell? ⟨w.heap.size, 4, none⟩ = some (.slice K l c) := fun w' hc => cell_of_row _ _ 4 _ _ _ hc
  obtain ⟨z, hz⟩ : ∃ z : Int, (if noDisk a d then (1 : Int) else 0) = z := ⟨_, rfl⟩
  have K1 := Lib.hid (fun w' (hl : Law w0 w' (Both (Both (Pa ga sv gs a) (Rf ra rv rs a)) (OpT w.heap.size (.int .i64 5) (.int .i64 d) (.int .i64 n) (.string s) (.slice K l c)))) => hl.op (op_left (OpT.res _ _ _ _ _ _) (op_left (Rf.res _ _ _ _) (afail_at d))))
  have K2 := Lib.hid (fun w' (hl : Law w0 w' (Both (Both (Pa ga sv gs (afaild a d)) (Rf ra rv rs a)) (OpT w.heap.size (.int .i64 5) (.int .i64 d) (.int .i64 n) (.string s) (.slice K l c)))) => hl.op (op_left (OpT.res _ _ _ _ _ _) (op_right (Pa.res _ _ _ _) (rdo0 d 0 ByteArray.empty))))
  rw [hz] at K1 K2
  have hLd := hL.drew hres
  have hC0 : OpC (w.alloc (.cells #[.int .i64 5, .int .i64 d, .int .i64 n, .string s, .slice K l c] 36)).drew w.heap.size (.int .i64 5) (.int .i64 d) (.int .i64 n) (.string s) (.slice K l c) := hLd.opC
  clear h hL hres hdk hB1 hB2 hsm
  go_enter Try.func22, Try.ntmps22
  go_wp2_with fail
  go_region_held3 (fun w' => OpC w' w.heap.size (.int .i64 5) (.int .i64 d) (.int .i64 n) (.string s) (.slice K l c)) (first | assumption)
    (first | (go_at_call 17; refine (K1.out _ (by assumption)).mono ?_; rintro e w2 ⟨rfl, hl2⟩; have hc2 := hl2.opC) | (go_at_call 44; refine (K2.out _ (by assumption)).mono ?_; rintro e w3 ⟨rfl, hl3⟩; have hc3 := hl3.opC))
  all_goals
    go_wp2
    go_ret
    exact ⟨rfl, hl3.drop⟩

set_option maxRecDepth 100000 in
set_option maxHeartbeats 4000000 in
theorem adoes_replace {w0 w : World} {ga ra : Nat} {sv rv : Value} {gs rs : List Nat} {a : Arr} {B : Nat} (h : Law w0 w (Both (Pa ga sv gs a) (Rf ra rv rs a))) (hsm : Small a B) (hB : B ≤ 999999) (hfew : a.ds.length ≤ 255) (d n : Int) (s : ByteArray) (K : Option Addr) (c : Nat) (l : Nat) :
    Calls Try.prog 22 #[.pointer (some ⟨ga, 0, none⟩), .pointer (some ⟨ra, 0, none⟩), .agg #[.int .i64 6, .int .i64 d, .int .i64 n, .string s, .slice K l c]] w fun e w' => e = .returned (.bool true) ∧ Law w0 w' (Both (Pa ga sv gs (areplaced a d)) (Rf ra rv rs (areplaced a d))) := by
  have hL : Law w0 (w.alloc (.cells #[.int .i64 6, .int .i64 d, .int .i64 n, .string s, .slice K l c] 36)) (Both (Both (Pa ga sv gs a) (Rf ra rv rs a)) (OpT w.heap.size (.int .i64 6) (.int .i64 d) (.int .i64 n) (.string s) (.slice K l c))) := by
    obtain ⟨S, hA, hn, hb⟩ := h
    exact Law.step hn hb (Made.with (Both.res (Pa.res _ _ _ _) (Rf.res _ _ _ _)) hA (OpT.made w _ _ _ _ _))
  have hres : Res (Both (Both (Pa ga sv gs a) (Rf ra rv rs a)) (OpT w.heap.size (.int .i64 6) (.int .i64 d) (.int .i64 n) (.string s) (.slice K l c))) := Both.res (Both.res (Pa.res _ _ _ _) (Rf.res _ _ _ _)) (OpT.res _ _ _ _ _ _)
  have hdk := hsm.dk
  have hB1 : ∀ i, (dk a i).wait.length ≤ 1000000 := fun i => Nat.le_trans (hdk i) (by omega)
  have hB2 : ∀ m ∈ a.ds, m.wait.length ≤ 1000000 := fun m hm => Nat.le_trans (hsm.wait m hm) (by omega)
  have d1 : ∀ w', OpC w' w.heap.size (.int .i64 6) (.int .i64 d) (.int .i64 n) (.string s) (.slice K l c) → w'.cell? ⟨w.heap.size, 1, none⟩ = some (.int .i64 d) := fun w' hc => cell_of_row _ _ 1 _ _ _ hc
  have d2 : ∀ w', OpC w' w.heap.size (.int .i64 6) (.int .i64 d) (.int .i64 n) (.string s) (.slice K l c) → w'.cell? ⟨w.heap.size, 2, none⟩ = some (.int .i64 n) := fun w' hc => cell_of_row _ _ 2 _ _ _ hc
  have d3 : ∀ w', OpC w' w.heap.size (.int .i64 6) (.int .i64 d) (.int .i64 n) (.string s) (.slice K l c) → w'.cell? ⟨w.heap.size, 3, none⟩ = some (.string s) := fun w' hc => cell_of_row _ _ 3 _ _ _ hc
  have d4 : ∀ w', OpC w' w.heap.size (.int .i64 6) (.int .i64 d) (.int .i64 n) (.string s) (.slice K l c) → w'.cell? ⟨w.heap.size, 4, none⟩ = some (.slice K l c) := fun w' hc => cell_of_row _ _ 4 _ _ _ hc
  obtain ⟨z, hz⟩ : ∃ z : Int, (if noDisk a d then (1 : Int) else 0) = z := ⟨_, rfl⟩
  have K1 := Lib.hid (fun w' (hl : Law w0 w' (Both (Both (Pa ga sv gs a) (Rf ra rv rs a)) (OpT w.heap.size (.int .i64 6) (.int .i64 d) (.int .i64 n) (.string s) (.slice K l c)))) => hl.op (op_left (OpT.res _ _ _ _ _ _) (op_left (Rf.res _ _ _ _) (areplace_at d))))
  have K2 := Lib.hid (fun w' (hl : Law w0 w' (Both (Both (Pa ga sv gs (areplaced a d)) (Rf ra rv rs a)) (OpT w.heap.size (.int .i64 6) (.int .i64 d) (.int .i64 n) (.string s) (.slice K l c)))) => hl.op (op_left (OpT.res _ _ _ _ _ _) (op_right (Pa.res _ _ _ _) (rdo1 d 0 ByteArray.empty))))
  rw [hz] at K1 K2
  have hLd := hL.drew hres
  have hC0 : OpC (w.alloc (.cells #[.int .i64 6, .int .i64 d, .int .i64 n, .string s, .slice K l c] 36)).drew w.heap.size (.int .i64 6) (.int .i64 d) (.int .i64 n) (.string s) (.slice K l c) := hLd.opC
  clear h hL hres hdk hB1 hB2 hsm
  go_enter Try.func22, Try.ntmps22
  go_wp2_with fail
  go_region_held3 (fun w' => OpC w' w.heap.size (.int .i64 6) (.int .i64 d) (.int .i64 n) (.string s) (.slice K l c)) (first | assumption)
    (first | (go_at_call 19; refine (K1.out _ (by assumption)).mono ?_; rintro e w2 ⟨rfl, hl2⟩; have hc2 := hl2.opC) | (go_at_call 44; refine (K2.out _ (by assumption)).mono ?_; rintro e w3 ⟨rfl, hl3⟩; have hc3 := hl3.opC))
  all_goals
    go_wp2
    go_ret
    exact ⟨rfl, hl3.drop⟩

set_option maxRecDepth 100000 in
set_option maxHeartbeats 4000000 in
theorem adoes_fuse {w0 w : World} {ga ra : Nat} {sv rv : Value} {gs rs : List Nat} {a : Arr} {B : Nat} (h : Law w0 w (Both (Pa ga sv gs a) (Rf ra rv rs a))) (hsm : Small a B) (hB : B ≤ 999999) (hfew : a.ds.length ≤ 255) (d n : Int) (s : ByteArray) (K : Option Addr) (c : Nat) (l : Nat) :
    Calls Try.prog 22 #[.pointer (some ⟨ga, 0, none⟩), .pointer (some ⟨ra, 0, none⟩), .agg #[.int .i64 7, .int .i64 d, .int .i64 n, .string s, .slice K l c]] w fun e w' => e = .returned (.bool true) ∧ Law w0 w' (Both (Pa ga sv gs (fused a n)) (Rf ra rv rs (fused a n))) := by
  have hL : Law w0 (w.alloc (.cells #[.int .i64 7, .int .i64 d, .int .i64 n, .string s, .slice K l c] 36)) (Both (Both (Pa ga sv gs a) (Rf ra rv rs a)) (OpT w.heap.size (.int .i64 7) (.int .i64 d) (.int .i64 n) (.string s) (.slice K l c))) := by
    obtain ⟨S, hA, hn, hb⟩ := h
    exact Law.step hn hb (Made.with (Both.res (Pa.res _ _ _ _) (Rf.res _ _ _ _)) hA (OpT.made w _ _ _ _ _))
  have hres : Res (Both (Both (Pa ga sv gs a) (Rf ra rv rs a)) (OpT w.heap.size (.int .i64 7) (.int .i64 d) (.int .i64 n) (.string s) (.slice K l c))) := Both.res (Both.res (Pa.res _ _ _ _) (Rf.res _ _ _ _)) (OpT.res _ _ _ _ _ _)
  have hdk := hsm.dk
  have hB1 : ∀ i, (dk a i).wait.length ≤ 1000000 := fun i => Nat.le_trans (hdk i) (by omega)
  have hB2 : ∀ m ∈ a.ds, m.wait.length ≤ 1000000 := fun m hm => Nat.le_trans (hsm.wait m hm) (by omega)
  have d1 : ∀ w', OpC w' w.heap.size (.int .i64 7) (.int .i64 d) (.int .i64 n) (.string s) (.slice K l c) → w'.cell? ⟨w.heap.size, 1, none⟩ = some (.int .i64 d) := fun w' hc => cell_of_row _ _ 1 _ _ _ hc
  have d2 : ∀ w', OpC w' w.heap.size (.int .i64 7) (.int .i64 d) (.int .i64 n) (.string s) (.slice K l c) → w'.cell? ⟨w.heap.size, 2, none⟩ = some (.int .i64 n) := fun w' hc => cell_of_row _ _ 2 _ _ _ hc
  have d3 : ∀ w', OpC w' w.heap.size (.int .i64 7) (.int .i64 d) (.int .i64 n) (.string s) (.slice K l c) → w'.cell? ⟨w.heap.size, 3, none⟩ = some (.string s) := fun w' hc => cell_of_row _ _ 3 _ _ _ hc
  have d4 : ∀ w', OpC w' w.heap.size (.int .i64 7) (.int .i64 d) (.int .i64 n) (.string s) (.slice K l c) → w'.cell? ⟨w.heap.size, 4, none⟩ = some (.slice K l c) := fun w' hc => cell_of_row _ _ 4 _ _ _ hc
  obtain ⟨z, hz⟩ : ∃ z : Int, (if n < 0 then (1 : Int) else 0) = z := ⟨_, rfl⟩
  have K1 := Lib.hid (fun w' (hl : Law w0 w' (Both (Both (Pa ga sv gs a) (Rf ra rv rs a)) (OpT w.heap.size (.int .i64 7) (.int .i64 d) (.int .i64 n) (.string s) (.slice K l c)))) => hl.op (op_left (OpT.res _ _ _ _ _ _) (op_left (Rf.res _ _ _ _) (fuse_at n))))
  have K2 := Lib.hid (fun w' (hl : Law w0 w' (Both (Both (Pa ga sv gs (fused a n)) (Rf ra rv rs a)) (OpT w.heap.size (.int .i64 7) (.int .i64 d) (.int .i64 n) (.string s) (.slice K l c)))) => hl.op (op_left (OpT.res _ _ _ _ _ _) (op_right (Pa.res _ _ _ _) (rfuse_at n))))
  rw [hz] at K1 K2
  have hLd := hL.drew hres
  have hC0 : OpC (w.alloc (.cells #[.int .i64 7, .int .i64 d, .int .i64 n, .string s, .slice K l c] 36)).drew w.heap.size (.int .i64 7) (.int .i64 d) (.int .i64 n) (.string s) (.slice K l c) := hLd.opC
  clear h hL hres hdk hB1 hB2 hsm
  go_enter Try.func22, Try.ntmps22
  go_wp2_with fail
  go_region_held3 (fun w' => OpC w' w.heap.size (.int .i64 7) (.int .i64 d) (.int .i64 n) (.string s) (.slice K l c)) (first | assumption)
    (first | (go_at_call 11; refine (K1.out _ (by assumption)).mono ?_; rintro e w2 ⟨rfl, hl2⟩; have hc2 := hl2.opC) | (go_at_call 45; refine (K2.out _ (by assumption)).mono ?_; rintro e w3 ⟨rfl, hl3⟩; have hc3 := hl3.opC))
  all_goals
    go_wp2
    go_ret
    exact ⟨rfl, hl3.drop⟩

set_option maxRecDepth 100000 in
set_option maxHeartbeats 4000000 in
theorem adoes_copy {w0 w : World} {ga ra : Nat} {sv rv : Value} {gs rs : List Nat} {a : Arr} {B : Nat} (h : Law w0 w (Both (Pa ga sv gs a) (Rf ra rv rs a))) (hsm : Small a B) (hB : B ≤ 999999) (hfew : a.ds.length ≤ 255) (d n : Int) (s : ByteArray) (K : Option Addr) (c : Nat) (l : Nat) (q : Int) (hqq : q < 0 ∨ 7 < q) :
    Calls Try.prog 22 #[.pointer (some ⟨ga, 0, none⟩), .pointer (some ⟨ra, 0, none⟩), .agg #[.int .i64 q, .int .i64 d, .int .i64 n, .string s, .slice K l c]] w fun e w' => e = .returned (.bool true) ∧ Law w0 w' (Both (Pa ga sv gs a) (Rf ra rv rs a)) := by
  have hL : Law w0 (w.alloc (.cells #[.int .i64 q, .int .i64 d, .int .i64 n, .string s, .slice K l c] 36)) (Both (Both (Pa ga sv gs a) (Rf ra rv rs a)) (OpT w.heap.size (.int .i64 q) (.int .i64 d) (.int .i64 n) (.string s) (.slice K l c))) := by
    obtain ⟨S, hA, hn, hb⟩ := h
    exact Law.step hn hb (Made.with (Both.res (Pa.res _ _ _ _) (Rf.res _ _ _ _)) hA (OpT.made w _ _ _ _ _))
  have hres : Res (Both (Both (Pa ga sv gs a) (Rf ra rv rs a)) (OpT w.heap.size (.int .i64 q) (.int .i64 d) (.int .i64 n) (.string s) (.slice K l c))) := Both.res (Both.res (Pa.res _ _ _ _) (Rf.res _ _ _ _)) (OpT.res _ _ _ _ _ _)
  have hdk := hsm.dk
  have hB1 : ∀ i, (dk a i).wait.length ≤ 1000000 := fun i => Nat.le_trans (hdk i) (by omega)
  have hB2 : ∀ m ∈ a.ds, m.wait.length ≤ 1000000 := fun m hm => Nat.le_trans (hsm.wait m hm) (by omega)
  have d1 : ∀ w', OpC w' w.heap.size (.int .i64 q) (.int .i64 d) (.int .i64 n) (.string s) (.slice K l c) → w'.cell? ⟨w.heap.size, 1, none⟩ = some (.int .i64 d) := fun w' hc => cell_of_row _ _ 1 _ _ _ hc
  have d2 : ∀ w', OpC w' w.heap.size (.int .i64 q) (.int .i64 d) (.int .i64 n) (.string s) (.slice K l c) → w'.cell? ⟨w.heap.size, 2, none⟩ = some (.int .i64 n) := fun w' hc => cell_of_row _ _ 2 _ _ _ hc
  have d3 : ∀ w', OpC w' w.heap.size (.int .i64 q) (.int .i64 d) (.int .i64 n) (.string s) (.slice K l c) → w'.cell? ⟨w.heap.size, 3, none⟩ = some (.string s) := fun w' hc => cell_of_row _ _ 3 _ _ _ hc
  have d4 : ∀ w', OpC w' w.heap.size (.int .i64 q) (.int .i64 d) (.int .i64 n) (.string s) (.slice K l c) → w'.cell? ⟨w.heap.size, 4, none⟩ = some (.slice K l c) := fun w' hc => cell_of_row _ _ 4 _ _ _ hc
  have hq : ∀ i, i ≤ 7 → 0 ≤ i → ¬ q = i := fun i h1 h2 => by omega
  have q0 := hq 0 (by decide) (by decide)
  have q1 := hq 1 (by decide) (by decide)
  have q2 := hq 2 (by decide) (by decide)
  have q3 := hq 3 (by decide) (by decide)
  have q4 := hq 4 (by decide) (by decide)
  have q5 := hq 5 (by decide) (by decide)
  have q6 := hq 6 (by decide) (by decide)
  have q7 := hq 7 (by decide) (by decide)
  clear hq hqq
  have hcopy : Calls Try.prog 16 #[.pointer (some ⟨ga, 0, none⟩)] (w.alloc (.cells #[.int .i64 q, .int .i64 d, .int .i64 n, .string s, .slice K l c] 36)) fun e w' => ∃ gc sv' gs', e = .returned (.pointer (some ⟨gc, 0, none⟩)) ∧ Law w0 w' (Both (Both (Both (Pa ga sv gs a) (Pa gc sv' gs' a)) (Rf ra rv rs a)) (OpT w.heap.size (.int .i64 q) (.int .i64 d) (.int .i64 n) (.string s) (.slice K l c))) := by
    obtain ⟨U, ⟨S, T, ⟨S1, S2, h1, h2, hd2, rfl⟩, hC, hd, rfl⟩, hn, hb⟩ := hL
    exact (acopy_at hB2 hfew h1).mono fun e w' ⟨gc, sv', gs', he, hs⟩ => ⟨gc, sv', gs', he, Law.step hn hb (Step.left (OpT.res _ _ _ _ _ _) (Step.left (Rf.res _ _ _ _) hs h2 hd2) hC hd)⟩
  have KC := Lib.hid hcopy
  have HSM := Lib.hid hsm
  clear h hcopy hL hres hdk hB1 hB2
  go_enter Try.func22, Try.ntmps22
  go_wp2_with fail
  refine KC.out.mono ?_
  rintro e w2 ⟨gc, sv', gs', rfl, hl2⟩
  have e1 := d1 _ hl2.opC
  have e2 := d2 _ hl2.opC
  have e3 := d3 _ hl2.opC
  have K3 := Lib.hid (hl2.op (op_left (OpT.res _ _ _ _ _ _) (op_left (Rf.res _ _ _ _) (op_right (Pa.res _ _ _ _) (awrite_at d n s (Nat.le_trans (HSM.out.dk d) (by omega)) HSM.out.left)))))
  have HW := Lib.hid (HSM.out.write d n s)
  clear hl2
  go_wp2_with fail
  refine K3.out.mono ?_
  rintro e w3 ⟨rfl, hl3⟩
  have K4 := Lib.hid (hl3.op (op_left (OpT.res _ _ _ _ _ _) (op_left (Rf.res _ _ _ _) (op_right (Pa.res _ _ _ _) (aflush_at (fun m hm => Nat.le_trans (HW.out.wait m hm) (by omega)))))))
  clear hl3
  go_wp2_with fail
  refine K4.out.mono ?_
  rintro e w4 ⟨rfl, hl4⟩
  have HL4 := Lib.hid (show Law w0 w4 (Both (Pa ga sv gs a) (Rf ra rv rs a)) from by
    obtain ⟨U, ⟨S, T, ⟨S1, S2, ⟨S3, S4, h1, h2, hd1, rfl⟩, h3, hd2, rfl⟩, hC, hd, rfl⟩, hn, hb⟩ := hl4
    exact ⟨_, ⟨S3, S2, h1, h3, fun k hk => hd2 k (.inl hk), rfl⟩, fun k hk => hn k (.inl (hk.imp .inl id)), hb⟩)
  clear hl4
  go_wp2_with fail
  go_ret
  exact ⟨rfl, HL4.out⟩

end Go.Proofs.Ytpmhjagmgjolmaa.Dk
