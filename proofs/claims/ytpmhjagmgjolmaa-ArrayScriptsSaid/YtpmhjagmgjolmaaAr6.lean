/- The walk of Crash of layer 10. -/
import Derived.Test.YtpmhjagmgjolmaaAr5
namespace Go.Proofs.Ytpmhjagmgjolmaa.Dk
open Go.RowKit

/-- How many writes wait ahead of disk k. -/
def offs (ds : List Dsk) (k : Nat) : Nat := ((ds.take k).map fun m => m.wait.length).sum
set_option maxRecDepth 100000 in
theorem offs_zero (ds : List Dsk) : offs ds 0 = 0 := by simp [offs]
theorem offs_succ (ds : List Dsk) (k : Nat) (m : Dsk) (h : ds[k]? = some m) : offs ds (k + 1) = offs ds k + m.wait.length := by
  unfold offs
  rw [List.take_add_one, h]
  simp
/-- The disks behind a crash. -/
def crashAll (ds : List Dsk) (bs : List Bool) : List Dsk := ds.mapIdx fun k m => crashed m ((bs.drop (offs ds k)).take m.wait.length)
set_option maxRecDepth 100000 in
theorem crashAll_len (ds : List Dsk) (bs : List Bool) : (crashAll ds bs).length = ds.length := by simp [crashAll]
theorem crashAll_get (ds : List Dsk) (bs : List Bool) (k : Nat) (m : Dsk) (h : ds[k]? = some m) : (crashAll ds bs)[k]? = some (crashed m ((bs.drop (offs ds k)).take m.wait.length)) := by
  unfold crashAll
  rw [List.getElem?_mapIdx, h]
  rfl
def acrashed (a : Arr) (bs : List Bool) : Arr := { ds := crashAll a.ds bs, left := -1, down := false }

set_option maxRecDepth 100000 in
theorem acrash_nil (v : Value) (w : World) : Calls Try.prog 14 #[.pointer none, v] w fun e w' => e = .returned (.int .i64 1) ∧ w = w' := by
  go_enter Try.func14, Try.ntmps14
  go_wp2
  go_ret
  exact ⟨rfl, rfl⟩

/-- A call on one of many things, that may ask what its blocks lie in. -/
theorem All.opIn {w : World} {f : FuncId} {args : Array Value} {X : Ending} {A A' : Thing} {V : Nat → Prop} (hop : ∀ S, (∀ k, S k → V k) → A w S → Calls Try.prog f args w fun e w' => e = X ∧ Step w w' S (A' w')) :
    ∀ (l : List Thing) (i : Nat), (∀ B ∈ l, Res B) → l[i]? = some A → ∀ S, (∀ k, S k → V k) → All l w S → Calls Try.prog f args w fun e w' => e = X ∧ Step w w' S (All (l.set i A') w')
  | [], _, _, h => by simp at h
  | B :: r, 0, hr, h => by
    simp at h
    subst h
    rintro U hV ⟨S, T, hA, hB, hd, rfl⟩
    exact (hop S (fun k hk => hV k (.inl hk)) hA).mono fun e w' ⟨he, hs⟩ => ⟨he, Step.left (All.res r fun C hC => hr C (by simp [hC])) hs hB hd⟩
  | B :: r, i + 1, hr, h => by
    rintro U hV ⟨S, T, hA, hB, hd, rfl⟩
    exact (All.opIn hop r i (fun C hC => hr C (by simp [hC])) (by simpa using h) T (fun k hk => hV k (.inr hk)) hB).mono fun e w' ⟨he, hs⟩ => ⟨he, Step.right (hr B (by simp)) hA hs hd⟩

set_option maxRecDepth 100000 in
theorem Ar.opIn {X : Nat → Dsk → Thing} (hX : ∀ g m, Res (X g m)) {T P : TypeId} {ga : Nat} {sv : Value} {gs : List Nat} {a : Arr} {w : World} {f : FuncId} {args : Array Value} {E : Ending} {i g : Nat} {m m' : Dsk} (hi : a.ds[i]? = some m) (hg : gs[i]? = some g) (S : Nat → Prop)
    (hop : ∀ U, (∀ k, U k → S k) → X g m w U → Calls Try.prog f args w fun e w' => e = E ∧ Step w w' U (X g m' w')) (h : Ar X T P ga sv gs a w S) :
    Calls Try.prog f args w fun e w' => e = E ∧ Step w w' S (Ar X T P ga sv gs { a with ds := a.ds.set i m' } w') := by
  obtain ⟨hl, S1, S2, h1, h2, hd, rfl⟩ := h
  have hz : (List.zipWith X gs a.ds)[i]? = some (X g m) := by simp [List.getElem?_zipWith, hi, hg]
  refine (All.opIn hop _ i (Ar.disks hX gs a.ds) hz S2 (fun k hk => .inr hk) h2).mono ?_
  rintro e w' ⟨he, hs⟩
  obtain ⟨S', hB, hf, hg'⟩ := Step.right (Head.res T P ga sv gs a.left a.down) h1 hs hd
  refine ⟨he, S', ⟨by simpa using hl, ?_⟩, hf, hg'⟩
  have hset : (List.zipWith X gs a.ds).set i (X g m') = List.zipWith X gs (a.ds.set i m') := by
    apply List.ext_getElem?
    intro j
    by_cases e : i = j
    · subst e
      have h1 := (List.getElem?_eq_some_iff.1 hi).1
      have h2 := (List.getElem?_eq_some_iff.1 hg).1
      rw [List.getElem?_set_self (by simp; omega), List.getElem?_zipWith, hg, List.getElem?_set_self h1]
    · rw [List.getElem?_set_ne e, List.getElem?_zipWith, List.getElem?_zipWith, List.getElem?_set_ne e]
  rw [hset] at hB
  exact hB

/-- A row of truths that lies apart, in a later world. -/
theorem ReadsBools.later {w wx : World} {S S1 U : Nat → Prop} {B : Option Addr} {bs : List Bool} (h : ReadsBools w S B bs) (hf : Fr S w wx) (hg : ∀ k, S1 k → S k ∨ w.heap.size ≤ k) (hU : ∀ k, U k → S1 k) (n : Nat) : ReadsBools wx U B (bs.take n) := by
  intro j b hj
  have hj' : bs[j]? = some b := by
    rw [List.getElem?_take] at hj
    split at hj
    · exact hj
    · simp at hj
  obtain ⟨ad, hB, hc, hS⟩ := h j b hj'
  have hlt : ad.block < w.heap.size := by
    have := World.block_lt_of_cell? w _ hc
    rwa [addr_block] at this
  refine ⟨ad, hB, hf.cell hc (by rw [addr_block]; exact hS), fun hk => ?_⟩
  rcases hg _ (hU _ hk) with e | e
  · exact hS e
  · omega

set_option maxRecDepth 100000 in
theorem ReadsBools.shift {w : World} {S : Nat → Prop} {B : Option Addr} {bs : List Bool} (h : ReadsBools w S B bs) (n : Nat) : ReadsBools w S (B.map (fun x => x.add n)) (bs.drop n) := by
  intro j b hj
  rw [List.getElem?_drop] at hj
  obtain ⟨ad, rfl, hc, hS⟩ := h _ b hj
  exact ⟨ad.add n, rfl, by rw [Deep.add_add]; exact hc, by rw [addr_block]; exact hS⟩
set_option maxRecDepth 100000 in
theorem ReadsBools.shift_none {w : World} {S : Nat → Prop} {B B' : Option Addr} {bs : List Bool} {n : Nat} (_ : ReadsBools w S B bs) (hn : bs.length ≤ n) : ReadsBools w S B' (bs.drop n) := by
  intro j b hj
  rw [List.drop_of_length_le hn] at hj
  simp at hj

set_option maxRecDepth 100000 in
set_option maxHeartbeats 4000000 in
theorem acrash_at {ga : Nat} {sv : Value} {gs : List Nat} {a : Arr} {w : World} (K : Option Addr) (kc : Nat) (bs : List Bool) (hcap : bs.length ≤ kc) (hmax : kc ≤ 9223372036854775807) (hnil : K = none → kc = 0) (S : Nat → Prop) (hr : ReadsBools w S K bs) (h : Pa ga sv gs a w S) :
    Calls Try.prog 14 #[.pointer (some ⟨ga, 0, none⟩), .slice K bs.length kc] w fun e w' => e = .returned (.int .i64 0) ∧ Step w w' S (Pa ga sv gs (acrashed a bs) w') := by
  have H := Lib.hid h
  have HR := Lib.hid hr
  obtain ⟨A, c, rfl, hlm, hl, c0, -, -, -, -⟩ := h.reads
  clear h hr
  go_enter Try.func14, Try.ntmps14
  go_wp2_with fail
  go_loopg [1, 15] a.ds.length (fun q v1 v15 wx => ∃ (k : Nat) (B : Option Addr) (d : Nat) (rest : List Bool), k + q = a.ds.length ∧ v15 = .int .i64 (k : Int) ∧ v1 = .slice B rest.length d ∧ rest.length ≤ d ∧ d ≤ 9223372036854775807 ∧ (B = none → d = 0) ∧ Aside (Step w wx S (Pa ga (.slice A a.ds.length c) gs { a with ds := mix a.ds (crashAll a.ds bs) k } wx) ∧ bs.drop (offs a.ds k) = rest ∧ ReadsBools w S B rest))
  case atStart => exact ⟨0, K, kc, bs, by omega, rfl, rfl, hcap, hmax, hnil, by rw [mix_zero]; exact ⟨Step.same (Pa.res _ _ _ _) H.out (Fr.refl _ _), by rw [offs_zero]; rfl, HR.out⟩⟩
  case round =>
    obtain ⟨k, B, d, rest, hkq, rfl, rfl, hr1, hr2, hr3, HI⟩ := hrel
    cases gk with
    | zero =>
      obtain rfl : k = a.ds.length := by omega
      rw [mix_all _ _ (crashAll_len _ _)] at HI
      obtain ⟨S1, hA, hf, hg1⟩ := HI.out.1
      obtain ⟨A2, c2, -, -, -, -, x1, x2, xf, -⟩ := hA.reads
      have x1' : wr.cell? ⟨ga, 1, none⟩ = some (.int .i64 a.left) := x1
      have x2' : wr.cell? ⟨ga, 2, none⟩ = some (.bool a.down) := x2
      have xf1 := xf 1
      have xf2 := xf 2
      clear xf x1 x2
      have HA := Lib.hid hA
      have HF := Lib.hid (And.intro hf hg1)
      clear hA hf hg1
      have HZ := Lib.hid (Step.on HF.out.1 HF.out.2 (Step.then (A := fun w => Pa ga (.slice A a.ds.length c) gs { a with ds := crashAll a.ds bs, down := false } w) (B := fun w => Pa ga (.slice A a.ds.length c) gs (acrashed a bs) w) (Ar.setDown D.res HA.out false) fun S' hS' => Ar.setLeft D.res hS' (-1)))
      go_wp2_with fail
      go_ret
      exact ⟨rfl, HZ.out⟩
    | succ q =>
      have hm : k < a.ds.length := by omega
      have hmi : (k : Int) < (a.ds.length : Int) := by omega
      obtain ⟨S1, hA, hf, hg1⟩ := HI.out.1
      obtain ⟨g, hg⟩ : ∃ g, gs[k]? = some g := ⟨_, List.getElem?_eq_getElem (by omega)⟩
      obtain ⟨m, hmk⟩ : ∃ m, a.ds[k]? = some m := ⟨_, List.getElem?_eq_getElem hm⟩
      obtain ⟨ad, rfl, hc⟩ := hA.elem hg
      have hmix : (mix a.ds (crashAll a.ds bs) k)[k]? = some m := by rw [mix_get _ _ (crashAll_len _ _) k hm]; exact hmk
      obtain ⟨U, hU, hUS⟩ := Ar.get (a := { a with ds := mix a.ds (crashAll a.ds bs) k }) hmix hg hA
      have KP := Lib.hid (pending_at hU)
      have hop := Ar.opIn D.res (a := { a with ds := mix a.ds (crashAll a.ds bs) k }) (m' := crashed m (rest.take m.wait.length)) hmix hg S1 (fun U' hV hD => crash_step B d (rest.take m.wait.length) U' (HI.out.2.2.later hf hg1 hV _) hD) hA
      have hnew := crashAll_get a.ds bs k m hmk
      rw [HI.out.2.1] at hnew
      simp only [mix_set a.ds (crashAll a.ds bs) (crashAll_len _ _) k _ hnew, List.length_take] at hop
      have K3 := Lib.hid hop
      have HF := Lib.hid (And.intro hf hg1)
      have HR2 := Lib.hid HI.out.2
      have hoff := offs_succ a.ds k m hmk
      clear hU hUS hop hnew hmix hA hf hg1 HI
      by_cases hw : (m.wait.length : Int) ≤ (rest.length : Int)
      · have hmin : min m.wait.length rest.length = m.wait.length := by omega
        rw [hmin] at K3
        go_wp2_with fail
        refine KP.out.mono ?_
        rintro e w2 ⟨rfl, rfl⟩
        go_wp2_with fail
        refine K3.out.mono ?_
        rintro e w2 ⟨rfl, hs⟩
        have HS := Lib.hid (Step.on HF.out.1 HF.out.2 hs)
        clear hs
        go_wp2_with fail
        · rename_i hdn
          go_roundg q
          case measure => omega
          case rel => exact ⟨k + 1, B, 0, rest.drop m.wait.length, by omega, by go_num, by simp only [List.length_drop] <;> (congr 1; omega), by rw [List.length_drop]; omega, by omega, fun _ => rfl, HS.out, by rw [hoff, ← List.drop_drop, HR2.out.1], HR2.out.2.shift_none (by omega)⟩
        · rename_i hdn
          go_roundg q
          case measure => omega
          case rel => exact ⟨k + 1, B.map (fun x => x.add m.wait.length), d - m.wait.length, rest.drop m.wait.length, by omega, by go_num, by simp only [List.length_drop] <;> (congr 1; omega), by rw [List.length_drop]; omega, by omega, fun h => by cases B with | none => (have := hr3 rfl; omega) | some _ => simp at h, HS.out, by rw [hoff, ← List.drop_drop, HR2.out.1], HR2.out.2.shift m.wait.length⟩
      · have hmin : min m.wait.length rest.length = rest.length := by omega
        rw [hmin] at K3
        go_wp2_with fail
        refine KP.out.mono ?_
        rintro e w2 ⟨rfl, rfl⟩
        go_wp2_with fail
        refine K3.out.mono ?_
        rintro e w2 ⟨rfl, hs⟩
        have HS := Lib.hid (Step.on HF.out.1 HF.out.2 hs)
        clear hs
        go_wp2_with fail
        · rename_i hdn
          go_roundg q
          case measure => omega
          case rel => exact ⟨k + 1, B, 0, rest.drop m.wait.length, by omega, by go_num, by simp only [List.length_drop] <;> (congr 1; omega), by rw [List.length_drop]; omega, by omega, fun _ => rfl, HS.out, by rw [hoff, ← List.drop_drop, HR2.out.1], HR2.out.2.shift_none (by omega)⟩
        · rename_i hdn
          go_roundg q
          case measure => omega
          case rel => exact ⟨k + 1, B.map (fun x => x.add rest.length), d - rest.length, rest.drop m.wait.length, by omega, by go_num, by simp only [List.length_drop] <;> (congr 1; omega), by rw [List.length_drop]; omega, by omega, fun h => by cases B with | none => (have := hr3 rfl; omega) | some _ => simp at h, HS.out, by rw [hoff, ← List.drop_drop, HR2.out.1], HR2.out.2.shift_none (by omega)⟩

end Go.Proofs.Ytpmhjagmgjolmaa.Dk
