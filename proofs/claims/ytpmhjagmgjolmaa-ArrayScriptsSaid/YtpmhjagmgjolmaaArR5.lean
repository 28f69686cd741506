/- The document's array (layer 10): Flush, Crash. -/
import Derived.Test.YtpmhjagmgjolmaaArR4
namespace Go.Proofs.Ytpmhjagmgjolmaa.Dk
open Go.RowKit

set_option maxRecDepth 100000 in
set_option maxHeartbeats 4000000 in
theorem raflush_at {ga : Nat} {sv : Value} {gs : List Nat} {a : Arr} {w : World} (S : Nat → Prop) (h : Rf ga sv gs a w S) :
    Calls Try.prog 42 #[.pointer (some ⟨ga, 0, none⟩)] w fun e w' => e = .returned (.int .i64 (powerE a)) ∧ Step w w' S (Rf ga sv gs (aflushed a) w') := by
  unfold aflushed powerE
  have H := Lib.hid h
  obtain ⟨A, c, rfl, hlm, hl, c0, c1, c2, -, -⟩ := h.reads
  clear h
  by_cases hd : a.down = true
  · rw [hd] at c2
    rw [if_pos hd, if_pos hd]
    go_enter Try.func42, Try.ntmps42
    go_wp2_with fail
    go_ret
    exact ⟨rfl, Step.same (Rf.res _ _ _ _) H.out (Fr.refl _ _)⟩
  rw [if_neg hd, if_neg hd]
  have hd' : a.down = false := by simpa using hd
  rw [hd'] at c2
  go_enter Try.func42, Try.ntmps42
  go_wp2_with fail
  go_loopg [3] a.ds.length (fun q v3 wx => ∃ k : Nat, k + q = a.ds.length ∧ v3 = .int .i64 (k : Int) ∧ Aside (Step w wx S (Rf ga (.slice A a.ds.length c) gs { a with ds := mix a.ds (a.ds.map flushed) k } wx)))
  case atStart => exact ⟨0, by omega, rfl, by rw [mix_zero]; exact Step.same (Rf.res _ _ _ _) H.out (Fr.refl _ _)⟩
  case round =>
    obtain ⟨k, hkq, rfl, HI⟩ := hrel
    have x0 : wr.cell? ⟨ga, 0, none⟩ = some (.slice A a.ds.length c) := by
      obtain ⟨S1, hA, -, -⟩ := HI.out
      obtain ⟨_, _, -, -, -, x0, -⟩ := hA.reads
      exact x0
    cases gk with
    | zero =>
      obtain rfl : k = a.ds.length := by omega
      rw [mix_all _ _ (by simp)] at HI
      go_wp2_with fail
      go_ret
      exact ⟨rfl, HI.out⟩
    | succ q =>
      have hm : k < a.ds.length := by omega
      have hmi : (k : Int) < (a.ds.length : Int) := by omega
      obtain ⟨S1, hA, hf, hg1⟩ := HI.out
      obtain ⟨g, hg⟩ : ∃ g, gs[k]? = some g := ⟨_, List.getElem?_eq_getElem (by omega)⟩
      obtain ⟨m, hmk⟩ : ∃ m, a.ds[k]? = some m := ⟨_, List.getElem?_eq_getElem hm⟩
      obtain ⟨ad, rfl, hc⟩ := hA.elem hg
      have hop := Ar.op R.res (a := { a with ds := mix a.ds (a.ds.map flushed) k }) (i := k) (m := m) (m' := flushed m) (by rw [mix_get _ _ (by simp) k hm]; exact hmk) hg rflush_at S1 hA
      simp only [mix_set a.ds (a.ds.map flushed) (by simp) k (flushed m) (by simp [hmk])] at hop
      have K3 := Lib.hid hop
      have HF := Lib.hid (And.intro hf hg1)
      clear hop hA hf hg1 HI
      go_wp2_with fail
      refine K3.out.mono ?_
      rintro e w2 ⟨rfl, hs⟩
      have HS := Lib.hid (Step.on HF.out.1 HF.out.2 hs)
      clear hs
      go_wp2_with fail
      go_roundg q
      case measure => omega
      case rel => exact ⟨k + 1, by omega, by go_num, HS.out⟩

set_option maxRecDepth 100000 in
theorem kept_take : ∀ (ws : List Ev) (bs : List Bool) (L : List ByteArray), kept L ws (bs.take ws.length) = kept L ws bs
  | [], bs, L => by simp [kept]
  | x :: xs, [], L => by simp [kept]
  | x :: xs, b :: bs, L => by simp [kept, kept_take xs bs]
set_option maxRecDepth 100000 in
theorem crashed_take (m : Dsk) (bs : List Bool) : crashed m (bs.take m.wait.length) = crashed m bs := by
  unfold crashed
  rw [kept_take]
set_option maxRecDepth 100000 in
theorem offs_le (ds : List Dsk) (B : Nat) (h : ∀ m ∈ ds, m.wait.length ≤ B) : ∀ k, k ≤ ds.length → offs ds k ≤ k * B
  | 0, _ => by simp [offs]
  | k + 1, hk => by
    have ih := offs_le ds B h k (by omega)
    obtain ⟨m, hm⟩ : ∃ m, ds[k]? = some m := ⟨_, List.getElem?_eq_getElem (by omega)⟩
    rw [offs_succ ds k m hm]
    have := h m (List.mem_of_getElem? hm)
    rw [Nat.add_mul]
    omega
set_option maxRecDepth 100000 in
theorem ReadsBools.later0 {w wx : World} {S S1 U : Nat → Prop} {B : Option Addr} {bs : List Bool} (h : ReadsBools w S B bs) (hf : Fr S w wx) (hg : ∀ k, S1 k → S k ∨ w.heap.size ≤ k) (hU : ∀ k, U k → S1 k) : ReadsBools wx U B bs := by
  have := h.later hf hg hU bs.length
  rwa [List.take_of_length_le (Nat.le_refl _)] at this

set_option maxRecDepth 100000 in
set_option maxHeartbeats 4000000 in
theorem racrash_at {ga : Nat} {sv : Value} {gs : List Nat} {a : Arr} {w : World} (K : Option Addr) (kc : Nat) (bs : List Bool) (hcap : bs.length ≤ kc) (hmax : kc ≤ 9223372036854775807) (hnil : K = none → kc = 0) (hsum : ∀ m ∈ a.ds, m.wait.length ≤ 1000000) (hfew : a.ds.length ≤ 255) (S : Nat → Prop) (hr : ReadsBools w S K bs) (h : Rf ga sv gs a w S) :
    Calls Try.prog 43 #[.pointer (some ⟨ga, 0, none⟩), .slice K bs.length kc] w fun e w' => e = .returned (.int .i64 0) ∧ Step w w' S (Rf ga sv gs (acrashed a bs) w') := by
  have H := Lib.hid h
  have HR := Lib.hid hr
  obtain ⟨A, c, rfl, hlm, hl, c0, -, -, -, -⟩ := h.reads
  clear h hr
  go_enter Try.func43, Try.ntmps43
  go_wp2_with fail
  go_loopg [5, 6] a.ds.length (fun q v5 v6 wx => ∃ (k off : Nat), k + q = a.ds.length ∧ v6 = .int .i64 (k : Int) ∧ v5 = .int .i64 (off : Int) ∧ Aside (offs a.ds k = off ∧ Step w wx S (Rf ga (.slice A a.ds.length c) gs { a with ds := mix a.ds (crashAll a.ds bs) k } wx)))
  case atStart => exact ⟨0, 0, by omega, rfl, rfl, offs_zero _, by rw [mix_zero]; exact Step.same (Rf.res _ _ _ _) H.out (Fr.refl _ _)⟩
  case round =>
    obtain ⟨k, off, hkq, rfl, rfl, HI⟩ := hrel
    obtain ⟨S1, hA0, hf0, hg1⟩ := HI.out.2
    have hoff := HI.out.1
    clear HI
    obtain ⟨_, _, -, -, -, x0, x1, x2, xf, -⟩ := hA0.reads
    cases gk with
    | zero =>
      obtain rfl : k = a.ds.length := by omega
      rw [mix_all _ _ (crashAll_len _ _)] at hA0
      have x1' : wr.cell? ⟨ga, 1, none⟩ = some (.int .i64 a.left) := x1
      have x2' : wr.cell? ⟨ga, 2, none⟩ = some (.bool a.down) := x2
      have xf1 := xf 1
      have xf2 := xf 2
      have HZ := Lib.hid (Step.on hf0 hg1 (Step.then (A := fun w => Rf ga (.slice A a.ds.length c) gs { a with ds := crashAll a.ds bs, down := false } w) (B := fun w => Rf ga (.slice A a.ds.length c) gs (acrashed a bs) w) (Ar.setDown R.res hA0 false) fun S' hS' => Ar.setLeft R.res hS' (-1)))
      clear hA0 hf0 hg1 xf x1 x2
      go_wp2_with fail
      go_ret
      exact ⟨rfl, HZ.out⟩
    | succ q =>
      have hm : k < a.ds.length := by omega
      have hmi : (k : Int) < (a.ds.length : Int) := by omega
      have hA := (Rf.res _ _ _ _).frame hA0 ((Fr.refl fresh wr).drew) (fun _ _ h => h)
      have hf := hf0.drew
      obtain ⟨g, hg⟩ : ∃ g, gs[k]? = some g := ⟨_, List.getElem?_eq_getElem (by omega)⟩
      obtain ⟨m, hmk⟩ : ∃ m, a.ds[k]? = some m := ⟨_, List.getElem?_eq_getElem hm⟩
      obtain ⟨ad, rfl, hc⟩ := hA0.elem hg
      have hmix : (mix a.ds (crashAll a.ds bs) k)[k]? = some m := by rw [mix_get _ _ (crashAll_len _ _) k hm]; exact hmk
      obtain ⟨U, hU, hUS⟩ := Ar.get (a := { a with ds := mix a.ds (crashAll a.ds bs) k }) hmix hg hA0
      obtain ⟨wA, wc, y2, hwm⟩ : ∃ wA wc, wr.cell? ⟨g, 2, none⟩ = some (.slice wA m.wait.length wc) ∧ m.wait.length ≤ 9223372036854775807 := by
        obtain ⟨s, wv, hR, rfl⟩ := hU
        obtain ⟨_, -, -, -, y2, -⟩ := hR.reads
        obtain ⟨wA, wc, rfl, hm, -⟩ := hR.waits
        exact ⟨wA, wc, y2, hm⟩
      have hnew := crashAll_get a.ds bs k m hmk
      rw [crashed_take, hoff] at hnew
      have hoff1 : off + m.wait.length = offs a.ds (k + 1) := by rw [offs_succ a.ds k m hmk, hoff]
      have hb1 := offs_le a.ds 1000000 hsum (k + 1) (by omega)
      have hb2 : off + m.wait.length ≤ 255000000 := by omega
      clear hA0 hf0 hU hUS xf x1 x2 hb1
      by_cases hol : (off : Int) ≤ (bs.length : Int)
      · have hnl : ¬ bs.length < off := by omega
        by_cases hk0 : kc = off
        · skip
          have hk1 : off = kc := hk0.symm
          subst hk1
          have hdrop : bs.drop off = [] := List.drop_of_length_le hcap
          rw [hdrop] at hnew
          have hop := Ar.opIn R.res (a := { a with ds := mix a.ds (crashAll a.ds bs) k }) (m' := crashed m ([] : List Bool)) hmix hg S1 (fun U' hV hD => rcrash_at (K) (0) ([] : List Bool) U' (by intro j b hj; simp at hj) hD) hA
          simp only [mix_set a.ds (crashAll a.ds bs) (crashAll_len _ _) k _ hnew] at hop
          rw [show (([] : List Bool)).length = 0 by simp; try omega] at hop
          have K3 := Lib.hid hop
          have HF := Lib.hid (And.intro hf hg1)
          clear hop hA hf hg1 hnew hmix
          go_wp2_with fail
          go_still_tail 13, (by kernel_rfl)
          change wpList _ _ _ _ _ wr.drew
          go_wp2_with fail
          refine K3.out.mono ?_
          rintro e w2 ⟨rfl, hs⟩
          have HS := Lib.hid (Step.on HF.out.1 HF.out.2 hs)
          clear hs
          go_wp2_with fail
          go_roundg q
          case measure => omega
          case rel => exact ⟨k + 1, off + m.wait.length, by omega, by go_num, by go_num, hoff1.symm, HS.out⟩
        · skip
          have hop := Ar.opIn R.res (a := { a with ds := mix a.ds (crashAll a.ds bs) k }) (m' := crashed m (bs.drop off)) hmix hg S1 (fun U' hV hD => rcrash_at (K.map (fun x => x.add off)) (kc - off) (bs.drop off) U' ((HR.out.later0 hf hg1 hV).shift off) hD) hA
          simp only [mix_set a.ds (crashAll a.ds bs) (crashAll_len _ _) k _ hnew] at hop
          rw [show ((bs.drop off)).length = bs.length - off by simp; try omega] at hop
          have K3 := Lib.hid hop
          have HF := Lib.hid (And.intro hf hg1)
          clear hop hA hf hg1 hnew hmix
          go_wp2_with fail
          go_still_tail 13, (by kernel_rfl)
          change wpList _ _ _ _ _ wr.drew
          go_wp2_with fail
          refine K3.out.mono ?_
          rintro e w2 ⟨rfl, hs⟩
          have HS := Lib.hid (Step.on HF.out.1 HF.out.2 hs)
          clear hs
          go_wp2_with fail
          go_roundg q
          case measure => omega
          case rel => exact ⟨k + 1, off + m.wait.length, by omega, by go_num, by go_num, hoff1.symm, HS.out⟩
      · have hdrop : bs.drop off = [] := List.drop_of_length_le (by omega)
        rw [hdrop] at hnew
        by_cases hk0 : kc = bs.length
        · skip
          subst hk0
          have hop := Ar.opIn R.res (a := { a with ds := mix a.ds (crashAll a.ds bs) k }) (m' := crashed m ([] : List Bool)) hmix hg S1 (fun U' hV hD => rcrash_at (K) (0) ([] : List Bool) U' (by intro j b hj; simp at hj) hD) hA
          simp only [mix_set a.ds (crashAll a.ds bs) (crashAll_len _ _) k _ hnew] at hop
          rw [show (([] : List Bool)).length = 0 by simp; try omega] at hop
          have K3 := Lib.hid hop
          have HF := Lib.hid (And.intro hf hg1)
          clear hop hA hf hg1 hnew hmix
          go_wp2_with fail
          go_still_tail 13, (by kernel_rfl)
          change wpList _ _ _ _ _ wr.drew
          go_wp2_with fail
          refine K3.out.mono ?_
          rintro e w2 ⟨rfl, hs⟩
          have HS := Lib.hid (Step.on HF.out.1 HF.out.2 hs)
          clear hs
          go_wp2_with fail
          go_roundg q
          case measure => omega
          case rel => exact ⟨k + 1, off + m.wait.length, by omega, by go_num, by go_num, hoff1.symm, HS.out⟩
        · skip
          have hop := Ar.opIn R.res (a := { a with ds := mix a.ds (crashAll a.ds bs) k }) (m' := crashed m ([] : List Bool)) hmix hg S1 (fun U' hV hD => rcrash_at (K.map (fun x => x.add bs.length)) (kc - bs.length) ([] : List Bool) U' (by intro j b hj; simp at hj) hD) hA
          simp only [mix_set a.ds (crashAll a.ds bs) (crashAll_len _ _) k _ hnew] at hop
          rw [show (([] : List Bool)).length = 0 by simp; try omega] at hop
          have K3 := Lib.hid hop
          have HF := Lib.hid (And.intro hf hg1)
          clear hop hA hf hg1 hnew hmix
          go_wp2_with fail
          go_still_tail 13, (by kernel_rfl)
          change wpList _ _ _ _ _ wr.drew
          go_wp2_with fail
          refine K3.out.mono ?_
          rintro e w2 ⟨rfl, hs⟩
          have HS := Lib.hid (Step.on HF.out.1 HF.out.2 hs)
          clear hs
          go_wp2_with fail
          go_roundg q
          case measure => omega
          case rel => exact ⟨k + 1, off + m.wait.length, by omega, by go_num, by go_num, hoff1.symm, HS.out⟩

end Go.Proofs.Ytpmhjagmgjolmaa.Dk
