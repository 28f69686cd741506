/- The walk of Flush of layer 10. -/
import Derived.Test.YtpmhjagmgjolmaaAr4
namespace Go.Proofs.Ytpmhjagmgjolmaa.Dk
open Go.RowKit

/-- The first k turned. -/
def mix (old new : List Dsk) (k : Nat) : List Dsk := new.take k ++ old.drop k
set_option maxRecDepth 100000 in
theorem mix_zero (old new : List Dsk) : mix old new 0 = old := by simp [mix]
theorem mix_all (old new : List Dsk) (h : new.length = old.length) : mix old new old.length = new := by
  unfold mix
  rw [List.take_of_length_le (by omega), List.drop_of_length_le (Nat.le_refl _), List.append_nil]
set_option maxRecDepth 100000 in
theorem mix_len (old new : List Dsk) (h : new.length = old.length) (k : Nat) : (mix old new k).length = old.length := by
  unfold mix
  simp
  omega
set_option maxRecDepth 100000 in
theorem mix_get (old new : List Dsk) (h : new.length = old.length) (k : Nat) (hk : k < old.length) : (mix old new k)[k]? = old[k]? := by
  unfold mix
  rw [List.getElem?_append_right (by simp; omega)]
  simp
  congr 1
  omega
set_option maxRecDepth 100000 in
theorem mix_set (old new : List Dsk) (h : new.length = old.length) (k : Nat) (m' : Dsk) (hk : new[k]? = some m') : (mix old new k).set k m' = mix old new (k + 1) := by
  have hl := (List.getElem?_eq_some_iff.1 hk).1
  apply List.ext_getElem?
  intro j
  by_cases e : k = j
  · subst e
    rw [List.getElem?_set_self (by rw [mix_len _ _ h]; omega)]
    unfold mix
    rw [List.getElem?_append_left (by simp; omega), List.getElem?_take, if_pos (by omega), hk]
  · rw [List.getElem?_set_ne e]
    unfold mix
    by_cases hj : j < k
    · rw [List.getElem?_append_left (by simp; omega), List.getElem?_append_left (by simp; omega), List.getElem?_take, List.getElem?_take, if_pos hj, if_pos (by omega)]
    · rw [List.getElem?_append_right (by simp; omega), List.getElem?_append_right (by simp; omega)]
      simp
      congr 1
      omega

set_option maxRecDepth 100000 in
theorem Ar.elem {X : Nat → Dsk → Thing} {T P : TypeId} {ga : Nat} {A : Option Addr} {l c : Nat} {gs : List Nat} {a : Arr} {w : World} {S : Nat → Prop} (h : Ar X T P ga (.slice A l c) gs a w S) {j g : Nat} (hg : gs[j]? = some g) : ∃ ad, A = some ad ∧ w.cell? (ad.add j) = some (.pointer (some ⟨g, 0, none⟩)) := by
  obtain ⟨A', c', e, -, -, -, -, -, -, cs⟩ := h.reads
  obtain ⟨ad, e2, hc⟩ := cs j g hg
  simp at e
  exact ⟨ad, by rw [e.1, e2], hc⟩

def aflushed (a : Arr) : Arr := if a.down = true then a else { a with ds := a.ds.map flushed }

set_option maxRecDepth 100000 in
theorem aflush_nil (w : World) : Calls Try.prog 25 #[.pointer none] w fun e w' => e = .returned (.int .i64 1) ∧ w = w' := by
  have K := Lib.hid (power_nil w)
  go_enter Try.func25, Try.ntmps25
  go_wp2_with fail
  refine K.out.mono ?_
  rintro e w1 ⟨rfl, rfl⟩
  go_wp2_with fail
  go_ret
  exact ⟨rfl, rfl⟩

set_option maxRecDepth 100000 in
set_option maxHeartbeats 4000000 in
theorem aflush_at {ga : Nat} {sv : Value} {gs : List Nat} {a : Arr} {w : World} (hmany : ∀ m ∈ a.ds, m.wait.length ≤ 1000000) (S : Nat → Prop) (h : Pa ga sv gs a w S) :
    Calls Try.prog 25 #[.pointer (some ⟨ga, 0, none⟩)] w fun e w' => e = .returned (.int .i64 (powerE a)) ∧ Step w w' S (Pa ga sv gs (aflushed a) w') := by
  have hp := power_at h
  unfold aflushed powerE
  unfold powerE at hp
  have H := Lib.hid h
  by_cases hd : a.down = true
  · rw [if_pos hd] at hp
    rw [if_pos hd, if_pos hd]
    have K := Lib.hid hp
    clear hp h
    go_enter Try.func25, Try.ntmps25
    go_wp2_with fail
    refine K.out.mono ?_
    rintro e w1 ⟨rfl, rfl⟩
    go_wp2_with fail
    go_ret
    exact ⟨rfl, Step.same (Pa.res _ _ _ _) H.out (Fr.refl _ _)⟩
  rw [if_neg hd] at hp
  rw [if_neg hd, if_neg hd]
  have K := Lib.hid hp
  clear hp
  obtain ⟨A, c, rfl, hlm, hl, c0, -, -, -, -⟩ := h.reads
  clear h
  go_enter Try.func25, Try.ntmps25
  go_wp2_with fail
  refine K.out.mono ?_
  rintro e w1 ⟨rfl, rfl⟩
  go_wp2_with fail
  go_loopg [16] a.ds.length (fun q v16 wx => ∃ k : Nat, k + q = a.ds.length ∧ v16 = .int .i64 (k : Int) ∧ Aside (Step w wx S (Pa ga (.slice A a.ds.length c) gs { a with ds := mix a.ds (a.ds.map flushed) k } wx)))
  case atStart => exact ⟨0, by omega, rfl, by rw [mix_zero]; exact Step.same (Pa.res _ _ _ _) H.out (Fr.refl _ _)⟩
  case round =>
    obtain ⟨k, hkq, rfl, HI⟩ := hrel
    cases gk with
    | zero =>
      obtain rfl : k = a.ds.length := by omega
      rw [mix_all _ _ (by simp)] at HI
      go_wp2_with fail
      go_ret
      exact ⟨rfl, HI.out⟩
    | succ q =>
      have hm : k < a.ds.length := by omega
      have hmi : (k : Int) < (a.ds.length : Int) := by omega
      obtain ⟨S1, hA, hf, hg1⟩ := HI.out
      obtain ⟨g, hg⟩ : ∃ g, gs[k]? = some g := ⟨_, List.getElem?_eq_getElem (by omega)⟩
      obtain ⟨m, hmk⟩ : ∃ m, a.ds[k]? = some m := ⟨_, List.getElem?_eq_getElem hm⟩
      obtain ⟨ad, rfl, hc⟩ := hA.elem hg
      have hop := Ar.op D.res (a := { a with ds := mix a.ds (a.ds.map flushed) k }) (i := k) (m := m) (m' := flushed m) (by rw [mix_get _ _ (by simp) k hm]; exact hmk) hg (flush_at (hmany m (List.mem_of_getElem? hmk))) S1 hA
      simp only [mix_set a.ds (a.ds.map flushed) (by simp) k (flushed m) (by simp [hmk])] at hop
      have K3 := Lib.hid hop
      have HF := Lib.hid (And.intro hf hg1)
      clear hop hA hf hg1 HI
      go_wp2_with fail
      refine K3.out.mono ?_
      rintro e w2 ⟨rfl, hs⟩
      have HS := Lib.hid (Step.on HF.out.1 HF.out.2 hs)
      clear hs
      go_wp2_with fail
      go_roundg q
      case measure => omega
      case rel => exact ⟨k + 1, by omega, by go_num, HS.out⟩

end Go.Proofs.Ytpmhjagmgjolmaa.Dk
