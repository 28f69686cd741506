/- The document's array (layer 10): has, check, Fuse, Read. -/
import Derived.Test.YtpmhjagmgjolmaaArSm
namespace Go.Proofs.Ytpmhjagmgjolmaa.Dk
open Go.RowKit

/-- The document's array. -/
abbrev Rf (ga : Nat) (sv : Value) (gs : List Nat) (a : Arr) : Thing := Ar R 46 52 ga sv gs a
set_option maxRecDepth 100000 in
theorem Rf.res (ga : Nat) (sv : Value) (gs : List Nat) (a : Arr) : Res (Rf ga sv gs a) := Ar.res R.res

def hasE (a : Arr) (d : Int) : Int := if noDisk a d then 1 else 0
set_option maxRecDepth 100000 in
theorem rhas_at {w : World} {ga : Nat} {sv : Value} {gs : List Nat} {a : Arr} {S : Nat → Prop} (h : Rf ga sv gs a w S) (d : Int) :
    Calls Try.prog 60 #[.pointer (some ⟨ga, 0, none⟩), .int .i64 d] w fun e w' => e = .returned (.int .i64 (hasE a d)) ∧ w = w' := by
  obtain ⟨A, c, rfl, hm, hl, c0, c1, c2, cf, cs⟩ := h.reads
  clear cs cf c1 c2 h hl
  unfold hasE
  by_cases hn : noDisk a d
  · rw [if_pos hn]
    by_cases h1 : d < 0
    · clear hn
      go_enter Try.func60, Try.ntmps60
      go_wp2
      go_ret
      exact ⟨rfl, rfl⟩
    · have h2 : ¬ d < (a.ds.length : Int) := by omega
      clear hn
      go_enter Try.func60, Try.ntmps60
      go_wp2
      go_ret
      exact ⟨rfl, rfl⟩
  · rw [if_neg hn]
    have h1 : ¬ d < 0 := by omega
    have h2 : d < (a.ds.length : Int) := by omega
    clear hn
    go_enter Try.func60, Try.ntmps60
    go_wp2
    go_ret
    exact ⟨rfl, rfl⟩

def rcheckE (a : Arr) (d : Int) : Int := if a.down = true then 9 else hasE a d
set_option maxRecDepth 100000 in
theorem racheck_at {w : World} {ga : Nat} {sv : Value} {gs : List Nat} {a : Arr} {S : Nat → Prop} (h : Rf ga sv gs a w S) (d : Int) :
    Calls Try.prog 46 #[.pointer (some ⟨ga, 0, none⟩), .int .i64 d] w fun e w' => e = .returned (.int .i64 (rcheckE a d)) ∧ w = w' := by
  have K := Lib.hid (rhas_at h d)
  obtain ⟨A, c, rfl, hm, hl, c0, c1, c2, cf, cs⟩ := h.reads
  clear cs cf c1 c0 h hl
  unfold rcheckE
  by_cases hd : a.down = true
  · rw [hd] at c2 ⊢
    go_enter Try.func46, Try.ntmps46
    go_wp2_with fail
    go_ret
    exact ⟨rfl, rfl⟩
  · simp only [Bool.not_eq_true] at hd
    rw [hd] at c2 ⊢
    go_enter Try.func46, Try.ntmps46
    go_wp2_with fail
    refine K.out.mono ?_
    rintro e w1 ⟨rfl, rfl⟩
    go_wp2_with fail
    go_ret
    exact ⟨rfl, rfl⟩

set_option maxRecDepth 100000 in
theorem rfuse_at {ga : Nat} {sv : Value} {gs : List Nat} {a : Arr} {w : World} (n : Int) (S : Nat → Prop) (h : Rf ga sv gs a w S) :
    Calls Try.prog 45 #[.pointer (some ⟨ga, 0, none⟩), .int .i64 n] w fun e w' => e = .returned (.int .i64 (if n < 0 then 1 else 0)) ∧ Step w w' S (Rf ga sv gs (fused a n) w') := by
  obtain ⟨A, c, rfl, hm, hl, c0, c1, c2, cf, cs⟩ := h.reads
  have f1 := cf 1
  have H := Lib.hid h
  clear cs cf c0 c2 h hl
  unfold fused
  by_cases hn : n < 0
  · rw [if_pos hn, if_pos hn]
    go_enter Try.func45, Try.ntmps45
    go_wp2
    go_ret
    exact ⟨rfl, Step.same (Rf.res _ _ _ _) H.out (Fr.refl _ _)⟩
  · rw [if_neg hn, if_neg hn]
    go_enter Try.func45, Try.ntmps45
    go_wp2
    go_ret
    exact ⟨rfl, H.out.setLeft R.res n⟩

/-- What the walks read where there is a disk. -/
theorem Ar.there {X : Nat → Dsk → Thing} {T P : TypeId} {ga : Nat} {A : Option Addr} {l c : Nat} {gs : List Nat} {a : Arr} {w : World} {S : Nat → Prop} (h : Ar X T P ga (.slice A l c) gs a w S) {d g : Nat} (hg : gs[d]? = some g) : ∃ ad, A = some ad ∧ w.cell? (ad.add d) = some (.pointer (some ⟨g, 0, none⟩)) ∧ d < a.ds.length ∧ (d : Int) < (a.ds.length : Int) := by
  obtain ⟨ad, e, hc⟩ := h.elem hg
  have := (List.getElem?_eq_some_iff.1 hg).1
  rw [h.1] at this
  exact ⟨ad, e, hc, this, by omega⟩

set_option maxRecDepth 100000 in
set_option maxHeartbeats 2000000 in
theorem raread_at {ga : Nat} {sv : Value} {gs : List Nat} {a : Arr} {w : World} (d n : Int) (S : Nat → Prop) (h : Rf ga sv gs a w S) :
    Calls Try.prog 24 #[.pointer (some ⟨ga, 0, none⟩), .int .i64 d, .int .i64 n] w fun e w' => e = .returned (.tuple #[.string (areadV a d n), .int .i64 (areadE a d n)]) ∧ Step w w' S (Rf ga sv gs a w') := by
  have hp := racheck_at h d
  have H := Lib.hid h
  unfold areadV areadE
  unfold rcheckE hasE at hp
  by_cases hd : a.down = true
  · rw [if_pos hd] at hp
    rw [if_pos hd, if_pos hd]
    have K := Lib.hid hp
    clear hp h
    go_enter Try.func24, Try.ntmps24
    go_wp2_with fail
    refine K.out.mono ?_
    rintro e w1 ⟨rfl, rfl⟩
    go_wp2_with fail
    go_ret2
    exact ⟨rfl, Step.same (Rf.res _ _ _ _) H.out (Fr.refl _ _)⟩
  rw [if_neg hd] at hp
  rw [if_neg hd, if_neg hd]
  by_cases hn : noDisk a d
  · rw [if_pos hn] at hp
    rw [if_pos hn, if_pos hn]
    have K := Lib.hid hp
    clear hp h hn
    go_enter Try.func24, Try.ntmps24
    go_wp2_with fail
    refine K.out.mono ?_
    rintro e w1 ⟨rfl, rfl⟩
    go_wp2_with fail
    go_ret2
    exact ⟨rfl, Step.same (Rf.res _ _ _ _) H.out (Fr.refl _ _)⟩
  rw [if_neg hn] at hp
  rw [if_neg hn, if_neg hn]
  have K := Lib.hid hp
  obtain ⟨g, hg, hop⟩ := Ar.opAt R.res h hn (rest := [.int .i64 n]) (fun g U hU => rread_at n U hU)
  rw [withDk_same hn] at hop
  have K3 := Lib.hid hop
  have hdn := (dk_at hn).2
  obtain ⟨A, c, rfl, hm, hl, c0, -, -, -, -⟩ := h.reads
  obtain ⟨ad, rfl, hc, hlt, hlti⟩ := h.there hg
  obtain ⟨q, hq⟩ : ∃ q, d.toNat = q := ⟨_, rfl⟩
  rw [hq] at hc hlt hlti hdn
  subst hdn
  clear h hn hop hp hg hq
  go_enter Try.func24, Try.ntmps24
  go_wp2_with fail
  refine K.out.mono ?_
  rintro e w1 ⟨rfl, rfl⟩
  go_wp2_with fail
  refine K3.out.mono ?_
  rintro e w1 ⟨rfl, hs⟩
  have HS := Lib.hid hs
  clear hs
  go_wp2_with fail
  go_ret2
  exact ⟨rfl, HS.out⟩

end Go.Proofs.Ytpmhjagmgjolmaa.Dk
