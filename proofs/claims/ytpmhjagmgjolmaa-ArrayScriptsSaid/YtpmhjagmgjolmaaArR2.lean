/- The document's array (layer 10): Do, Write. -/
import Derived.Test.YtpmhjagmgjolmaaArR1
namespace Go.Proofs.Ytpmhjagmgjolmaa.Dk
open Go.RowKit

set_option maxRecDepth 100000 in
theorem rdo_no {ga : Nat} {sv : Value} {gs : List Nat} {a : Arr} {w : World} (q d n : Int) (s : ByteArray) (hn : noDisk a d) (S : Nat → Prop) (h : Rf ga sv gs a w S) :
    Calls Try.prog 44 #[.pointer (some ⟨ga, 0, none⟩), .int .i64 q, .int .i64 d, .int .i64 n, .string s] w fun e w' => e = .returned (.int .i64 1) ∧ Step w w' S (Rf ga sv gs a w') := by
  have hp := rhas_at h d
  have H := Lib.hid h
  unfold hasE at hp
  rw [if_pos hn] at hp
  have K := Lib.hid hp
  clear hp h hn
  go_enter Try.func44, Try.ntmps44
  go_wp2_with fail
  refine K.out.mono ?_
  rintro e w1 ⟨rfl, rfl⟩
  go_wp2_with fail
  go_ret
  exact ⟨rfl, Step.same (Rf.res _ _ _ _) H.out (Fr.refl _ _)⟩

set_option maxRecDepth 100000 in
theorem rdo_fail {ga : Nat} {sv : Value} {gs : List Nat} {a : Arr} {w : World} (d : Int) (n : Int) (s : ByteArray) (hn : ¬ noDisk a d) (S : Nat → Prop) (h : Rf ga sv gs a w S) :
    Calls Try.prog 44 #[.pointer (some ⟨ga, 0, none⟩), .int .i64 0, .int .i64 d, .int .i64 n, .string s] w fun e w' => e = .returned (.int .i64 (0)) ∧ Step w w' S (Rf ga sv gs (withDk a d { dk a d with gone := true, wait := [] }) w') := by
  have hp := rhas_at h d
  unfold hasE at hp
  rw [if_neg hn] at hp
  have K := Lib.hid hp
  obtain ⟨g, hg, hop⟩ := Ar.opAt R.res h hn (rest := []) (fun g U hU => rfail_at U hU)
  have K3 := Lib.hid hop
  have hdn := (dk_at hn).2
  obtain ⟨A, c, rfl, hm, hl, c0, -, -, -, -⟩ := h.reads
  obtain ⟨ad, rfl, hc, hlt, hlti⟩ := h.there hg
  obtain ⟨j, hj⟩ : ∃ j, d.toNat = j := ⟨_, rfl⟩
  rw [hj] at hc hlt hlti hdn
  subst hdn
  clear h hn hop hp hg hj
  go_enter Try.func44, Try.ntmps44
  go_wp2_with fail
  refine K.out.mono ?_
  rintro e w1 ⟨rfl, rfl⟩
  go_wp2_with fail
  refine K3.out.mono ?_
  rintro e w1 ⟨rfl, hs⟩
  have HS := Lib.hid hs
  clear hs
  go_wp2_with fail
  go_ret
  exact ⟨rfl, HS.out⟩

set_option maxRecDepth 100000 in
theorem rdo_replace {ga : Nat} {sv : Value} {gs : List Nat} {a : Arr} {w : World} (d : Int) (n : Int) (s : ByteArray) (hn : ¬ noDisk a d) (S : Nat → Prop) (h : Rf ga sv gs a w S) :
    Calls Try.prog 44 #[.pointer (some ⟨ga, 0, none⟩), .int .i64 1, .int .i64 d, .int .i64 n, .string s] w fun e w' => e = .returned (.int .i64 (0)) ∧ Step w w' S (Rf ga sv gs (withDk a d { dk a d with gone := false, wait := [], sec := List.replicate (dk a d).sec.length ByteArray.empty }) w') := by
  have hp := rhas_at h d
  unfold hasE at hp
  rw [if_neg hn] at hp
  have K := Lib.hid hp
  obtain ⟨g, hg, hop⟩ := Ar.opAt R.res h hn (rest := []) (fun g U hU => rreplace_at U hU)
  have K3 := Lib.hid hop
  have hdn := (dk_at hn).2
  obtain ⟨A, c, rfl, hm, hl, c0, -, -, -, -⟩ := h.reads
  obtain ⟨ad, rfl, hc, hlt, hlti⟩ := h.there hg
  obtain ⟨j, hj⟩ : ∃ j, d.toNat = j := ⟨_, rfl⟩
  rw [hj] at hc hlt hlti hdn
  subst hdn
  clear h hn hop hp hg hj
  go_enter Try.func44, Try.ntmps44
  go_wp2_with fail
  refine K.out.mono ?_
  rintro e w1 ⟨rfl, rfl⟩
  go_wp2_with fail
  refine K3.out.mono ?_
  rintro e w1 ⟨rfl, hs⟩
  have HS := Lib.hid hs
  clear hs
  go_wp2_with fail
  go_ret
  exact ⟨rfl, HS.out⟩

set_option maxRecDepth 100000 in
theorem rdo_corrupt {ga : Nat} {sv : Value} {gs : List Nat} {a : Arr} {w : World} (d : Int) (n : Int) (s : ByteArray) (hmany : (dk a d).wait.length ≤ 1000000) (hn : ¬ noDisk a d) (S : Nat → Prop) (h : Rf ga sv gs a w S) :
    Calls Try.prog 44 #[.pointer (some ⟨ga, 0, none⟩), .int .i64 2, .int .i64 d, .int .i64 n, .string s] w fun e w' => e = .returned (.int .i64 (checkE (dk a d) n s.size)) ∧ Step w w' S (Rf ga sv gs (withDk a d (corrupted (dk a d) n s)) w') := by
  have hp := rhas_at h d
  unfold hasE at hp
  rw [if_neg hn] at hp
  have K := Lib.hid hp
  obtain ⟨g, hg, hop⟩ := Ar.opAt R.res h hn (rest := [.int .i64 n, .string s]) (fun g U hU => rcorrupt_at n s hmany U hU)
  have K3 := Lib.hid hop
  have hdn := (dk_at hn).2
  obtain ⟨A, c, rfl, hm, hl, c0, -, -, -, -⟩ := h.reads
  obtain ⟨ad, rfl, hc, hlt, hlti⟩ := h.there hg
  obtain ⟨j, hj⟩ : ∃ j, d.toNat = j := ⟨_, rfl⟩
  rw [hj] at hc hlt hlti hdn
  subst hdn
  clear h hn hop hp hg hj
  go_enter Try.func44, Try.ntmps44
  go_wp2_with fail
  refine K.out.mono ?_
  rintro e w1 ⟨rfl, rfl⟩
  go_wp2_with fail
  refine K3.out.mono ?_
  rintro e w1 ⟨rfl, hs⟩
  have HS := Lib.hid hs
  clear hs
  go_wp2_with fail
  go_ret
  exact ⟨rfl, HS.out⟩

set_option maxRecDepth 100000 in
theorem rdo0 {ga : Nat} {sv : Value} {gs : List Nat} {a : Arr} {w : World} (d n : Int) (s : ByteArray) (S : Nat → Prop) (h : Rf ga sv gs a w S) :
    Calls Try.prog 44 #[.pointer (some ⟨ga, 0, none⟩), .int .i64 0, .int .i64 d, .int .i64 n, .string s] w fun e w' => e = .returned (.int .i64 (if noDisk a d then 1 else 0)) ∧ Step w w' S (Rf ga sv gs (afaild a d) w') := by
  unfold afaild
  by_cases hn : noDisk a d
  · rw [if_pos hn, if_pos hn]
    exact rdo_no 0 d n s hn S h
  · rw [if_neg hn, if_neg hn]
    exact rdo_fail d n s hn S h
set_option maxRecDepth 100000 in
theorem rdo1 {ga : Nat} {sv : Value} {gs : List Nat} {a : Arr} {w : World} (d n : Int) (s : ByteArray) (S : Nat → Prop) (h : Rf ga sv gs a w S) :
    Calls Try.prog 44 #[.pointer (some ⟨ga, 0, none⟩), .int .i64 1, .int .i64 d, .int .i64 n, .string s] w fun e w' => e = .returned (.int .i64 (if noDisk a d then 1 else 0)) ∧ Step w w' S (Rf ga sv gs (areplaced a d) w') := by
  unfold areplaced
  by_cases hn : noDisk a d
  · rw [if_pos hn, if_pos hn]
    exact rdo_no 1 d n s hn S h
  · rw [if_neg hn, if_neg hn]
    exact rdo_replace d n s hn S h
set_option maxRecDepth 100000 in
theorem rdo2 {ga : Nat} {sv : Value} {gs : List Nat} {a : Arr} {w : World} (d n : Int) (s : ByteArray) (hmany : (dk a d).wait.length ≤ 1000000) (S : Nat → Prop) (h : Rf ga sv gs a w S) :
    Calls Try.prog 44 #[.pointer (some ⟨ga, 0, none⟩), .int .i64 2, .int .i64 d, .int .i64 n, .string s] w fun e w' => e = .returned (.int .i64 (acorruptE a d n s.size)) ∧ Step w w' S (Rf ga sv gs (acorrupted a d n s) w') := by
  unfold acorrupted acorruptE
  by_cases hn : noDisk a d
  · rw [if_pos hn, if_pos hn]
    exact rdo_no 2 d n s hn S h
  · rw [if_neg hn, if_neg hn]
    exact rdo_corrupt d n s hmany hn S h

end Go.Proofs.Ytpmhjagmgjolmaa.Dk
