/- The walk of Write of layer 10. -/
import Derived.Test.YtpmhjagmgjolmaaAr3
namespace Go.Proofs.Ytpmhjagmgjolmaa.Dk
open Go.RowKit

set_option maxRecDepth 100000 in
theorem awrite_nil (d n : Int) (s : ByteArray) (w : World) : Calls Try.prog 12 #[.pointer none, .int .i64 d, .int .i64 n, .string s] w fun e w' => e = .returned (.int .i64 1) ∧ w = w' := by
  have K := Lib.hid (power_nil w)
  go_enter Try.func12, Try.ntmps12
  go_wp2_with fail
  refine K.out.mono ?_
  rintro e w1 ⟨rfl, rfl⟩
  go_wp2_with fail
  go_ret
  exact ⟨rfl, rfl⟩

def awriteE (a : Arr) (d n : Int) (l : Nat) : Int := if a.down = true then 9 else if noDisk a d then 1 else if checkE (dk a d) n l ≠ 0 then checkE (dk a d) n l else if a.left = 0 then 9 else 0
def awrote (a : Arr) (d n : Int) (s : ByteArray) : Arr := if a.down = true then a else if noDisk a d then a else if checkE (dk a d) n s.size ≠ 0 then a else if a.left = 0 then { a with down := true }
  else { withDk a d (wrote (dk a d) n s) with left := if 0 < a.left then a.left - 1 else a.left }

set_option maxRecDepth 100000 in
theorem Step.on {w w1 w2 : World} {S S1 : Nat → Prop} {B : (Nat → Prop) → Prop} (hf : Fr S w w1) (hg : ∀ k, S1 k → S k ∨ w.heap.size ≤ k) (hs : Step w1 w2 S1 B) : Step w w2 S B := by
  obtain ⟨S2, hB, hf2, hg2⟩ := hs
  refine ⟨S2, hB, hf.then hf2 (fun i hi h => (hg i h).elim id (fun e => by omega)), fun i hi => ?_⟩
  rcases hg2 i hi with e | e
  · exact hg i e
  · have := hf.size; exact .inr (by omega)
set_option maxRecDepth 100000 in
theorem Step.dropR {w w' : World} {S : Nat → Prop} {A B : Thing} (h : Step w w' S (Both A B w')) : Step w w' S (A w') := by
  obtain ⟨U, ⟨S1, S2, hA, hB, hd, rfl⟩, hf, hg⟩ := h
  exact ⟨S1, hA, hf, fun k hk => hg k (.inl hk)⟩

/-- A write on a copy leaves the array. -/
theorem copied_write {ga : Nat} {sv : Value} {gs : List Nat} {a : Arr} {w w1 : World} {g' : Nat} {m : Dsk} (n : Int) (s : ByteArray) (hmany : m.wait.length ≤ 1000000) {S : Nat → Prop} (h : Pa ga sv gs a w S) (hm : Made w w1 (D g' m w1)) :
    Calls Try.prog 30 #[.pointer (some ⟨g', 0, none⟩), .int .i64 n, .string s] w1 fun e w' => e = .returned (.int .i64 (checkE m n s.size)) ∧ Step w w' S (Pa ga sv gs a w') := by
  obtain ⟨S1, hB, hf, hg⟩ := Made.with (Pa.res ga sv gs a) h hm
  exact (op_right (Pa.res ga sv gs a) (write_step n s hmany) S1 hB).mono fun e w' ⟨he, hs⟩ => ⟨he, Step.dropR (Step.on hf hg hs)⟩

set_option maxRecDepth 100000 in
set_option maxHeartbeats 4000000 in
theorem awrite_at {ga : Nat} {sv : Value} {gs : List Nat} {a : Arr} {w : World} (d n : Int) (s : ByteArray) (hmany : (dk a d).wait.length ≤ 1000000) (hleft : a.left ≤ 9223372036854775807) (S : Nat → Prop) (h : Pa ga sv gs a w S) :
    Calls Try.prog 12 #[.pointer (some ⟨ga, 0, none⟩), .int .i64 d, .int .i64 n, .string s] w fun e w' => e = .returned (.int .i64 (awriteE a d n s.size)) ∧ Step w w' S (Pa ga sv gs (awrote a d n s) w') := by
  have hp := power_at h
  have H := Lib.hid h
  unfold awriteE awrote
  unfold powerE at hp
  by_cases hd : a.down = true
  · rw [if_pos hd] at hp
    rw [if_pos hd, if_pos hd]
    have K := Lib.hid hp
    clear hp h
    go_enter Try.func12, Try.ntmps12
    go_wp2_with fail
    refine K.out.mono ?_
    rintro e w1 ⟨rfl, rfl⟩
    go_wp2_with fail
    go_ret
    exact ⟨rfl, Step.same (Pa.res _ _ _ _) H.out (Fr.refl _ _)⟩
  rw [if_neg hd] at hp
  rw [if_neg hd, if_neg hd]
  have K := Lib.hid hp
  clear hp
  by_cases hn : noDisk a d
  · rw [if_pos hn, if_pos hn]
    have K2 := Lib.hid (disk_no h d hn)
    clear h hn
    go_enter Try.func12, Try.ntmps12
    go_wp2_with fail
    refine K.out.mono ?_
    rintro e w1 ⟨rfl, rfl⟩
    go_wp2_with fail
    refine K2.out.mono ?_
    rintro e w1 ⟨rfl, rfl⟩
    go_wp2_with fail
    go_ret
    exact ⟨rfl, Step.same (Pa.res _ _ _ _) H.out (Fr.refl _ _)⟩
  rw [if_neg hn, if_neg hn]
  obtain ⟨h1, h2⟩ := dk_at hn
  obtain ⟨g, hg, hop⟩ := Ar.opAt D.res h hn (rest := [.int .i64 n, .string s]) (fun g U hU => write_step n s hmany U hU)
  have hk := disk_yes h d.toNat g hg
  rw [h2] at hk
  obtain ⟨U, hU, -⟩ := Ar.get h1 hg h
  have K2 := Lib.hid hk
  have K3 := Lib.hid hop
  have K4 := Lib.hid (copy_at hmany hU)
  have K5 := Lib.hid (fun w1 g' (hm : Made w w1 (D g' (dk a d) w1)) => copied_write n s hmany h hm)
  obtain ⟨A, c, -, -, -, -, c1, -, cf, -⟩ := h.reads
  have f1 := cf 1
  have f2 := cf 2
  clear h hk hop cf hU h1 h2 hg hmany
  obtain ⟨z, hz⟩ : ∃ z, checkE (dk a d) n s.size = z := ⟨_, rfl⟩
  rw [hz] at K3 K5 ⊢
  by_cases hl : a.left = 0
  · rw [hl] at c1
    by_cases hz0 : z = 0
    · have hw : (wrote (dk a d) n s).wait.length = (wrote (dk a d) n s).wait.length := rfl
      subst hz0
      rw [if_neg (by simp), if_pos hl, if_neg (by simp), if_pos hl]
      go_enter Try.func12, Try.ntmps12
      go_wp2_with fail
      refine K.out.mono ?_
      rintro e w1 ⟨rfl, rfl⟩
      go_wp2_with fail
      refine K2.out.mono ?_
      rintro e w1 ⟨rfl, rfl⟩
      go_wp2_with fail
      refine K4.out.mono ?_
      rintro e w1 ⟨g', rfl, hm⟩
      have K6 := Lib.hid (K5.out _ _ hm)
      clear hm
      go_wp2_with fail
      refine K6.out.mono ?_
      rintro e w2 ⟨rfl, S2, hA, hf, hg'⟩
      obtain ⟨A2, c2, -, -, -, -, -, x2, xf, -⟩ := hA.reads
      have xf2 := xf 2
      have HS := Lib.hid (Step.on hf hg' (Ar.setDown D.res hA true))
      clear xf hA hf hg'
      go_wp2_with fail
      go_ret
      exact ⟨rfl, HS.out⟩
    · rw [if_pos hz0, if_pos hz0]
      go_enter Try.func12, Try.ntmps12
      go_wp2_with fail
      refine K.out.mono ?_
      rintro e w1 ⟨rfl, rfl⟩
      go_wp2_with fail
      refine K2.out.mono ?_
      rintro e w1 ⟨rfl, rfl⟩
      go_wp2_with fail
      refine K4.out.mono ?_
      rintro e w1 ⟨g', rfl, hm⟩
      have K6 := Lib.hid (K5.out _ _ hm)
      clear hm
      go_wp2_with fail
      refine K6.out.mono ?_
      rintro e w2 ⟨rfl, hs⟩
      have HS := Lib.hid hs
      clear hs
      go_wp2_with fail
      go_ret
      exact ⟨rfl, HS.out⟩
  · have hl' : (a.left == 0) = false := by simp [hl]
    by_cases hz0 : z = 0
    · subst hz0
      rw [if_neg (by simp), if_neg hl, if_neg (by simp), if_neg hl]
      by_cases hpos : 0 < a.left
      · rw [if_pos hpos]
        go_enter Try.func12, Try.ntmps12
        go_wp2_with fail
        refine K.out.mono ?_
        rintro e w1 ⟨rfl, rfl⟩
        go_wp2_with fail
        refine K2.out.mono ?_
        rintro e w1 ⟨rfl, rfl⟩
        go_wp2_with fail
        refine K3.out.mono ?_
        rintro e w2 ⟨rfl, S2, hA, hf, hg'⟩
        obtain ⟨A2, c2, -, -, -, -, x1, -, xf, -⟩ := hA.reads
        have x1' : w2.cell? ⟨ga, 1, none⟩ = some (.int .i64 a.left) := x1
        have xf1 := xf 1
        have HS := Lib.hid (Step.on hf hg' (Ar.setLeft D.res hA (a.left - 1)))
        clear xf hA hf hg' x1
        go_wp2_with fail
        go_ret
        exact ⟨rfl, HS.out⟩
      · rw [if_neg hpos]
        go_enter Try.func12, Try.ntmps12
        go_wp2_with fail
        refine K.out.mono ?_
        rintro e w1 ⟨rfl, rfl⟩
        go_wp2_with fail
        refine K2.out.mono ?_
        rintro e w1 ⟨rfl, rfl⟩
        go_wp2_with fail
        refine K3.out.mono ?_
        rintro e w2 ⟨rfl, S2, hA, hf, hg'⟩
        obtain ⟨A2, c2, -, -, -, -, x1, -, xf, -⟩ := hA.reads
        have x1' : w2.cell? ⟨ga, 1, none⟩ = some (.int .i64 a.left) := x1
        have HS := Lib.hid (show Step w w2 S (Pa ga sv gs (withDk a d (wrote (dk a d) n s)) w2) from ⟨S2, hA, hf, hg'⟩)
        clear xf hA hf hg' x1
        go_wp2_with fail
        go_ret
        exact ⟨rfl, HS.out⟩
    · rw [if_pos hz0, if_pos hz0]
      have hw : wrote (dk a d) n s = dk a d := by
        unfold wrote
        rw [hz, if_neg hz0]
      go_enter Try.func12, Try.ntmps12
      go_wp2_with fail
      refine K.out.mono ?_
      rintro e w1 ⟨rfl, rfl⟩
      go_wp2_with fail
      refine K2.out.mono ?_
      rintro e w1 ⟨rfl, rfl⟩
      go_wp2_with fail
      refine K3.out.mono ?_
      rintro e w2 ⟨rfl, hs⟩
      rw [hw, withDk_same hn] at hs
      have HS := Lib.hid hs
      clear hs
      go_wp2_with fail
      go_ret
      exact ⟨rfl, HS.out⟩

end Go.Proofs.Ytpmhjagmgjolmaa.Dk
