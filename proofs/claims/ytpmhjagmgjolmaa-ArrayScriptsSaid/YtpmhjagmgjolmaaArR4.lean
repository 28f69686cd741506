/- The document's array (layer 10): Write. -/
import Derived.Test.YtpmhjagmgjolmaaArR3
namespace Go.Proofs.Ytpmhjagmgjolmaa.Dk
open Go.RowKit

set_option maxRecDepth 100000 in
set_option maxHeartbeats 4000000 in
theorem rawrite_at {ga : Nat} {sv : Value} {gs : List Nat} {a : Arr} {w : World} (d n : Int) (s : ByteArray) (hmany : (dk a d).wait.length ≤ 1000000) (hleft : a.left ≤ 9223372036854775807) (S : Nat → Prop) (h : Rf ga sv gs a w S) :
    Calls Try.prog 41 #[.pointer (some ⟨ga, 0, none⟩), .int .i64 d, .int .i64 n, .string s] w fun e w' => e = .returned (.int .i64 (awriteE a d n s.size)) ∧ Step w w' S (Rf ga sv gs (awrote a d n s) w') := by
  have hp := racheck_at h d
  have H := Lib.hid h
  unfold awriteE awrote
  unfold rcheckE hasE at hp
  by_cases hd : a.down = true
  · rw [if_pos hd] at hp
    rw [if_pos hd, if_pos hd]
    have K := Lib.hid hp
    clear hp h
    go_enter Try.func41, Try.ntmps41
    go_wp2_with fail
    refine K.out.mono ?_
    rintro e w1 ⟨rfl, rfl⟩
    go_wp2_with fail
    go_ret
    exact ⟨rfl, Step.same (Rf.res _ _ _ _) H.out (Fr.refl _ _)⟩
  rw [if_neg hd] at hp
  rw [if_neg hd, if_neg hd]
  by_cases hn : noDisk a d
  · rw [if_pos hn] at hp
    rw [if_pos hn, if_pos hn]
    have K := Lib.hid hp
    clear hp h hn
    go_enter Try.func41, Try.ntmps41
    go_wp2_with fail
    refine K.out.mono ?_
    rintro e w1 ⟨rfl, rfl⟩
    go_wp2_with fail
    go_ret
    exact ⟨rfl, Step.same (Rf.res _ _ _ _) H.out (Fr.refl _ _)⟩
  rw [if_neg hn] at hp
  rw [if_neg hn, if_neg hn]
  have K := Lib.hid hp
  have hdk := (dk_at hn).1
  obtain ⟨g, hg, hop⟩ := Ar.opAt R.res h hn (rest := [.int .i64 n, .string s]) (fun g U hU => rwrite_at n s hmany U hU)
  have hdn := (dk_at hn).2
  have hsame := withDk_same hn
  obtain ⟨A, c, rfl, hm, hl, c0, -, -, -, -⟩ := h.reads
  obtain ⟨ad, rfl, hc, hlt, hlti⟩ := h.there hg
  obtain ⟨j, hj⟩ : ∃ j, d.toNat = j := ⟨_, rfl⟩
  rw [hj] at hc hlt hlti hdn hdk hg
  subst hdn
  obtain ⟨z, hz⟩ : ∃ z, checkE (dk a j) n s.size = z := ⟨_, rfl⟩
  rw [hz] at hop ⊢
  have K3 := Lib.hid hop
  have HD := Lib.hid (And.intro hdk hg)
  have HZ := Lib.hid hsame
  clear h hn hop hp hg hj hdk hsame
  by_cases hz0 : z = 0
  · subst hz0
    have hwr : wrote (dk a j) n s = { dk a j with wait := (dk a j).wait ++ [(n.toNat, s)] } := by
      unfold wrote
      rw [if_pos hz]
    by_cases hl0 : a.left = 0
    · rw [if_neg (by simp), if_pos hl0, if_neg (by simp), if_pos hl0]
      go_enter Try.func41, Try.ntmps41
      go_wp2_with fail
      refine K.out.mono ?_
      rintro e w1 ⟨rfl, rfl⟩
      go_wp2_with fail
      refine K3.out.mono ?_
      rintro e w2 ⟨rfl, S2, hA0, hf0, hg'⟩
      have hA := (Rf.res _ _ _ _).frame hA0 ((Fr.refl fresh w2).drew) (fun _ _ h => h)
      have hf := hf0.drew
      have hget : (withDk a j (wrote (dk a j) n s)).ds[j]? = some { dk a j with wait := (dk a j).wait ++ [(n.toNat, s)] } := by
        unfold withDk
        rw [Int.toNat_natCast, hwr]
        simp only [List.getElem?_set_self hlt]
      obtain ⟨U, hU, -⟩ := Ar.get hget HD.out.2 hA
      obtain ⟨gw, cap, w0, wf0, hcap1, hcap2⟩ := R.wcell hU
      have hst := Ar.stepAt R.res (m' := dk a j) hget HD.out.2 S2 (fun V hV => R.unwrite hV w0) hA
      have hback : ({ withDk a j (wrote (dk a j) n s) with ds := (withDk a j (wrote (dk a j) n s)).ds.set j (dk a j) } : Arr) = a := by
        have := HZ.out
        unfold withDk at this ⊢
        rw [Int.toNat_natCast] at this ⊢
        simp only [List.set_set]
        exact this
      rw [hback] at hst
      obtain ⟨S3, hA3, hf3, hg3⟩ := Step.on hf hg' hst
      obtain ⟨A3, c3, -, -, -, -, x1, x2, xf, -⟩ := hA3.reads
      obtain ⟨A4, c4, -, -, -, -, y1, y2, yf, -⟩ := hA0.reads
      have y1' : w2.cell? ⟨ga, 1, none⟩ = some (.int .i64 a.left) := y1
      have z2 : (w2.setCell ⟨g, 2, none⟩ (.slice (some ⟨gw, 0, none⟩) (dk a (j : Int)).wait.length cap)).cell? ⟨ga, 2, none⟩ = some (.bool a.down) := x2
      have zf2 : w2.frozen? ⟨ga, 2, none⟩ = false := yf 2
      have HS := Lib.hid (Step.on hf3 hg3 (Ar.setDown R.res hA3 true))
      clear x2 xf yf hA hA0 hA3 hf hf0 hg' hf3 hg3 hst hU y1 y2
      have hwrap : IntKind.i64.wrap ((dk a (j : Int)).wait.length : Int) = ((dk a (j : Int)).wait.length : Int) := by rw [IntKind.wrap_i64]; omega
      have hcapi : ((dk a (j : Int)).wait.length : Int) ≤ (cap : Int) := by omega
      have hcapn : (dk a (j : Int)).wait.length ≤ cap := by omega
      go_wp2_with fail
      go_still_tail 14, (by kernel_rfl)
      change wpList _ _ _ _ _ w2.drew
      go_wp2_with fail
      go_ret
      exact ⟨rfl, HS.out⟩
    · have hl' : (a.left == 0) = false := by simp [hl0]
      rw [if_neg (by simp), if_neg hl0, if_neg (by simp), if_neg hl0]
      by_cases hpos : 0 < a.left
      · rw [if_pos hpos]
        go_enter Try.func41, Try.ntmps41
        go_wp2_with fail
        refine K.out.mono ?_
        rintro e w1 ⟨rfl, rfl⟩
        go_wp2_with fail
        refine K3.out.mono ?_
        rintro e w2 ⟨rfl, S2, hA, hf, hg'⟩
        obtain ⟨A2, c2, -, -, -, -, x1, -, xf, -⟩ := hA.reads
        have x1' : w2.cell? ⟨ga, 1, none⟩ = some (.int .i64 a.left) := x1
        have xf1 := xf 1
        have HS := Lib.hid (Step.on hf hg' (Ar.setLeft R.res hA (a.left - 1)))
        clear xf hA hf hg' x1
        go_wp2_with fail
        go_ret
        exact ⟨rfl, HS.out⟩
      · rw [if_neg hpos]
        go_enter Try.func41, Try.ntmps41
        go_wp2_with fail
        refine K.out.mono ?_
        rintro e w1 ⟨rfl, rfl⟩
        go_wp2_with fail
        refine K3.out.mono ?_
        rintro e w2 ⟨rfl, S2, hA, hf, hg'⟩
        obtain ⟨A2, c2, -, -, -, -, x1, -, xf, -⟩ := hA.reads
        have x1' : w2.cell? ⟨ga, 1, none⟩ = some (.int .i64 a.left) := x1
        have HS := Lib.hid (show Step w w2 S (Rf ga (.slice (some ad) a.ds.length c) gs (withDk a j (wrote (dk a j) n s)) w2) from ⟨S2, hA, hf, hg'⟩)
        clear xf hA hf hg' x1
        go_wp2_with fail
        go_ret
        exact ⟨rfl, HS.out⟩
  · rw [if_pos hz0, if_pos hz0]
    have hw : wrote (dk a j) n s = dk a j := by
      unfold wrote
      rw [hz, if_neg hz0]
    go_enter Try.func41, Try.ntmps41
    go_wp2_with fail
    refine K.out.mono ?_
    rintro e w1 ⟨rfl, rfl⟩
    go_wp2_with fail
    refine K3.out.mono ?_
    rintro e w2 ⟨rfl, hs⟩
    rw [hw, HZ.out] at hs
    have HS := Lib.hid hs
    clear hs
    go_wp2_with fail
    go_ret
    exact ⟨rfl, HS.out⟩

end Go.Proofs.Ytpmhjagmgjolmaa.Dk
