/- Layer 2's law VecTells over the printed functions: it answers true, at every input. -/
import Derived.Test.YtidcbihdbkhhlaaVecPlain
import Derived.Test.YtidcbihdbkhhlaaPVec3
namespace Go.Proofs.Ytidcbihdbkhhlaa.Gf
open Go.RowKit Go.Proofs.Ytidcbihdbkhhlaa.PVec Go.Proofs.YtidcbihdbkhhlaaW.PrintWords Go.Proofs.YtidcbihdbkhhlaaW.PrintLast Go.Proofs.YtidcbihdbkhhlaaW.PrintMore

theorem tells_true (a b : ByteArray) (c : Nat) (n : Int) (hc : c < 256) (_hn : -9223372036854775808 ≤ n) : ∃ k, sheetpilelaw02_VecTells.f k a b (c : Int) n = some true := by
  refine ⟨3000, ?_⟩
  unfold sheetpilelaw02_VecTells.f
  by_cases h1 : (a.size : Int) > 1000
  · rw [if_pos h1]
    simp only [sheetpilelaw02_VecTells.j0, if_true]
    rw [live_f _ (by omega)]
    rfl
  rw [if_neg h1]
  by_cases h2 : (b.size : Int) > 1000
  · rw [if_pos h2]
    simp only [sheetpilelaw02_VecTells.j0, if_true]
    rw [live_f _ (by omega)]
    rfl
  rw [if_neg h2]
  by_cases h3 : n > 70000
  · rw [decide_eq_true h3]
    simp only [sheetpilelaw02_VecTells.j0, if_true]
    rw [live_f _ (by omega)]
    rfl
  rw [decide_eq_false h3]
  simp only [sheetpilelaw02_VecTells.j0]
  have hz : ∃ r, vec_Zero.f n = some r ∧ sheetpileref02_Zero.f n = some r := by
    by_cases h4 : n < 0
    · exact ⟨(⟨#[]⟩, 1), by unfold vec_Zero.f; rw [if_pos h4], by unfold sheetpileref02_Zero.f; rw [if_pos h4]⟩
    by_cases h5 : n > 65536
    · exact ⟨(⟨#[]⟩, 1), by unfold vec_Zero.f; rw [if_neg h4, if_pos h5], by unfold sheetpileref02_Zero.f; rw [if_neg h4, if_pos h5]⟩
    exact ⟨_, by unfold vec_Zero.f; rw [if_neg h4, if_neg h5, if_pos (by omega), if_pos (by omega)], by unfold sheetpileref02_Zero.f; rw [if_neg h4, if_neg h5, if_pos (by omega), if_pos (by omega)]⟩
  obtain ⟨⟨z1, z2⟩, hz1, hz2⟩ := hz
  have had : ∃ r, vec_Add.f a b = some r ∧ sheetpileref02_Add.f 2999 a b = some r := by
    by_cases h : a.size = b.size
    · exact ⟨_, vec_Add_f a b (by omega) h, ref_Add_f _ a b (by omega) h (by omega)⟩
    · exact ⟨_, vec_Add_ne a b h, ref_Add_ne _ a b h⟩
  obtain ⟨⟨s1, s2⟩, hs1, hs2⟩ := had
  have hdo : ∃ r, vec_Dot.f 2999 a b = some r ∧ sheetpileref02_Dot.f 2999 a b = some r := by
    by_cases h : a.size = b.size
    · exact ⟨_, vec_Dot_f _ a b (by omega) h (by omega), ref_Dot_f _ a b (by omega) h (by omega)⟩
    · exact ⟨_, vec_Dot_ne _ a b h, ref_Dot_ne _ a b h⟩
  obtain ⟨⟨d1, d2⟩, hd1, hd2⟩ := hdo
  rw [if_neg (by decide), hs1, hs2, hd1, hd2, hz1, hz2, vec_Scale_f a c (by omega) hc, ref_Scale_f _ a c (by omega) hc (by omega), live_f _ (by omega)]
  simp only [Option.bind_some, if_true]

theorem i64_lo {a : Int} (h : (Lit.int .i64 a).wf = true) : -9223372036854775808 ≤ a := by
  have hmin : IntKind.i64.min = -9223372036854775808 := rfl
  simp only [Lit.wf, Bool.and_eq_true, decide_eq_true_eq, hmin] at h
  exact h.1

theorem tells_walk (a b : ByteArray) (c n : Int) (w : World) (_ : a.size ≤ maxLen) (_ : b.size ≤ maxLen) (w2 : (Lit.int .u8 c).wf = true) (w3 : (Lit.int .i64 n).wf = true) :
    Calls Try.prog 3 #[.agg #[.string a, .string b, .int .u8 c, .int .i64 n]] w fun e w' => e = .returned (.bool true) ∧ Below w.heap.size w w' := by
  obtain ⟨c, hc, rfl⟩ := nat_u8 w2
  obtain ⟨k, h⟩ := tells_true a b c n hc (i64_lo w3)
  exact sheetpilelaw02_VecTells.calls k a b c n true w h

end Go.Proofs.Ytidcbihdbkhhlaa.Gf
