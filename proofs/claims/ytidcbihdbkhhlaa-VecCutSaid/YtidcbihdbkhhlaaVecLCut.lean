/- Layer 2's law VecCut over the printed functions: it answers true, at every input. -/
import Derived.Test.YtidcbihdbkhhlaaVecPlain
import Derived.Test.YtidcbihdbkhhlaaPVec6
namespace Go.Proofs.Ytidcbihdbkhhlaa.Gf
open Go.RowKit Go.Proofs.Ytidcbihdbkhhlaa.PVec Go.Proofs.YtidcbihdbkhhlaaW.PrintWords Go.Proofs.YtidcbihdbkhhlaaW.PrintLast Go.Proofs.YtidcbihdbkhhlaaW.PrintMore

theorem byteAt_extract (s : ByteArray) (a b i : Nat) (hb : b ≤ s.size) (h : a + i < b) : byteAt (s.extract a b) i = byteAt s (a + i) := by
  have h1 : a + i < s.size := by omega
  have h2 : i < (s.extract a b).size := by rw [ByteArray.size_extract]; omega
  rw [byteAt_get _ _ h2, byteAt_get _ _ h1]
  congr 1
  exact ByteArray.getElem_extract h2
theorem byteAt_append_left (s t : ByteArray) (i : Nat) (h : i < s.size) : byteAt (s ++ t) i = byteAt s i := by
  have h2 : i < (s ++ t).size := by rw [ByteArray.size_append]; omega
  rw [byteAt_get _ _ h2, byteAt_get _ _ h]
  congr 1
  exact ByteArray.getElem_append_left h
theorem byteAt_append_right (s t : ByteArray) (i : Nat) (h : i < t.size) : byteAt (s ++ t) (s.size + i) = byteAt t i := by
  have h2 : s.size + i < (s ++ t).size := by rw [ByteArray.size_append]; omega
  rw [byteAt_get _ _ h2, byteAt_get _ _ h]
  congr 1
  rw [ByteArray.getElem_append_right (by omega)]
  congr 1
  omega

/-- A row that is cut is its two parts, one behind the other. -/
theorem cut_ext (s x y : ByteArray) (m : Nat) (hm : m ≤ s.size) (hx : x.size = m) (hy : y.size = s.size - m) (h1 : ∀ i, i < m → byteAt s i = byteAt x i) (h2 : ∀ i, i < s.size - m → byteAt s (m + i) = byteAt y i) : s = x ++ y := by
  refine bytes_ext (by rw [ByteArray.size_append]; omega) (fun i hi => ?_)
  by_cases h : i < m
  · rw [byteAt_append_left _ _ _ (by omega), h1 i h]
  · obtain ⟨j, rfl⟩ : ∃ j, i = m + j := ⟨i - m, by omega⟩
    rw [h2 j (by omega), ← hx, byteAt_append_right _ _ _ (by omega)]

theorem cut_true (a b : ByteArray) (n : Int) : ∃ k, sheetpilelaw02_VecCut.f k a b n = some true := by
  refine ⟨3000, ?_⟩
  unfold sheetpilelaw02_VecCut.f
  by_cases h1 : (a.size : Int) > 1000
  · rw [if_pos h1]
    simp only [sheetpilelaw02_VecCut.j0, if_true]
    rw [live_f _ (by omega)]
    rfl
  rw [if_neg h1]
  by_cases h2 : (a.size : Int) = (b.size : Int)
  · rw [if_pos h2]
    by_cases h3 : n < 0
    · rw [if_pos h3]
      simp only [sheetpilelaw02_VecCut.j0, if_true]
      rw [live_f _ (by omega)]
      rfl
    rw [if_neg h3]
    by_cases h4 : n > (a.size : Int)
    · rw [decide_eq_true h4]
      simp only [sheetpilelaw02_VecCut.j0, if_true]
      rw [live_f _ (by omega)]
      rfl
    rw [decide_eq_false h4]
    obtain ⟨m, rfl⟩ := Int.eq_ofNat_of_zero_le (by omega : 0 ≤ n)
    have hm : m ≤ a.size := by omega
    have sa : (a.extract 0 m).size = m := by rw [ByteArray.size_extract]; omega
    have sb : (b.extract 0 m).size = m := by rw [ByteArray.size_extract]; omega
    have ta : (a.extract m a.size).size = a.size - m := by rw [ByteArray.size_extract]; omega
    have tb : (b.extract m b.size).size = a.size - m := by rw [ByteArray.size_extract]; omega
    simp only [sheetpilelaw02_VecCut.j0]
    rw [if_neg (by decide), vec_Add_f a b (by omega) (by omega), live_f _ (by omega)]
    simp only [Option.bind_some, Int.toNat_natCast]
    rw [if_pos (by omega), if_pos (by omega), if_pos (by omega), vec_Add_f (a.extract 0 m) (b.extract 0 m) (by omega) (by omega)]
    simp only [Option.bind_some]
    rw [vec_Add_f (a.extract m a.size) (b.extract m b.size) (by omega) (by omega)]
    simp only [Option.bind_some, if_true]
    rw [sa, ta]
    have key : sumB a.size [a, b] = sumB m [a.extract 0 m, b.extract 0 m] ++ sumB (a.size - m) [a.extract m a.size, b.extract m b.size] := by
      refine cut_ext _ _ _ m (by rw [sumB_size]; exact hm) (sumB_size _ _) (by rw [sumB_size, sumB_size]) (fun i hi => ?_) (fun i hi => ?_)
      · rw [sumB_at _ _ _ (by omega), sumB_at _ _ _ hi, acc_two, acc_two, byteAt_extract a 0 m i hm (by omega), byteAt_extract b 0 m i (by omega) (by omega), Nat.zero_add]
      · rw [sumB_size] at hi
        rw [sumB_at _ _ _ (by omega), sumB_at _ _ _ hi, acc_two, acc_two, byteAt_extract a m a.size i (Nat.le_refl _) (by omega), byteAt_extract b m b.size i (Nat.le_refl _) (by omega)]
    have key2 : scaleB a 7 = scaleB (a.extract 0 m) 7 ++ scaleB (a.extract m a.size) 7 := by
      refine cut_ext _ _ _ m (by rw [scaleB_size]; exact hm) (by rw [scaleB_size, sa]) (by rw [scaleB_size, scaleB_size, ta]) (fun i hi => ?_) (fun i hi => ?_)
      · rw [scaleB_at _ _ _ (by omega), scaleB_at _ _ _ (by omega), byteAt_extract a 0 m i hm (by omega), Nat.zero_add]
      · rw [scaleB_size] at hi
        rw [scaleB_at _ _ _ (by omega), scaleB_at _ _ _ (by omega), byteAt_extract a m a.size i (Nat.le_refl _) (by omega)]
    rw [if_pos (by rw [sumB_size, sumB_size]; omega), if_pos (by rw [key])]
    have s1 := vec_Scale_f a 7 (by omega) (by decide)
    have s2 := vec_Scale_f (a.extract 0 m) 7 (by omega) (by decide)
    have s3 := vec_Scale_f (a.extract m a.size) 7 (by omega) (by decide)
    rw [show (7 : Int) = ((7 : Nat) : Int) from rfl, s1, s2, s3]
    simp only [Option.bind_some]
    rw [if_pos (by rw [scaleB_size, scaleB_size]; omega), if_pos (by rw [key2])]
  · rw [if_neg h2]
    simp only [sheetpilelaw02_VecCut.j0, if_true]
    rw [live_f _ (by omega)]
    rfl

end Go.Proofs.Ytidcbihdbkhhlaa.Gf
