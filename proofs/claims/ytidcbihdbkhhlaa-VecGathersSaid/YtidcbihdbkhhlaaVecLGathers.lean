/- Layer 2's law VecGathers over the printed functions: it answers true, at every input. -/
import Derived.Test.YtidcbihdbkhhlaaVecPlain
import Derived.Test.YtidcbihdbkhhlaaPVec5
namespace Go.Proofs.Ytidcbihdbkhhlaa.Gf
open Go.RowKit Go.Proofs.Ytidcbihdbkhhlaa.PVec Go.Proofs.YtidcbihdbkhhlaaW.PrintWords Go.Proofs.YtidcbihdbkhhlaaW.PrintLast Go.Proofs.YtidcbihdbkhhlaaW.PrintMore

theorem gathers_l0 (c : List Nat) (l : List ByteArray) (hc : ∀ x ∈ c, x < 256) (hl : l.length ≤ 30) : ∀ (d i k : Nat), d + i = l.length → d + 2400 < k → (∀ j, j < i → (l.getD j ByteArray.empty).size ≤ 200) →
    sheetpilelaw02_VecGathers.l0 k (nat8 c) l (i : Int) = some true
  | 0, i, k, hd, hk, hi => by
    obtain ⟨k, rfl⟩ : ∃ m, k = m + 1 := ⟨k - 1, by omega⟩
    simp only [sheetpilelaw02_VecGathers.l0]
    have hs : ∀ j, (l.getD j ByteArray.empty).size ≤ 1000 := by
      intro j
      by_cases h : j < l.length
      · have := hi j (by omega); omega
      · rw [List.getD_eq_getElem?_getD, List.getElem?_eq_none (by omega)]
        exact Nat.zero_le _
    obtain ⟨⟨r1, r2⟩, h1, h2⟩ := gather_same c l hc (by omega) hs k (by omega)
    rw [if_neg (by omega), h1, h2, live_f _ (by omega)]
    simp only [Option.bind_some, if_true]
  | d + 1, i, k, hd, hk, hi => by
    obtain ⟨k, rfl⟩ : ∃ m, k = m + 1 := ⟨k - 1, by omega⟩
    simp only [sheetpilelaw02_VecGathers.l0]
    rw [if_pos (by omega), if_pos (by omega), rdOf_nat]
    by_cases h : (l.getD i ByteArray.empty).size ≤ 200
    · rw [if_neg (by omega), w64 (by omega) (by omega), show (i : Int) + 1 = ((i + 1 : Nat) : Int) by omega]
      refine gathers_l0 c l hc hl d (i + 1) k (by omega) (by omega) (fun j hj => ?_)
      by_cases e : j = i
      · subst e; exact h
      · exact hi j (by omega)
    · rw [if_pos (by omega), live_f _ (by omega)]
      rfl
theorem gathers_true (c : List Nat) (l : List ByteArray) (hc : ∀ x ∈ c, x < 256) : ∃ k, sheetpilelaw02_VecGathers.f k (nat8 c) l = some true := by
  refine ⟨3000, ?_⟩
  unfold sheetpilelaw02_VecGathers.f
  by_cases h1 : (l.length : Int) > 30
  · rw [if_pos h1]
    simp only [sheetpilelaw02_VecGathers.j0, if_true]
    rw [live_f _ (by omega)]
    rfl
  rw [if_neg h1]
  by_cases h2 : ((nat8 c).length : Int) > 30
  · rw [decide_eq_true h2]
    simp only [sheetpilelaw02_VecGathers.j0, if_true]
    rw [live_f _ (by omega)]
    rfl
  rw [decide_eq_false h2]
  simp only [sheetpilelaw02_VecGathers.j0]
  rw [if_neg (by decide)]
  exact gathers_l0 c l hc (by omega) l.length 0 2999 (by omega) (by omega) (fun j hj => absurd hj (Nat.not_lt_zero j))

/-- What is known of a []byte that came in. -/
def IsBytes (w : World) (a : Option Addr) (len cap : Nat) (zs : List Int) : Prop :=
  (a = none ∧ len = 0 ∧ cap = 0 ∧ zs = []) ∨
  ∃ x, a = some x ∧ len ≤ cap ∧ cap ≤ maxLen ∧ zs.length = cap ∧ (∀ i, i < zs.length → w.cell? (x.add i) = some (.int .u8 (zs.getD i 0))) ∧ ∀ n ∈ zs, (Lit.int .u8 n).wf = true
/-- What is known of a []string that came in. -/
def IsStrs (w : World) (a : Option Addr) (len cap : Nat) (zs : List ByteArray) : Prop :=
  (a = none ∧ len = 0 ∧ cap = 0 ∧ zs = []) ∨
  ∃ x, a = some x ∧ len ≤ cap ∧ cap ≤ maxLen ∧ zs.length = cap ∧ (∀ i, i < zs.length → w.cell? (x.add i) = some (.string (zs.getD i ByteArray.empty))) ∧ ∀ s ∈ zs, s.size ≤ maxLen

theorem IsBytes.reads {w : World} {a : Option Addr} {len cap : Nat} {zs : List Int} (h : IsBytes w a len cap zs) :
    ∃ c : List Nat, c.length = len ∧ (∀ x ∈ c, x < 256) ∧ Kd.C (Kd.int .u8) w a len (nat8 c) ∧ len ≤ cap := by
  rcases h with ⟨rfl, rfl, rfl, rfl⟩ | ⟨x, rfl, hl, hm, hz, hc, hw⟩
  · refine ⟨[], rfl, by simp, ?_, Nat.le_refl _⟩
    exact Kd.C_of_reads (d := (0 : Int)) (h1 := fun _ => rfl) ⟨rfl, by decide, fun h => absurd h (Nat.lt_irrefl 0)⟩
  · have h8 : ∀ i, i < len → ∃ n : Nat, n < 256 ∧ zs.getD i 0 = (n : Int) := by
      intro i hi
      refine nat_u8 (hw _ ?_)
      rw [List.getD_eq_getElem?_getD, List.getElem?_eq_getElem (by omega)]
      exact List.getElem_mem _
    refine ⟨(List.range len).map fun i => (zs.getD i 0).toNat, by simp, ?_, ?_, hl⟩
    · intro n hn
      obtain ⟨i, hi, rfl⟩ := List.mem_map.1 hn
      obtain ⟨m, hm8, he⟩ := h8 i (List.mem_range.1 hi)
      rw [he, Int.toNat_natCast]
      exact hm8
    · refine Kd.C_of_reads (d := (0 : Int)) (h1 := fun _ => rfl) ⟨by simp [nat8], by unfold maxLen at hm; omega, fun _ => ⟨x, rfl, fun j hj => ?_⟩⟩
      rw [hc j (by omega)]
      obtain ⟨m, hm8, he⟩ := h8 j hj
      have : (nat8 ((List.range len).map fun i => (zs.getD i 0).toNat)).getD j 0 = zs.getD j 0 := by
        rw [List.getD_eq_getElem?_getD]
        simp only [nat8, List.map_map, List.getElem?_map, List.getElem?_range hj, Option.map_some, Option.getD_some, Function.comp_apply]
        rw [he, Int.toNat_natCast]
      rw [this]
theorem IsStrs.reads {w : World} {a : Option Addr} {len cap : Nat} {zs : List ByteArray} (h : IsStrs w a len cap zs) :
    ∃ l : List ByteArray, l.length = len ∧ Kd.C Kd.string w a len l ∧ len ≤ cap := by
  rcases h with ⟨rfl, rfl, rfl, rfl⟩ | ⟨x, rfl, hl, hm, hz, hc, _⟩
  · refine ⟨[], rfl, ?_, Nat.le_refl _⟩
    exact Kd.C_of_reads (d := ByteArray.empty) (h1 := fun _ => rfl) ⟨rfl, by decide, fun h => absurd h (Nat.lt_irrefl 0)⟩
  · refine ⟨zs.take len, by rw [List.length_take]; omega, ?_, hl⟩
    refine Kd.C_of_reads (d := ByteArray.empty) (h1 := fun _ => rfl) ⟨by rw [List.length_take]; omega, by unfold maxLen at hm; omega, fun _ => ⟨x, rfl, fun j hj => ?_⟩⟩
    rw [hc j (by omega), List.getD_eq_getElem?_getD, List.getD_eq_getElem?_getD, List.getElem?_take, if_pos hj]

theorem gathers_walk (a0 : Option Addr) (len0 cap0 : Nat) (z0 : List Int) (a1 : Option Addr) (len1 cap1 : Nat) (z1 : List ByteArray) (w : World) (w0 : IsBytes w a0 len0 cap0 z0) (w1 : IsStrs w a1 len1 cap1 z1) :
    Calls Try.prog 4 #[.slice a0 len0 cap0, .slice a1 len1 cap1] w fun e w' => e = .returned (.bool true) ∧ Below w.heap.size w w' := by
  obtain ⟨c, rfl, hc, hr0, hl0⟩ := w0.reads
  obtain ⟨l, rfl, hr1, hl1⟩ := w1.reads
  obtain ⟨k, h⟩ := gathers_true c l hc
  have := sheetpilelaw02_VecGathers.calls k a0 cap0 (nat8 c) a1 cap1 l true w (by rw [nat8_len]; exact hr0) (by rw [nat8_len]; exact hl0) hr1 hl1 h
  rw [nat8_len] at this
  exact this


end Go.Proofs.Ytidcbihdbkhhlaa.Gf
