/- The walks of the document's disk: Flush, Crash. -/
import Derived.Test.YtpmhjagmgjolmaaDkR2
import Derived.RegionTactic
namespace Go.Proofs.Ytpmhjagmgjolmaa.Dk
open Go.RowKit

set_option maxRecDepth 100000 in
set_option maxHeartbeats 1000000 in
theorem rcrash_gone (v : Value) {w : World} {g : Nat} (h : w.cell? ⟨g, 3, none⟩ = some (.bool true)) : Calls Try.prog 59 #[.pointer (some ⟨g, 0, none⟩), v] w fun e w' => e = .returned (.int .i64 8) ∧ w = w' := by
  go_enter Try.func59, Try.ntmps59
  go_wp2
  go_ret
  exact ⟨rfl, rfl⟩
set_option maxRecDepth 100000 in
set_option maxHeartbeats 1000000 in
theorem rflush_gone {w : World} {g : Nat} (h : w.cell? ⟨g, 3, none⟩ = some (.bool true)) : Calls Try.prog 58 #[.pointer (some ⟨g, 0, none⟩)] w fun e w' => e = .returned (.int .i64 8) ∧ w = w' := by
  go_enter Try.func58, Try.ntmps58
  go_wp2
  go_ret
  exact ⟨rfl, rfl⟩

theorem kept_short : ∀ (ws : List Ev) (bs : List Bool) (L : List ByteArray) (k : Nat), bs.length ≤ k → kept L (ws.take k) bs = kept L ws bs
  | [], bs, L, k, _ => by simp
  | y :: ys, [], L, k, _ => by cases k <;> simp [kept]
  | y :: ys, b :: bs, L, 0, h => by simp at h
  | y :: ys, b :: bs, L, k + 1, h => by
    simp only [List.take_succ_cons, kept]
    exact kept_short ys bs _ k (by simpa using h)

set_option maxRecDepth 100000 in
set_option maxHeartbeats 4000000 in
theorem rflush_yes {w : World} {g s : Nat} {wv : Value} {m : Dsk} (h : IsRef w g s wv m) (hg : m.gone = false) :
    Calls Try.prog 58 #[.pointer (some ⟨g, 0, none⟩)] w fun e w' => e = .returned (.int .i64 0) ∧ Step w w' (foot g s wv) (R g (flushed m) w') := by
  obtain ⟨cap, hcap, c0, -, c2, c3, cf, -, -⟩ := h.reads
  obtain ⟨W, cw, hwv, hlen, hW⟩ := h.waits
  have HW := Lib.hid hW
  have H := Lib.hid h
  have HV := Lib.hid hwv
  rw [hg] at c3
  clear cf h hW hwv c0 c2
  obtain ⟨bs, hbs⟩ : ∃ bs, List.replicate m.wait.length true = bs := ⟨_, rfl⟩
  go_enter Try.func58, Try.ntmps58
  go_wp2
  go_loopg [3] m.wait.length (fun q v3 wx => ∃ k : Nat, k + q = m.wait.length ∧ v3 = .int .i64 (k : Int) ∧ Aside (RefW w g s wv m (kept m.sec (m.wait.take k) bs) wx))
  case atStart => exact ⟨0, by omega, rfl, by simpa [kept] using H.out, Fr.refl _ _⟩
  case round =>
    obtain ⟨k, hkq, rfl, HI⟩ := hrel
    cases gk with
    | zero =>
      obtain rfl : k = m.wait.length := by omega
      obtain ⟨_, _, -, -, c2, -, cf, -, -⟩ := HI.out.disk.reads
      have f2 := cf 2
      simp only [HV.out] at c2
      clear cf
      go_wp2
      go_ret
      have hd := HI.out.disk.setWait (.slice none 0 0) [] (World.ownsRow_nil _ _ _ _) (by simp)
      rw [List.take_of_length_le (Nat.le_refl _)] at hd
      simp only [hg] at hd
      refine ⟨rfl, foot g s (.slice none 0 0), ⟨s, .slice none 0 0, ?_, rfl⟩, HI.out.fr.setCell (p := ⟨g, 2, none⟩) (.inl (foot_g _ _ _)) _, ?_⟩
      · rw [show flushed m = { m with wait := [], sec := kept m.sec m.wait bs } by unfold flushed crashed; rw [if_neg (by rw [hg]; decide), hbs]]
        simp only [hg]
        exact hd
      rintro j (rfl | rfl | hk)
      · exact .inl (foot_g _ _ _)
      · exact .inl (foot_s _ _ _)
      · simp [Value.ownBlock] at hk
    | succ q =>
      have hm : k < m.wait.length := by omega
      have hmi : (k : Int) < (m.wait.length : Int) := by omega
      obtain ⟨x, hx⟩ : ∃ x, m.wait[k]? = some x := ⟨_, List.getElem?_eq_getElem hm⟩
      obtain ⟨cap', hcap', c0, -, c2, -, -, cs, cz⟩ := HI.out.disk.drew.reads
      obtain ⟨ad, rfl, e1, e2⟩ := HW.out wr.drew _ HI.out.disk.drew rfl k x hx
      have hin : x.1 < (kept m.sec (m.wait.take k) bs).length := by rw [length_kept]; exact H.out.ok x (List.mem_of_getElem? hx)
      have cn := cs x.1 _ (List.getElem?_eq_getElem hin)
      have zn := cz x.1
      have hini : (x.1 : Int) < ((kept m.sec (m.wait.take k) bs).length : Int) := by omega
      simp only [HV.out] at c2
      have HS := Lib.hid (kept_step m.wait bs m.sec k x hx)
      have HP := Lib.hid (And.intro (HI.out.disk.setSec x.1 x.2) (HI.out.fr.setCell (p := ⟨s, x.1, none⟩) (.inl (foot_s _ _ _)) (.string x.2)))
      clear hx cs cz
      have hbt : bs[k]? = some true := by rw [← hbs]; simp [hm]
      rw [if_pos hbt] at HS
      obtain ⟨_, _, -, -, c2', -, -, -, -⟩ := HI.out.disk.reads
      simp only [HV.out] at c2'
      go_wp2_with fail
      go_still_tail 21, (by kernel_rfl)
      change wpList _ _ _ _ _ wr.drew
      go_wp2
      go_roundg q
      case measure => omega
      case rel => exact ⟨k + 1, by omega, by go_num, by rw [HS.out]; exact HP.out.1.drew, HP.out.2.drew⟩

set_option maxRecDepth 100000 in
set_option maxHeartbeats 4000000 in
theorem rcrash_yes {w : World} {g s : Nat} {wv : Value} {m : Dsk} (h : IsRef w g s wv m) (hg : m.gone = false) (A : Option Addr) (c : Nat) (bs : List Bool) (hr : ReadsBools w (foot g s wv) A bs) :
    Calls Try.prog 59 #[.pointer (some ⟨g, 0, none⟩), .slice A bs.length c] w fun e w' => e = .returned (.int .i64 0) ∧ Step w w' (foot g s wv) (R g (crashed m bs) w') := by
  obtain ⟨cap, hcap, c0, -, c2, c3, cf, -, -⟩ := h.reads
  obtain ⟨W, cw, hwv, hlen, hW⟩ := h.waits
  have HW := Lib.hid hW
  have H := Lib.hid h
  have HV := Lib.hid hwv
  rw [hg] at c3
  clear cf h hW hwv c0 c2
  have HR := Lib.hid hr
  clear hr
  go_enter Try.func59, Try.ntmps59
  go_wp2
  go_loopg [5] m.wait.length (fun q v3 wx => ∃ k : Nat, k + q = m.wait.length ∧ v3 = .int .i64 (k : Int) ∧ Aside (RefW w g s wv m (kept m.sec (m.wait.take k) bs) wx))
  case atStart => exact ⟨0, by omega, rfl, by simpa [kept] using H.out, Fr.refl _ _⟩
  case round =>
    obtain ⟨k, hkq, rfl, HI⟩ := hrel
    cases gk with
    | zero =>
      obtain rfl : k = m.wait.length := by omega
      obtain ⟨_, _, -, -, c2, -, cf, -, -⟩ := HI.out.disk.reads
      have f2 := cf 2
      simp only [HV.out] at c2
      clear cf
      go_wp2
      go_ret
      have hd := HI.out.disk.setWait (.slice none 0 0) [] (World.ownsRow_nil _ _ _ _) (by simp)
      rw [List.take_of_length_le (Nat.le_refl _)] at hd
      simp only [hg] at hd
      refine ⟨rfl, foot g s (.slice none 0 0), ⟨s, .slice none 0 0, ?_, rfl⟩, HI.out.fr.setCell (p := ⟨g, 2, none⟩) (.inl (foot_g _ _ _)) _, ?_⟩
      · rw [show crashed m bs = { m with wait := [], sec := kept m.sec m.wait bs } by unfold crashed; rw [if_neg (by rw [hg]; decide)]]
        simp only [hg]
        exact hd
      rintro j (rfl | rfl | hk)
      · exact .inl (foot_g _ _ _)
      · exact .inl (foot_s _ _ _)
      · simp [Value.ownBlock] at hk
    | succ q =>
      have hm : k < m.wait.length := by omega
      have hmi : (k : Int) < (m.wait.length : Int) := by omega
      obtain ⟨x, hx⟩ : ∃ x, m.wait[k]? = some x := ⟨_, List.getElem?_eq_getElem hm⟩
      obtain ⟨cap', hcap', c0, -, c2, -, -, cs, cz⟩ := HI.out.disk.drew.reads
      obtain ⟨ad, rfl, e1, e2⟩ := HW.out wr.drew _ HI.out.disk.drew rfl k x hx
      have hin : x.1 < (kept m.sec (m.wait.take k) bs).length := by rw [length_kept]; exact H.out.ok x (List.mem_of_getElem? hx)
      have cn := cs x.1 _ (List.getElem?_eq_getElem hin)
      have zn := cz x.1
      have hini : (x.1 : Int) < ((kept m.sec (m.wait.take k) bs).length : Int) := by omega
      simp only [HV.out] at c2
      have HS := Lib.hid (kept_step m.wait bs m.sec k x hx)
      have HP := Lib.hid (And.intro (HI.out.disk.setSec x.1 x.2) (HI.out.fr.setCell (p := ⟨s, x.1, none⟩) (.inl (foot_s _ _ _)) (.string x.2)))
      clear hx cs cz
      obtain ⟨_, _, -, -, c2', -, -, -, -⟩ := HI.out.disk.reads
      simp only [HV.out] at c2'
      by_cases hb : k < bs.length
      · obtain ⟨v, hbk⟩ : ∃ v, bs[k]? = some v := ⟨_, List.getElem?_eq_getElem hb⟩
        obtain ⟨bd, rfl, hbc, hbf⟩ := HR.out k v hbk
        have hbc' := HI.out.fr.cell hbc (by rw [addr_block]; exact hbf)
        have hbi : (k : Int) < (bs.length : Int) := by omega
        have HB := Lib.hid hbk
        clear hbc hbf hbk
        cases v with
        | true =>
          rw [if_pos HB.out] at HS
          go_wp2_with fail
          go_still_tail 21, (by kernel_rfl)
          change wpList _ _ _ _ _ wr.drew
          go_wp2
          go_roundg q
          case measure => omega
          case rel => exact ⟨k + 1, by omega, by go_num, by rw [HS.out]; exact HP.out.1.drew, HP.out.2.drew⟩
        | false =>
          rw [if_neg (by rw [HB.out]; simp)] at HS
          go_wp2_with fail
          go_roundg q
          case measure => omega
          case rel => exact ⟨k + 1, by omega, by go_num, by rw [HS.out]; exact HI.out.disk, HI.out.fr⟩
      · have hbi : ¬ (k : Int) < (bs.length : Int) := by omega
        have hsh := kept_short m.wait bs m.sec k (by omega)
        clear HP HS c2
        obtain ⟨_, _, -, -, c2, -, cf, -, -⟩ := HI.out.disk.reads
        have f2 := cf 2
        simp only [HV.out] at c2
        clear cf
        go_wp2
        go_ret
        have hd := HI.out.disk.setWait (.slice none 0 0) [] (World.ownsRow_nil _ _ _ _) (by simp)
        rw [hsh] at hd
        simp only [hg] at hd
        refine ⟨rfl, foot g s (.slice none 0 0), ⟨s, .slice none 0 0, ?_, rfl⟩, HI.out.fr.setCell (p := ⟨g, 2, none⟩) (.inl (foot_g _ _ _)) _, ?_⟩
        · rw [show crashed m bs = { m with wait := [], sec := kept m.sec m.wait bs } by unfold crashed; rw [if_neg (by rw [hg]; decide)]]
          simp only [hg]
          exact hd
        rintro j (rfl | rfl | hk)
        · exact .inl (foot_g _ _ _)
        · exact .inl (foot_s _ _ _)
        · simp [Value.ownBlock] at hk

theorem rflush_at {w : World} {g : Nat} {m : Dsk} (S : Nat → Prop) (h : R g m w S) :
    Calls Try.prog 58 #[.pointer (some ⟨g, 0, none⟩)] w fun e w' => e = .returned (.int .i64 (worksE m)) ∧ Step w w' S (R g (flushed m) w') := by
  obtain ⟨s, wv, h, rfl⟩ := h
  cases hg : m.gone with
  | true =>
    have e1 : worksE m = 8 := by unfold worksE; rw [if_pos hg]
    have e2 : flushed m = m := by unfold flushed crashed; rw [if_pos hg]
    rw [e1, e2]
    obtain ⟨_, _, -, -, -, c3, -⟩ := h.reads
    rw [hg] at c3
    refine (rflush_gone c3).mono ?_
    rintro e w' ⟨he, rfl⟩
    exact ⟨he, Step.same (R.res g m) ⟨s, wv, h, rfl⟩ (Fr.refl _ _)⟩
  | false =>
    have e1 : worksE m = 0 := by unfold worksE; rw [if_neg (by rw [hg]; decide)]
    rw [e1]
    exact rflush_yes h hg

theorem rcrash_at {w : World} {g : Nat} {m : Dsk} (A : Option Addr) (c : Nat) (bs : List Bool) (S : Nat → Prop) (hr : ReadsBools w S A bs) (h : R g m w S) :
    Calls Try.prog 59 #[.pointer (some ⟨g, 0, none⟩), .slice A bs.length c] w fun e w' => e = .returned (.int .i64 (worksE m)) ∧ Step w w' S (R g (crashed m bs) w') := by
  obtain ⟨s, wv, h, rfl⟩ := h
  cases hg : m.gone with
  | true =>
    have e1 : worksE m = 8 := by unfold worksE; rw [if_pos hg]
    have e2 : crashed m bs = m := by unfold crashed; rw [if_pos hg]
    rw [e1, e2]
    obtain ⟨_, _, -, -, -, c3, -⟩ := h.reads
    rw [hg] at c3
    refine (rcrash_gone _ c3).mono ?_
    rintro e w' ⟨he, rfl⟩
    exact ⟨he, Step.same (R.res g m) ⟨s, wv, h, rfl⟩ (Fr.refl _ _)⟩
  | false =>
    have e1 : worksE m = 0 := by unfold worksE; rw [if_neg (by rw [hg]; decide)]
    rw [e1]
    exact rcrash_yes h hg A c bs hr

end Go.Proofs.Ytpmhjagmgjolmaa.Dk
