/- The walk of the document's disk: Corrupt. -/
import Derived.Test.YtpmhjagmgjolmaaDkR3
import Derived.Test.YtpmhjagmgjolmaaDkCor
namespace Go.Proofs.Ytpmhjagmgjolmaa.Dk
open Go.RowKit

/-- The row that is built: what stays of the first k. -/
structure LeftW (w : World) (ws : List Ev) (n : Int) (k : Nat) (v : Value) (wx : World) : Prop where
  row : wx.ownsRow w.heap.size 87 2 v (stay (ws.take k) n).length ((stay (ws.take k) n).flatMap wcells)
  fr : Fr fresh w wx

set_option maxRecDepth 100000 in
set_option maxHeartbeats 1000000 in
theorem rcorrupt_not {w : World} {g : Nat} {n : Int} {x : ByteArray} (z : Int) (hz : z ≠ 0)
    (h : Calls Try.prog 64 #[.pointer (some ⟨g, 0, none⟩), .int .i64 n, .string x] w fun e w' => e = .returned (.int .i64 z) ∧ w = w') :
    Calls Try.prog 63 #[.pointer (some ⟨g, 0, none⟩), .int .i64 n, .string x] w fun e w' => e = .returned (.int .i64 z) ∧ w = w' := by
  have HK := Lib.hid h
  clear h
  go_enter Try.func63, Try.ntmps63
  go_wp2_with (go_at_call 64; refine (HK.out).mono ?_; rintro e w1 ⟨rfl, rfl⟩)
  go_ret
  exact ⟨rfl, rfl⟩

set_option maxRecDepth 100000 in
set_option maxHeartbeats 4000000 in
theorem rcorrupt_yes {w : World} {g s : Nat} {wv : Value} {m : Dsk} (h : IsRef w g s wv m) (n : Nat) (x : ByteArray) (hgone : m.gone = false) (hn : n < m.sec.length) (hx : x.size ≤ m.size) (hmany : m.wait.length ≤ 1000000) :
    Calls Try.prog 63 #[.pointer (some ⟨g, 0, none⟩), .int .i64 (n : Int), .string x] w fun e w' => e = .returned (.int .i64 0) ∧
      Step w w' (foot g s wv) (R g { m with wait := stay m.wait n, sec := m.sec.set n x } w') := by
  have hk := rcheck_any h n x
  have he : checkE m n x.size = 0 := by
    unfold checkE
    rw [if_neg (by rw [hgone]; decide), if_neg (by omega), if_neg (by omega)]
  rw [he] at hk
  have HK := Lib.hid hk
  obtain ⟨W, cw, hwv, hlen, hW⟩ := h.waits
  have HW := Lib.hid hW
  have HV := Lib.hid hwv
  have H := Lib.hid h
  obtain ⟨i0, hi, hz0, hz1, hz2⟩ := info_parts wrInfo
  clear hk he hW hwv h
  go_enter Try.func63, Try.ntmps63
  go_wp2_with (go_at_call 64; refine (HK.out).mono ?_; rintro e w1 ⟨rfl, rfl⟩)
  go_loopg [8, 9] m.wait.length (fun q v8 v9 wx => ∃ k : Nat, k + q = m.wait.length ∧ v9 = .int .i64 (k : Int) ∧ Aside (LeftW w m.wait n k v8 wx))
  case atStart => exact ⟨0, by omega, rfl, World.ownsRow_nil _ _ _ _, Fr.refl _ _⟩
  case round =>
    obtain ⟨k, hkq, rfl, HI⟩ := hrel
    have hIR := Lib.hid (H.out.frame HI.out.fr (fun _ _ h => h))
    obtain ⟨cap', hcap', c0, -, c2, -, cf, cs, cz⟩ := hIR.out.reads
    simp only [HV.out] at c2
    cases gk with
    | zero =>
      obtain rfl : k = m.wait.length := by omega
      have hrow := HI.out.row
      rw [List.take_of_length_le (Nat.le_refl _)] at hrow
      obtain ⟨A', l, c', rfl⟩ : ∃ A' l c', u8 = .slice A' l c' := by
        rcases owns_form hrow with ⟨e, _⟩ | ⟨_, _, e, _⟩
        · exact ⟨_, _, _, e⟩
        · exact ⟨_, _, _, e⟩
      have f2 := cf 2
      have hfin := hIR.out.setWait (.slice A' l c') (stay m.wait n) (owns_lower hrow (Nat.zero_le _)) (fun y hy => H.out.ok y (List.mem_filter.1 hy).1)
      clear cs cz c0 cf
      obtain ⟨cap'', hcap'', c0, -, -, -, -, cs, cz⟩ := hfin.reads
      have cn := cs n m.sec[n] (List.getElem?_eq_getElem hn)
      have zn := cz n
      have hni : (n : Int) < (m.sec.length : Int) := by omega
      have HF := Lib.hid (And.intro hfin hrow)
      clear cs cz hfin hrow
      go_wp2
      go_ret
      have hd := HF.out.1.setSec n x
      simp only [hgone] at hd
      refine ⟨rfl, foot g s (.slice A' l c'), ⟨s, .slice A' l c', hd, rfl⟩, (((HI.out.fr.mono (fun _ _ h => h.elim)).setCell (p := ⟨g, 2, none⟩) (.inl (foot_g _ _ _)) _).setCell (p := ⟨s, n, none⟩) (.inl (foot_s _ _ _)) _), ?_⟩
      rintro b (rfl | rfl | hb)
      · exact .inl (foot_g _ _ _)
      · exact .inl (foot_s _ _ _)
      · exact .inr (HF.out.2.lt b hb).1
    | succ q =>
      have hm : k < m.wait.length := by omega
      have hmi : (k : Int) < (m.wait.length : Int) := by omega
      obtain ⟨y, hy⟩ : ∃ y, m.wait[k]? = some y := ⟨_, List.getElem?_eq_getElem hm⟩
      obtain ⟨ad, rfl, e1, e2⟩ := HW.out wr _ hIR.out rfl k y hy
      have HY := Lib.hid hy
      clear cs cz cf c0 hy
      by_cases hyn : (y.1 : Int) = (n : Int)
      · go_wp2
        go_roundg q
        case measure => omega
        case rel =>
          refine ⟨k + 1, by omega, by go_num, ?_⟩
          have hst : stay (m.wait.take (k + 1)) (n : Int) = stay (m.wait.take k) n := by rw [stay_take m.wait n k y HY.out, if_pos (by simp [hyn]), List.append_nil]
          exact ⟨by rw [hst]; exact HI.out.row, HI.out.fr⟩
      · have hst : stay (m.wait.take (k + 1)) (n : Int) = stay (m.wait.take k) n ++ [y] := by rw [stay_take m.wait n k y HY.out, if_neg (by simpa using hyn)]
        have hlen2 : (stay (m.wait.take k) (n : Int)).length ≤ k := Nat.le_trans (List.length_filter_le _ _) (by rw [List.length_take]; omega)
        have hown := Lib.hid (HI.out.row.alloc (.cells #[.int .i64 (y.1 : Int), .string y.2] 87))
        have hbase : w.heap.size ≤ (wr.alloc (.cells #[.int .i64 (y.1 : Int), .string y.2] 87)).heap.size := by have := HI.out.fr.size; simp; omega
        go_wp2_with (at_builtin; go_loud (refine wpList_append_own_at _ rfl _ _ 49 rfl w.heap.size 87 i0 (.agg #[.int .i64 0, .string ByteArray.empty]) 2 24 Try.underlying49 hi hz0 hz1 hz2 rfl (by decide) u8 (stay (m.wait.take k) n).length ((stay (m.wait.take k) n).flatMap wcells) rfl hown.out ⟨wr.heap.size, 0, none⟩ 1 1 [.int .i64 (y.1 : Int), .string y.2] rfl rfl ?c1 ?c2 ?c3 ?c4 hbase ?_))
        case c1 =>
          intro j u hj
          have hnew := heap_alloc_new wr (.cells #[.int .i64 (y.1 : Int), .string y.2] 87)
          match j, hj with
          | 0, hj =>
            simp at hj
            subst hj
            exact (cell_of_row _ wr.heap.size 0 _ _ _ hnew)
          | 1, hj =>
            simp at hj
            subst hj
            exact (cell_of_row _ wr.heap.size 1 _ _ _ hnew)
          | j + 2, hj => simp at hj
        case c2 => intro u hu; simp at hu; rcases hu with rfl | rfl <;> rfl
        case c3 => unfold maxLen; omega
        case c4 => omega
        intro v' w1 hown' hgrow hnil hat
        have HN := Lib.hid (show LeftW w m.wait n (k + 1) v' w1 from ⟨by rw [hst]; simpa [wcells] using hown', (HI.out.fr.alloc _).grown hgrow (fun b hb => .inr (HI.out.row.lt b hb).1)⟩)
        go_wp2
        go_roundg q
        case measure => omega
        case rel => exact ⟨k + 1, by omega, by go_num, HN.out⟩

set_option maxRecDepth 100000 in
theorem rcorrupt_at {w : World} {g : Nat} {m : Dsk} (n : Int) (x : ByteArray) (hmany : m.wait.length ≤ 1000000) (S : Nat → Prop) (h : R g m w S) :
    Calls Try.prog 63 #[.pointer (some ⟨g, 0, none⟩), .int .i64 n, .string x] w fun e w' => e = .returned (.int .i64 (checkE m n x.size)) ∧ Step w w' S (R g (corrupted m n x) w') := by
  obtain ⟨s, wv, h, rfl⟩ := h
  have hk := rcheck_any h n x
  unfold corrupted
  by_cases he : checkE m n x.size = 0
  · obtain ⟨h1, h2, h3, h4⟩ := checkE_zero he
    rw [if_pos he, he]
    obtain ⟨k, rfl⟩ := Int.eq_ofNat_of_zero_le h2
    exact rcorrupt_yes h k x h1 (by omega) h4 hmany
  · rw [if_neg he]
    refine (rcorrupt_not _ he hk).mono ?_
    rintro e w' ⟨rfl, rfl⟩
    exact ⟨rfl, Step.same (R.res g m) ⟨s, wv, h, rfl⟩ (Fr.refl _ _)⟩

end Go.Proofs.Ytpmhjagmgjolmaa.Dk
