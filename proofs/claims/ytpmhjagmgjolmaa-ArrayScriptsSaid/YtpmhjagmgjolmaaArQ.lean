/- Calls of layer 10 that only read, so said; a law's keeps, read. -/
import Derived.Test.YtpmhjagmgjolmaaArDo
import Derived.Deep.Slices
import Derived.Deep.Grids
import Derived.Deep.Strs
import Derived.Lib.SmallJoins
import Derived.WideShapes
namespace Go.Proofs.Ytpmhjagmgjolmaa.Dk
open Go.RowKit Go.ChangeShapes Go.WideShapes Go.Deep Go.Joins

set_option maxRecDepth 100000 in
theorem down_q {ga : Nat} {sv : Value} {gs : List Nat} {a : Arr} {w : World} {S : Nat → Prop} (h : Pa ga sv gs a w S) :
    Calls Try.prog 13 #[.pointer (some ⟨ga, 0, none⟩)] w fun e w' => e = .returned (.bool a.down) ∧ w = w' := by
  obtain ⟨A, c, rfl, hm, hl, c0, c1, c2, cf, cs⟩ := h.reads
  clear cs cf c0 c1 h hl
  go_enter Try.func13, Try.ntmps13
  go_wp2
  go_ret
  exact ⟨rfl, rfl⟩
set_option maxRecDepth 100000 in
theorem disks_q {ga : Nat} {sv : Value} {gs : List Nat} {a : Arr} {w : World} {S : Nat → Prop} (h : Pa ga sv gs a w S) :
    Calls Try.prog 23 #[.pointer (some ⟨ga, 0, none⟩)] w fun e w' => e = .returned (.int .i64 (a.ds.length : Int)) ∧ w = w' := by
  obtain ⟨A, c, rfl, hm, hl, c0, c1, c2, cf, cs⟩ := h.reads
  clear cs cf c1 c2 h hl
  go_enter Try.func23, Try.ntmps23
  go_wp2
  go_ret
  exact ⟨rfl, rfl⟩
set_option maxRecDepth 100000 in
theorem aalive_q {ga : Nat} {sv : Value} {gs : List Nat} {a : Arr} {w : World} {S : Nat → Prop} (h : Pa ga sv gs a w S) (d : Nat) (m : Dsk) (hm : a.ds[d]? = some m) :
    Calls Try.prog 18 #[.pointer (some ⟨ga, 0, none⟩), .int .i64 (d : Int)] w fun e w' => e = .returned (.bool (!m.gone)) ∧ w = w' := by
  have hlt : d < gs.length := by rw [h.1]; exact (List.getElem?_eq_some_iff.1 hm).1
  have hg : gs[d]? = some gs[d] := List.getElem?_eq_getElem hlt
  obtain ⟨U, hU, -⟩ := Ar.get hm hg h
  have K2 := Lib.hid (disk_yes h d _ hg)
  have K3 := Lib.hid (alive_at hU)
  generalize gs[d] = g at K2 K3
  clear h hU hg hlt
  go_enter Try.func18, Try.ntmps18
  go_wp2_with fail
  refine K2.out.mono ?_
  rintro e w1 ⟨rfl, rfl⟩
  go_wp2_with fail
  refine K3.out.mono ?_
  rintro e w1 ⟨rfl, rfl⟩
  go_wp2_with fail
  go_ret
  exact ⟨rfl, rfl⟩

/-- A law's calls, and their rows of truths: how they lie. -/
def RowOps2 (W : World) (A : Option Addr) (os : List Op) : Prop := RowOps W A os ∧ ∀ (j : Nat) o, os[j]? = some o → o.keep.length ≤ o.kc ∧ o.kc ≤ 9223372036854775807 ∧ (o.ka = none → o.kc = 0) ∧ o.n ≤ 9223372036854775807
section
variable {H : Type} {enc : TypeId × Value → H} {W : World} {d : DataW H} {p : List MemPlace}
set_option maxRecDepth 100000 in
theorem open_ops2 {A : Option Addr} {len cap : Nat} (h : DataW.Trod enc Try.prog W 0 (fun _ => true) true 34 (.slice A len cap) d p) : ∃ os : List Op, os.length = len ∧ RowOps2 W A os := by
  obtain ⟨fuel, h⟩ := h
  rcases open_slice Try.underlying34 h with ⟨hcs, _⟩ | ⟨a, l, c, m, n, D, Pl, hcs, _, hl, hm, hmm, _, hx⟩
  · simp [Value.cells] at hcs
    obtain ⟨rfl, rfl, rfl⟩ := hcs
    exact ⟨[], rfl, fun j b hj => by simp at hj, fun j b hj => by simp at hj⟩
  · simp [Value.cells] at hcs
    obtain ⟨rfl, rfl, rfl⟩ := hcs
    simp only [if_true] at hmm
    have hC : Try.prog.cellsOf 36 = 5 := by kernel_rfl
    obtain ⟨l, hl', hq⟩ := list_of (α := Op) (n := len) (q := fun j o => W.cell? (a.add (j * 5)) = some (.int .i64 o.what) ∧ W.cell? (a.add (j * 5 + 1)) = some (.int .i64 o.d) ∧ W.cell? (a.add (j * 5 + 2)) = some (.int .i64 o.n) ∧ W.cell? (a.add (j * 5 + 3)) = some (.string o.s) ∧
        (W.cell? (a.add (j * 5 + 4)) = some (.slice o.ka o.keep.length o.kc) ∧ RowBools W o.ka o.keep) ∧ o.keep.length ≤ o.kc ∧ o.kc ≤ 9223372036854775807 ∧ (o.ka = none → o.kc = 0) ∧ o.n ≤ 9223372036854775807) (fun i hi => by
      obtain ⟨cs', h1, h2⟩ := hx i (by omega)
      rw [hC] at h1
      obtain ⟨_, hlen, hcell⟩ := World.cells?_some h1
      obtain ⟨y0, y1, y2, y3, y4, k, _, _, g0, g1, g2, g3, g4⟩ := trod_struct5 Try.underlying36 h2
      match cs', hlen with
      | [v0, v1, v2, v3, v4], _ =>
        have e0 := hcell 0 (by omega)
        have e1 := hcell 1 (by omega)
        have e2 := hcell 2 (by omega)
        have e3 := hcell 3 (by omega)
        have e4 := hcell 4 (by omega)
        rw [add_add] at e0 e1 e2 e3 e4
        have k3 : Try.prog.cellsOf 3 = 1 := by kernel_rfl
        have k9 : Try.prog.cellsOf 9 = 1 := by kernel_rfl
        have k29 : Try.prog.cellsOf 29 = 1 := by kernel_rfl
        simp only [k3, k9, k29, List.drop_zero, List.drop_succ_cons, List.take_succ_cons, List.take_zero] at g0 g1 g2 g3 g4
        obtain ⟨x0, e0', _⟩ := DataW.trod_int Try.underlying3 g0
        obtain ⟨x1, e1', _⟩ := DataW.trod_int Try.underlying3 g1
        obtain ⟨x2, e2', _, wf2⟩ := DataW.trod_int Try.underlying3 g2
        obtain ⟨x3, e3', _⟩ := DataW.trod_string Try.underlying9 g3
        simp at e0' e1' e2' e3'
        subst e0' e1' e2' e3'
        obtain ⟨ka, kl, kc, rfl, hk1, hk2, hk3, bs, hbl, hbs⟩ : ∃ ka kl kc, v4 = .slice ka kl kc ∧ kl ≤ kc ∧ kc ≤ 9223372036854775807 ∧ (ka = none → kc = 0) ∧ ∃ bs : List Bool, bs.length = kl ∧ RowBools W ka bs := by
          rcases open_bools Try.underlying29 Try.underlying4 (by kernel_rfl) g4 with ⟨hcs, _⟩ | ⟨b, l, c, B, hcs, _, hl1, hm1, _⟩
          · simp at hcs
            subst hcs
            exact ⟨none, 0, 0, rfl, Nat.le_refl _, by decide, fun _ => rfl, cells_bools g4⟩
          · simp at hcs
            subst hcs
            exact ⟨some b, l, c, rfl, hl1, by unfold maxLen at hm1; omega, fun h => (by simp at h), cells_bools g4⟩
        exact ⟨⟨x0, x1, x2, x3, ka, kc, bs⟩, by simpa using e0, by simpa using e1, by simpa using e2, by simpa using e3, ⟨by simpa [hbl] using e4, hbs⟩, by simpa [hbl] using hk1, hk2, hk3, by
          simp only [Lit.wf, Bool.and_eq_true, decide_eq_true_eq] at wf2
          have h2 := wf2.2
          rw [show IntKind.i64.max = 9223372036854775807 by decide] at h2
          exact h2⟩)
    exact ⟨l, hl', fun j o hj => ⟨a, rfl, (hq j o hj).1, (hq j o hj).2.1, (hq j o hj).2.2.1, (hq j o hj).2.2.2.1, (hq j o hj).2.2.2.2.1⟩, fun j o hj => (hq j o hj).2.2.2.2.2⟩
end

end Go.Proofs.Ytpmhjagmgjolmaa.Dk
