/- What a law of layer 9 is given, read: rows of truths, of texts, of calls. -/
import Derived.Test.YtpmhjagmgjolmaaDk8
import Derived.Deep.Slices
import Derived.Deep.Grids
import Derived.Deep.Strs
import Derived.Lib.SmallJoins
import Derived.WideShapes
namespace Go.Proofs.Ytpmhjagmgjolmaa.Dk
open Go.RowKit Go.ChangeShapes Go.WideShapes Go.Deep Go.Joins

/-- A call of a script. -/
structure Op where
  what : Int
  d : Int
  n : Int
  s : ByteArray
  ka : Option Addr
  kc : Nat
  keep : List Bool

def RowBools (W : World) (A : Option Addr) (bs : List Bool) : Prop := ∀ (j : Nat) b, bs[j]? = some b → ∃ ad, A = some ad ∧ W.cell? (ad.add j) = some (.bool b)
def RowStrs (W : World) (A : Option Addr) (xs : List ByteArray) : Prop := ∀ (j : Nat) x, xs[j]? = some x → ∃ ad, A = some ad ∧ W.cell? (ad.add j) = some (.string x)
def RowOps (W : World) (A : Option Addr) (os : List Op) : Prop := ∀ (j : Nat) o, os[j]? = some o → ∃ ad, A = some ad ∧
  W.cell? (ad.add (j * 5)) = some (.int .i64 o.what) ∧ W.cell? (ad.add (j * 5 + 1)) = some (.int .i64 o.d) ∧ W.cell? (ad.add (j * 5 + 2)) = some (.int .i64 o.n) ∧ W.cell? (ad.add (j * 5 + 3)) = some (.string o.s) ∧
  W.cell? (ad.add (j * 5 + 4)) = some (.slice o.ka o.keep.length o.kc) ∧ RowBools W o.ka o.keep

section
variable {H : Type} {enc : TypeId × Value → H} {W : World} {d : DataW H} {p : List MemPlace}

theorem list_of {α : Type} [Inhabited α] {n : Nat} {q : Nat → α → Prop} (h : ∀ i, i < n → ∃ x, q i x) : ∃ l : List α, l.length = n ∧ ∀ (j : Nat) x, l[j]? = some x → q j x := by
  obtain ⟨f, hf⟩ := choose_lt h
  refine ⟨(List.range n).map f, by simp, fun j x hj => ?_⟩
  have hl := (List.getElem?_eq_some_iff.1 hj).1
  simp at hl
  simp [hl] at hj
  subst hj
  exact hf j hl

theorem cells_bools {fuel : Nat} {A : Option Addr} {len cap : Nat} {x : DataW H × List MemPlace} (h : DataW.trod enc Try.prog W 0 (fun _ => true) true fuel 29 [.slice A len cap] = some x) : ∃ bs : List Bool, bs.length = len ∧ RowBools W A bs := by
  rcases open_bools Try.underlying29 Try.underlying4 (by kernel_rfl) h with ⟨hcs, _⟩ | ⟨a, l, c, B, hcs, _, hl, hm, _, hcell⟩
  · simp at hcs
    obtain ⟨rfl, rfl, rfl⟩ := hcs
    exact ⟨[], rfl, fun j b hj => by simp at hj⟩
  · simp at hcs
    obtain ⟨rfl, rfl, rfl⟩ := hcs
    refine ⟨(List.range len).map B, by simp, fun j b hj => ⟨a, rfl, ?_⟩⟩
    have hjl := (List.getElem?_eq_some_iff.1 hj).1
    simp at hjl
    simp [hjl] at hj
    subst hj
    exact hcell j (by omega)

theorem open_bools' {A : Option Addr} {len cap : Nat} (h : DataW.Trod enc Try.prog W 0 (fun _ => true) true 29 (.slice A len cap) d p) : ∃ bs : List Bool, bs.length = len ∧ RowBools W A bs := by
  obtain ⟨fuel, h⟩ := h
  exact cells_bools h

theorem open_strs' {A : Option Addr} {len cap : Nat} (h : DataW.Trod enc Try.prog W 0 (fun _ => true) true 48 (.slice A len cap) d p) : ∃ xs : List ByteArray, xs.length = len ∧ RowStrs W A xs := by
  obtain ⟨fuel, h⟩ := h
  rcases open_slice1 Try.underlying48 (by kernel_rfl) h with ⟨hcs, _⟩ | ⟨a, l, c, m, n, V, D, Pl, hcs, _, hl, hm, hmm, _, hx⟩
  · simp [Value.cells] at hcs
    obtain ⟨rfl, rfl, rfl⟩ := hcs
    exact ⟨[], rfl, fun j b hj => by simp at hj⟩
  · simp [Value.cells] at hcs
    obtain ⟨rfl, rfl, rfl⟩ := hcs
    simp only [if_true] at hmm
    obtain ⟨l, hl', hq⟩ := list_of (α := ByteArray) (n := len) (q := fun i x => W.cell? (a.add i) = some (.string x)) (fun i hi => by
      obtain ⟨h1, h2⟩ := hx i (by omega)
      obtain ⟨x, e, _⟩ := DataW.trod_string Try.underlying9 h2
      simp at e
      exact ⟨x, by rw [h1, e]⟩)
    exact ⟨l, hl', fun j x hj => ⟨a, rfl, hq j x hj⟩⟩

instance : Inhabited Op := ⟨⟨0, 0, 0, ByteArray.empty, none, 0, []⟩⟩

theorem trod_struct5 {P : Program} {w : World} {base : Nat} {spare : Nat → Bool} {held : Bool} {t : TypeId} {f0 f1 f2 f3 f4 : Field} {fuel : Nat} {cs : List Value} {x : DataW H × List MemPlace} (ht : P.underlying t = some (.struct #[f0, f1, f2, f3, f4])) (h : DataW.trod enc P w base spare held fuel t cs = some x) :
    ∃ y0 y1 y2 y3 y4 n, x = (.agg [y0.1, y1.1, y2.1, y3.1, y4.1], y0.2 ++ (y1.2 ++ (y2.2 ++ (y3.2 ++ y4.2)))) ∧ cs.length = P.cellsOf t ∧ DataW.trod enc P w base spare held n f0.type ((cs.drop f0.offset).take (P.cellsOf f0.type)) = some y0 ∧
      DataW.trod enc P w base spare held n f1.type ((cs.drop f1.offset).take (P.cellsOf f1.type)) = some y1 ∧ DataW.trod enc P w base spare held n f2.type ((cs.drop f2.offset).take (P.cellsOf f2.type)) = some y2 ∧
      DataW.trod enc P w base spare held n f3.type ((cs.drop f3.offset).take (P.cellsOf f3.type)) = some y3 ∧ DataW.trod enc P w base spare held n f4.type ((cs.drop f4.offset).take (P.cellsOf f4.type)) = some y4 := by
  obtain ⟨xs, n, _, rfl, hl, hlen, hf⟩ := DataW.trod_struct ht h
  match xs, hlen with
  | [y0, y1, y2, y3, y4], _ => exact ⟨y0, y1, y2, y3, y4, n, by simp, hl, by simpa using hf 0 f0 rfl, by simpa using hf 1 f1 rfl, by simpa using hf 2 f2 rfl, by simpa using hf 3 f3 rfl, by simpa using hf 4 f4 rfl⟩

theorem open_ops {A : Option Addr} {len cap : Nat} (h : DataW.Trod enc Try.prog W 0 (fun _ => true) true 34 (.slice A len cap) d p) : ∃ os : List Op, os.length = len ∧ RowOps W A os := by
  obtain ⟨fuel, h⟩ := h
  rcases open_slice Try.underlying34 h with ⟨hcs, _⟩ | ⟨a, l, c, m, n, D, Pl, hcs, _, hl, hm, hmm, _, hx⟩
  · simp [Value.cells] at hcs
    obtain ⟨rfl, rfl, rfl⟩ := hcs
    exact ⟨[], rfl, fun j b hj => by simp at hj⟩
  · simp [Value.cells] at hcs
    obtain ⟨rfl, rfl, rfl⟩ := hcs
    simp only [if_true] at hmm
    have hC : Try.prog.cellsOf 36 = 5 := by kernel_rfl
    obtain ⟨l, hl', hq⟩ := list_of (α := Op) (n := len) (q := fun j o => W.cell? (a.add (j * 5)) = some (.int .i64 o.what) ∧ W.cell? (a.add (j * 5 + 1)) = some (.int .i64 o.d) ∧ W.cell? (a.add (j * 5 + 2)) = some (.int .i64 o.n) ∧ W.cell? (a.add (j * 5 + 3)) = some (.string o.s) ∧
        W.cell? (a.add (j * 5 + 4)) = some (.slice o.ka o.keep.length o.kc) ∧ RowBools W o.ka o.keep) (fun i hi => by
      obtain ⟨cs', h1, h2⟩ := hx i (by omega)
      rw [hC] at h1
      obtain ⟨_, hlen, hcell⟩ := World.cells?_some h1
      obtain ⟨y0, y1, y2, y3, y4, k, _, _, g0, g1, g2, g3, g4⟩ := trod_struct5 Try.underlying36 h2
      match cs', hlen with
      | [v0, v1, v2, v3, v4], _ =>
        have e0 := hcell 0 (by omega)
        have e1 := hcell 1 (by omega)
        have e2 := hcell 2 (by omega)
        have e3 := hcell 3 (by omega)
        have e4 := hcell 4 (by omega)
        rw [add_add] at e0 e1 e2 e3 e4
        have k3 : Try.prog.cellsOf 3 = 1 := by kernel_rfl
        have k9 : Try.prog.cellsOf 9 = 1 := by kernel_rfl
        have k29 : Try.prog.cellsOf 29 = 1 := by kernel_rfl
        simp only [k3, k9, k29, List.drop_zero, List.drop_succ_cons, List.take_succ_cons, List.take_zero] at g0 g1 g2 g3 g4
        obtain ⟨x0, e0', _⟩ := DataW.trod_int Try.underlying3 g0
        obtain ⟨x1, e1', _⟩ := DataW.trod_int Try.underlying3 g1
        obtain ⟨x2, e2', _⟩ := DataW.trod_int Try.underlying3 g2
        obtain ⟨x3, e3', _⟩ := DataW.trod_string Try.underlying9 g3
        simp at e0' e1' e2' e3'
        subst e0' e1' e2' e3'
        obtain ⟨ka, kl, kc, rfl, bs, hbl, hbs⟩ : ∃ ka kl kc, v4 = .slice ka kl kc ∧ ∃ bs : List Bool, bs.length = kl ∧ RowBools W ka bs := by
          rcases open_bools Try.underlying29 Try.underlying4 (by kernel_rfl) g4 with ⟨hcs, _⟩ | ⟨b, l, c, B, hcs, _⟩
          · simp at hcs
            subst hcs
            exact ⟨none, 0, 0, rfl, cells_bools g4⟩
          · simp at hcs
            subst hcs
            exact ⟨some b, l, c, rfl, cells_bools g4⟩
        exact ⟨⟨x0, x1, x2, x3, ka, kc, bs⟩, by simpa using e0, by simpa using e1, by simpa using e2, by simpa using e3, by simpa [hbl] using e4, hbs⟩)
    exact ⟨l, hl', fun j o hj => ⟨a, rfl, hq j o hj⟩⟩
end

theorem old_cell {w0 w : World} (hb : Below w0.heap.size w0 w) {p : Addr} {v : Value} (hc : w0.cell? p = some v) : w.cell? p = some v :=
  (hb.cell (World.block_lt_of_cell? w0 _ hc)).trans hc

theorem ops_at {w W : World} {A : Option Addr} {os : List Op} (h : RowOps w A os) (hb : Below w.heap.size w W) {k : Nat} {o : Op} (hk : os[k]? = some o) : ∃ ad, A = some ad ∧
    W.cell? (ad.add (k * 5)) = some (.int .i64 o.what) ∧ W.cell? ⟨(ad.add (k * 5)).block, (ad.add (k * 5)).off + 1, none⟩ = some (.int .i64 o.d) ∧ W.cell? ⟨(ad.add (k * 5)).block, (ad.add (k * 5)).off + 2, none⟩ = some (.int .i64 o.n) ∧ W.cell? ⟨(ad.add (k * 5)).block, (ad.add (k * 5)).off + 3, none⟩ = some (.string o.s) ∧
    W.cell? ⟨(ad.add (k * 5)).block, (ad.add (k * 5)).off + 4, none⟩ = some (.slice o.ka o.keep.length o.kc) := by
  obtain ⟨ad, e, h0, h1, h2, h3, h4, -⟩ := h k o hk
  refine ⟨ad, e, old_cell hb h0, ?_, ?_, ?_, ?_⟩
  · show W.cell? ((ad.add (k * 5)).add 1) = _
    rw [Deep.add_add]
    exact old_cell hb h1
  · show W.cell? ((ad.add (k * 5)).add 2) = _
    rw [Deep.add_add]
    exact old_cell hb h2
  · show W.cell? ((ad.add (k * 5)).add 3) = _
    rw [Deep.add_add]
    exact old_cell hb h3
  · show W.cell? ((ad.add (k * 5)).add 4) = _
    rw [Deep.add_add]
    exact old_cell hb h4

end Go.Proofs.Ytpmhjagmgjolmaa.Dk
