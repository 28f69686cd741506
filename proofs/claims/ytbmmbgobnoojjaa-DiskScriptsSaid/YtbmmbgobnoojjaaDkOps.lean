/- What a law of layer 9 is given, read: rows of truths, of texts, of calls. -/
import Derived.Test.YtbmmbgobnoojjaaDk8
import Derived.Deep.Slices
import Derived.Deep.Grids
import Derived.Deep.Strs
import Derived.Lib.SmallJoins
import Derived.WideShapes
namespace Go.Proofs.Ytbmmbgobnoojjaa.Dk
open Go.RowKit Go.ChangeShapes Go.WideShapes Go.Deep Go.Joins

/-- A call of a script. -/
structure Op where
  what : Int
  n : Int
  s : ByteArray
  ka : Option Addr
  kc : Nat
  keep : List Bool

def RowBools (W : World) (A : Option Addr) (bs : List Bool) : Prop := ∀ (j : Nat) b, bs[j]? = some b → ∃ ad, A = some ad ∧ W.cell? (ad.add j) = some (.bool b)
def RowStrs (W : World) (A : Option Addr) (xs : List ByteArray) : Prop := ∀ (j : Nat) x, xs[j]? = some x → ∃ ad, A = some ad ∧ W.cell? (ad.add j) = some (.string x)
def RowOps (W : World) (A : Option Addr) (os : List Op) : Prop := ∀ (j : Nat) o, os[j]? = some o → ∃ ad, A = some ad ∧
  W.cell? (ad.add (j * 4)) = some (.int .i64 o.what) ∧ W.cell? (ad.add (j * 4 + 1)) = some (.int .i64 o.n) ∧ W.cell? (ad.add (j * 4 + 2)) = some (.string o.s) ∧
  W.cell? (ad.add (j * 4 + 3)) = some (.slice o.ka o.keep.length o.kc) ∧ RowBools W o.ka o.keep

section
variable {H : Type} {enc : TypeId × Value → H} {W : World} {d : DataW H} {p : List MemPlace}

theorem list_of {α : Type} [Inhabited α] {n : Nat} {q : Nat → α → Prop} (h : ∀ i, i < n → ∃ x, q i x) : ∃ l : List α, l.length = n ∧ ∀ (j : Nat) x, l[j]? = some x → q j x := by
  obtain ⟨f, hf⟩ := choose_lt h
  refine ⟨(List.range n).map f, by simp, fun j x hj => ?_⟩
  have hl := (List.getElem?_eq_some_iff.1 hj).1
  simp at hl
  simp [hl] at hj
  subst hj
  exact hf j hl

theorem cells_bools {fuel : Nat} {A : Option Addr} {len cap : Nat} {x : DataW H × List MemPlace} (h : DataW.trod enc Try.prog W 0 (fun _ => true) true fuel 29 [.slice A len cap] = some x) : ∃ bs : List Bool, bs.length = len ∧ RowBools W A bs := by
  rcases open_bools Try.underlying29 Try.underlying4 (by kernel_rfl) h with ⟨hcs, _⟩ | ⟨a, l, c, B, hcs, _, hl, hm, _, hcell⟩
  · simp at hcs
    obtain ⟨rfl, rfl, rfl⟩ := hcs
    exact ⟨[], rfl, fun j b hj => by simp at hj⟩
  · simp at hcs
    obtain ⟨rfl, rfl, rfl⟩ := hcs
    refine ⟨(List.range len).map B, by simp, fun j b hj => ⟨a, rfl, ?_⟩⟩
    have hjl := (List.getElem?_eq_some_iff.1 hj).1
    simp at hjl
    simp [hjl] at hj
    subst hj
    exact hcell j (by omega)

theorem open_bools' {A : Option Addr} {len cap : Nat} (h : DataW.Trod enc Try.prog W 0 (fun _ => true) true 29 (.slice A len cap) d p) : ∃ bs : List Bool, bs.length = len ∧ RowBools W A bs := by
  obtain ⟨fuel, h⟩ := h
  exact cells_bools h

theorem open_strs' {A : Option Addr} {len cap : Nat} (h : DataW.Trod enc Try.prog W 0 (fun _ => true) true 39 (.slice A len cap) d p) : ∃ xs : List ByteArray, xs.length = len ∧ RowStrs W A xs := by
  obtain ⟨fuel, h⟩ := h
  rcases open_slice1 Try.underlying39 (by kernel_rfl) h with ⟨hcs, _⟩ | ⟨a, l, c, m, n, V, D, Pl, hcs, _, hl, hm, hmm, _, hx⟩
  · simp [Value.cells] at hcs
    obtain ⟨rfl, rfl, rfl⟩ := hcs
    exact ⟨[], rfl, fun j b hj => by simp at hj⟩
  · simp [Value.cells] at hcs
    obtain ⟨rfl, rfl, rfl⟩ := hcs
    simp only [if_true] at hmm
    obtain ⟨l, hl', hq⟩ := list_of (α := ByteArray) (n := len) (q := fun i x => W.cell? (a.add i) = some (.string x)) (fun i hi => by
      obtain ⟨h1, h2⟩ := hx i (by omega)
      obtain ⟨x, e, _⟩ := DataW.trod_string Try.underlying9 h2
      simp at e
      exact ⟨x, by rw [h1, e]⟩)
    exact ⟨l, hl', fun j x hj => ⟨a, rfl, hq j x hj⟩⟩

instance : Inhabited Op := ⟨⟨0, 0, ByteArray.empty, none, 0, []⟩⟩

theorem open_ops {A : Option Addr} {len cap : Nat} (h : DataW.Trod enc Try.prog W 0 (fun _ => true) true 22 (.slice A len cap) d p) : ∃ os : List Op, os.length = len ∧ RowOps W A os := by
  obtain ⟨fuel, h⟩ := h
  rcases open_slice Try.underlying22 h with ⟨hcs, _⟩ | ⟨a, l, c, m, n, D, Pl, hcs, _, hl, hm, hmm, _, hx⟩
  · simp [Value.cells] at hcs
    obtain ⟨rfl, rfl, rfl⟩ := hcs
    exact ⟨[], rfl, fun j b hj => by simp at hj⟩
  · simp [Value.cells] at hcs
    obtain ⟨rfl, rfl, rfl⟩ := hcs
    simp only [if_true] at hmm
    have hC : Try.prog.cellsOf 31 = 4 := by kernel_rfl
    obtain ⟨l, hl', hq⟩ := list_of (α := Op) (n := len) (q := fun j o => W.cell? (a.add (j * 4)) = some (.int .i64 o.what) ∧ W.cell? (a.add (j * 4 + 1)) = some (.int .i64 o.n) ∧ W.cell? (a.add (j * 4 + 2)) = some (.string o.s) ∧
        W.cell? (a.add (j * 4 + 3)) = some (.slice o.ka o.keep.length o.kc) ∧ RowBools W o.ka o.keep) (fun i hi => by
      obtain ⟨cs', h1, h2⟩ := hx i (by omega)
      rw [hC] at h1
      obtain ⟨_, hlen, hcell⟩ := World.cells?_some h1
      obtain ⟨y0, y1, y2, y3, k, _, _, g0, g1, g2, g3⟩ := trod_struct4 Try.underlying31 h2
      match cs', hlen with
      | [v0, v1, v2, v3], _ =>
        have e0 := hcell 0 (by omega)
        have e1 := hcell 1 (by omega)
        have e2 := hcell 2 (by omega)
        have e3 := hcell 3 (by omega)
        rw [add_add] at e0 e1 e2 e3
        have k3 : Try.prog.cellsOf 3 = 1 := by kernel_rfl
        have k9 : Try.prog.cellsOf 9 = 1 := by kernel_rfl
        have k29 : Try.prog.cellsOf 29 = 1 := by kernel_rfl
        simp only [k3, k9, k29, List.drop_zero, List.drop_succ_cons, List.take_succ_cons, List.take_zero] at g0 g1 g2 g3
        obtain ⟨x0, e0', _⟩ := DataW.trod_int Try.underlying3 g0
        obtain ⟨x1, e1', _⟩ := DataW.trod_int Try.underlying3 g1
        obtain ⟨x2, e2', _⟩ := DataW.trod_string Try.underlying9 g2
        simp at e0' e1' e2'
        subst e0' e1' e2'
        obtain ⟨ka, kl, kc, rfl, bs, hbl, hbs⟩ : ∃ ka kl kc, v3 = .slice ka kl kc ∧ ∃ bs : List Bool, bs.length = kl ∧ RowBools W ka bs := by
          rcases open_bools Try.underlying29 Try.underlying4 (by kernel_rfl) g3 with ⟨hcs, _⟩ | ⟨b, l, c, B, hcs, _⟩
          · simp at hcs
            subst hcs
            exact ⟨none, 0, 0, rfl, cells_bools g3⟩
          · simp at hcs
            subst hcs
            exact ⟨some b, l, c, rfl, cells_bools g3⟩
        exact ⟨⟨x0, x1, x2, ka, kc, bs⟩, by simpa using e0, by simpa using e1, by simpa using e2, by simpa [hbl] using e3, hbs⟩)
    exact ⟨l, hl', fun j o hj => ⟨a, rfl, hq j o hj⟩⟩
end

end Go.Proofs.Ytbmmbgobnoojjaa.Dk
