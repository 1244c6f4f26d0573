/-
  An argument that is a slice of bools, opened as a list that the printed contracts read. Conditions: the type is such a slice.
-/
import Derived.Test.YtdcemlennobjhaaOpen
import Derived.Deep.Grids
set_option linter.unusedVariables false
set_option linter.unusedSimpArgs false
namespace Go.Proofs.Ytdcemlennobjhaa
open Go.ChangeShapes Go.WideShapes Go.RowKit Go.Deep Go.Proofs.YtdcemlennobjhaaW.PrintWords
section
variable {H : Type} {enc : TypeId × Value → H} {P : Program} {W : World} {base : Nat} {held : Bool}
theorem C_of_bools {x : Addr} {len : Nat} {zs : List Bool} (hl : zs.length = len) (hm : len ≤ maxLen) (hc : ∀ i, i < len → W.cell? (x.add i) = some (.bool (zs.getD i false))) : Kd.C Kd.bool W (some x) len zs := by
  refine ⟨hl, by simpa [maxLen] using hm, fun _ => ⟨x, rfl, fun j p hj => ⟨[.bool p], rfl, rfl, fun i u hu => ?_⟩⟩⟩
  have hj' : j < len := by
    rw [← hl]
    exact (List.getElem?_eq_some_iff.mp hj).1
  cases i with
  | zero =>
    simp only [List.getElem?_cons_zero, Option.some.injEq] at hu
    subst hu
    have := hc j hj'
    rw [List.getD_eq_getElem?_getD, hj] at this
    simpa [Kd.bool, Kd.scalar] using this
  | succ i => simp at hu
theorem open_C_bools {t e : TypeId} {A : Option Addr} {len cap : Nat} {d : DataW H} {ps : List MemPlace} (ht : P.underlying t = some (.slice e)) (he : P.underlying e = some .bool) (ce : P.cellsOf e = 1)
    (h : DataW.Trod enc P W base (fun _ => true) held t (.slice A len cap) d ps) : ∃ zs : List Bool, zs.length = len ∧ len ≤ cap ∧ Kd.C Kd.bool W A zs.length zs := by
  obtain ⟨fuel, hf⟩ := h
  rcases open_bools ht he ce hf with ⟨hcs, _⟩ | ⟨x, l, c, B, hcs, _, hl, hm, _, hcell⟩
  · simp [Value.cells] at hcs
    obtain ⟨rfl, rfl, rfl⟩ := hcs
    exact ⟨[], rfl, Nat.le_refl _, Kd.C_nil _ _⟩
  · simp [Value.cells] at hcs
    obtain ⟨rfl, rfl, rfl⟩ := hcs
    have hlen : ((List.range len).map B).length = len := by simp
    refine ⟨(List.range len).map B, hlen, hl, ?_⟩
    rw [hlen]
    refine C_of_bools hlen (Nat.le_trans hl hm) (fun i hi => ?_)
    rw [hcell i (by omega)]
    simp [List.getD_eq_getElem?_getD, hi]
end
end Go.Proofs.Ytdcemlennobjhaa
