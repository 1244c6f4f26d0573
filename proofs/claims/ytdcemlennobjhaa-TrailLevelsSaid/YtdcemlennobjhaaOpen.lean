/-
  An argument that is a slice of numbers, or a slice of such slices, opened as a list that the printed contracts read. Conditions: the types are such slices.
-/
import Derived.Test.YtdcemlennobjhaaWWords
import Derived.Deep.Matrix
import Derived.ChangeSlices
set_option linter.unusedVariables false
set_option linter.unusedSimpArgs false
namespace Go.Proofs.Ytdcemlennobjhaa
open Go.ChangeShapes Go.WideShapes Go.RowKit Go.Deep Go.Proofs.YtdcemlennobjhaaW.PrintWords

section
variable {H : Type} {enc : TypeId × Value → H} {P : Program} {W : World} {base : Nat} {held : Bool}

theorem C_of_cells {k : IntKind} {x : Addr} {len : Nat} {zs : List Int} (hl : zs.length = len) (hm : len ≤ maxLen) (hc : ∀ i, i < len → W.cell? (x.add i) = some (.int k (zs.getD i 0))) : Kd.C (Kd.int k) W (some x) len zs := by
  refine ⟨hl, by simpa [maxLen] using hm, fun _ => ⟨x, rfl, fun j p hj => ⟨[.int k p], rfl, rfl, fun i u hu => ?_⟩⟩⟩
  have hj' : j < len := by
    rw [← hl]
    exact (List.getElem?_eq_some_iff.mp hj).1
  cases i with
  | zero =>
    simp only [List.getElem?_cons_zero, Option.some.injEq] at hu
    subst hu
    have := hc j hj'
    rw [List.getD_eq_getElem?_getD, hj] at this
    simpa [Kd.int, Kd.scalar] using this
  | succ i => simp at hu

theorem take_getD (zs : List Int) (len i : Nat) (h : i < len) : (zs.take len).getD i 0 = zs.getD i 0 := by
  simp [List.getD_eq_getElem?_getD, List.getElem?_take, h]

theorem open_C_ints {t e : TypeId} {k : IntKind} {A : Option Addr} {len cap : Nat} {d : DataW H} {ps : List MemPlace} (ht : P.underlying t = some (.slice e)) (he : P.underlying e = some (.int k)) (ce : P.cellsOf e = 1)
    (h : DataW.Trod enc P W base (fun _ => true) held t (.slice A len cap) d ps) : ∃ zs : List Int, zs.length = len ∧ len ≤ cap ∧ Kd.C (Kd.int k) W A zs.length zs ∧ ∀ n ∈ zs, (Lit.int k n).wf = true := by
  obtain ⟨fuel, hf⟩ := h
  rcases open_ints ht he ce hf with ⟨hcs, _⟩ | ⟨x, l, c, zs, hcs, _, hl, hm, hz, _, hcell, hwz⟩
  · simp [Value.cells] at hcs
    obtain ⟨rfl, rfl, rfl⟩ := hcs
    exact ⟨[], rfl, Nat.le_refl _, Kd.C_nil _ _, by simp⟩
  · simp [Value.cells] at hcs
    obtain ⟨rfl, rfl, rfl⟩ := hcs
    simp only [if_true] at hz
    have hlen : (zs.take len).length = len := by rw [List.length_take, hz]; omega
    refine ⟨zs.take len, hlen, hl, ?_, fun n hn => hwz n (List.mem_of_mem_take hn)⟩
    rw [hlen]
    exact C_of_cells hlen (Nat.le_trans hl hm) (fun i hi => by rw [take_getD _ _ _ hi]; exact hcell i (by omega))

theorem open_C_rows {t e q : TypeId} {k : IntKind} {A : Option Addr} {len cap : Nat} {d : DataW H} {ps : List MemPlace} (ht : P.underlying t = some (.slice e)) (he : P.underlying e = some (.slice q)) (hq : P.underlying q = some (.int k)) (ce : P.cellsOf e = 1) (cq : P.cellsOf q = 1)
    (h : DataW.Trod enc P W base (fun _ => true) held t (.slice A len cap) d ps) : ∃ zs : List (List Int), zs.length = len ∧ len ≤ cap ∧ Kd.C (Kd.slice q (Kd.int k)) W A zs.length zs ∧ (∀ r ∈ zs, ∀ n ∈ r, (Lit.int k n).wf = true) ∧
      ((A = none ∧ zs = []) ∨ ∃ (x : Addr) (Ar : Nat → Option Addr) (L : Nat → Nat) (Z : Nat → List Int), d = .slice ((List.range len).map fun r => intRow k (Ar r) (L r) (Z r)) ((List.range (cap - len)).map fun j => intRow k (Ar (len + j)) (L (len + j)) (Z (len + j))) ∧ (∀ r, r < len → L r ≤ (Z r).length ∧ (Ar r = none → (Z r).length = 0)) ∧ zs = (List.range len).map fun r => (Z r).take (L r)) := by
  obtain ⟨fuel, hf⟩ := h
  rcases open_int_rows ht he hq ce cq hf with ⟨hcs, _⟩ | ⟨x, l, c, Ar, L, C, Z, hcs, _, hl, hm, hx, hr⟩
  · simp [Value.cells] at hcs
    obtain ⟨rfl, rfl, rfl⟩ := hcs
    exact ⟨[], rfl, Nat.le_refl _, Kd.C_nil _ _, by simp, .inl ⟨rfl, rfl⟩⟩
  · simp [Value.cells] at hcs
    obtain ⟨rfl, rfl, rfl⟩ := hcs
    have hlen : ((List.range len).map fun r => (Z r).take (L r)).length = len := by simp
    refine ⟨(List.range len).map fun r => (Z r).take (L r), hlen, hl, ?_, ?_, .inr ⟨x, Ar, L, Z, (Prod.mk.inj hx).1, ?_, rfl⟩⟩
    · rw [hlen]
      refine ⟨hlen, by have : len ≤ maxLen := Nat.le_trans hl hm; simpa [maxLen] using this, fun _ => ⟨x, rfl, fun j p hj => ?_⟩⟩
      have hj' : j < len := by
        have := (List.getElem?_eq_some_iff.mp hj).1
        rwa [hlen] at this
      obtain ⟨r1, r2, r3, r4, r5, r6, r7⟩ := hr j (by omega)
      simp only [List.getElem?_map, List.getElem?_range hj', Option.map_some, Option.some.injEq] at hj
      have hpl : p.length = L j := by rw [← hj, List.length_take]; omega
      refine ⟨[.slice (Ar j) (L j) (C j)], rfl, ⟨Ar j, C j, by rw [hpl], by rw [hpl]; exact r2, ?_⟩, fun i u hu => ?_⟩
      · rw [hpl]
        cases hA : Ar j with
        | none =>
          have h0 := r6 hA
          have : L j = 0 := by omega
          have hp0 : p = [] := List.eq_nil_of_length_eq_zero (by omega)
          subst hp0
          rw [this]
          exact Kd.C_nil _ _
        | some a' =>
          have h7 := (r7 a' hA).2
          refine C_of_cells hpl (Nat.le_trans r2 r3) (fun i hi => ?_)
          rw [← hj, take_getD _ _ _ hi]
          exact h7 i (by omega)
      · cases i with
        | zero =>
          simp only [List.getElem?_cons_zero, Option.some.injEq] at hu
          subst hu
          simpa [Kd.slice] using r1
        | succ i => simp at hu
    · intro r hr' n hn
      obtain ⟨j, hj, rfl⟩ := List.mem_map.mp hr'
      exact (hr j (by have := List.mem_range.mp hj; omega)).2.2.2.2.1 n (List.mem_of_mem_take hn)
    · intro r hr'
      obtain ⟨r1, r2, r3, r4, r5, r6, r7⟩ := hr r (by omega)
      exact ⟨by omega, fun h => by have := r6 h; omega⟩
end
end Go.Proofs.Ytdcemlennobjhaa
