/-
  The lengths of the rows of an argument that is a slice of slices of numbers, by the weights the row of the law bounds.
-/
import Derived.Test.YtjbljblhbmfbpaaOpen
import Derived.SizedLaws
namespace Go.Proofs.Ytjbljblhbmfbpaa
open Go.ChangeShapes Go.WideShapes Go.RowKit Go.Deep Go.Proofs.YtjbljblhbmfbpaaW.PrintWords
theorem weightsAll_mem {H : Type} {P : Program} {e : TypeId} : ∀ {ds : List (DataW H)} {d : DataW H}, d ∈ ds → ∀ n ∈ d.weights P e, n ∈ DataW.weightsAll P e ds
  | [], _, hd, _, _ => by cases hd
  | x :: r, d, hd, n, hn => by
    simp only [DataW.weightsAll, List.mem_append]
    rcases List.mem_cons.1 hd with rfl | hd
    · exact .inl hn
    · exact .inr (weightsAll_mem hd n hn)
theorem rows_sized {H : Type} {P : Program} {ts : List TypeId} {ds : List (DataW H)} (h : (DataW.weightsEach P ts ds).all (· ≤ reachBytes) = true) {j : Nat} {t e q : TypeId} {k : IntKind} {d : DataW H} {A : Option Addr} {len cap : Nat} {zs : List (List Int)}
    (ht : ts[j]? = some t) (hd : ds[j]? = some d) (hu : P.underlying t = some (.slice e)) (he : P.underlying e = some (.slice q)) (hb : P.bytesOf q = 8)
    (hx : (A = none ∧ zs = []) ∨ ∃ (_x : Addr) (Ar : Nat → Option Addr) (L : Nat → Nat) (Z : Nat → List Int), d = .slice ((List.range len).map fun r => intRow k (Ar r) (L r) (Z r)) ((List.range (cap - len)).map fun j => intRow k (Ar (len + j)) (L (len + j)) (Z (len + j))) ∧ (∀ r, r < len → L r ≤ (Z r).length ∧ (Ar r = none → (Z r).length = 0)) ∧ zs = (List.range len).map fun r => (Z r).take (L r)) :
    ∀ c ∈ zs, c.length < 17592186044416 := by
  intro c hc
  rcases hx with ⟨_, rfl⟩ | ⟨x, Ar, L, Z, rfl, hl, rfl⟩
  · cases hc
  · obtain ⟨r, hr, rfl⟩ := List.mem_map.1 hc
    have hr' := List.mem_range.1 hr
    obtain ⟨h1, h2⟩ := hl r hr'
    rw [List.length_take]
    cases hA : Ar r with
    | none => have := h2 hA; omega
    | some a =>
      have hmem : intRow k (Ar r) (L r) (Z r) ∈ (List.range len).map fun r => intRow (H := H) k (Ar r) (L r) (Z r) := List.mem_map.2 ⟨r, hr, rfl⟩
      have hw := weightsAll_mem (P := P) (e := e) hmem
      have hz : (Z r).length * 8 ∈ (intRow (H := H) k (Ar r) (L r) (Z r)).weights P e := by
        rw [hA]
        simp [intRow, DataW.weights, he, hb, lits]
        left
        omega
      have hin := DataW.weights_mem_each (P := P) ht hd ((Z r).length * 8) (by
        simp only [DataW.weights, hu, List.mem_cons, List.mem_append]
        exact Or.inr (Or.inl (hw _ hz)))
      have := List.all_eq_true.1 h _ hin
      have hb2 := reachBytes_lt
      simp at this
      omega
end Go.Proofs.Ytjbljblhbmfbpaa
