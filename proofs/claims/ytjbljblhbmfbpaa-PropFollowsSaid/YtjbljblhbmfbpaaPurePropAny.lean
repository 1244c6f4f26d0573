/-
  Any clauses, any literals: the program tells what the reference tells, and the clauses of one literal are the same. No conditions.
-/
import Derived.Test.YtjbljblhbmfbpaaPureClose
namespace Go.Proofs.Ytjbljblhbmfbpaa.Pure
open Go.RowKit Go.Proofs.Ytjbljblhbmfbpaa.PProp Go.Proofs.YtjbljblhbmfbpaaW.PrintWords Go.Proofs.YtjbljblhbmfbpaaW.PrintLast Go.Proofs.YtjbljblhbmfbpaaW.PrintMore
open Prop15

theorem known_true : manciplelaw15_known.f 20 = some true := by decide +kernel
theorem known_at (k : Nat) (h : 20 ≤ k) : manciplelaw15_known.f k = some true := at_rounds manciplelaw15_known.mono h known_true
theorem lit_of {n x : Int} (h0 : 0 ≤ n) (h : x ≠ 0 ∧ x ≤ n ∧ -n ≤ x) : lit (n.toNat + 1) x := ⟨h.1, by omega, by omega⟩
theorem Pc_eq (n : Int) (l : List (List Int)) (lits : List Int) (h0 : 0 ≤ n) (h1 : n ≤ 256) (hl : ∀ c ∈ l, okClause n c) (hv : ∀ x ∈ lits, x ≠ 0 ∧ x ≤ n ∧ -n ≤ x) :
    prop_Close.f n l lits = some (closeTells (close n.toNat l lits)) := by
  unfold prop_Close.f
  rw [if_pos ⟨h0, by omega, fun c hc x hx => lit_of h0 ((hl c hc).2 x hx), fun x hx => lit_of h0 (hv x hx)⟩]
theorem out_len : ∀ (m : List Int) (i : Nat), (outF i m).length ≤ m.length
  | [], _ => Nat.le_refl _
  | v :: r, i => by
    have := out_len r (i + 1)
    simp only [outF]
    split <;> simp <;> omega
theorem iter_row {n : Nat} (l : List (List Int)) (hc : ∀ c ∈ l, ∀ x ∈ c, lit (n + 1) x) : ∀ (f : Nat) (m m' : List Int), Row (n + 1) m → iter l f m = some m' → Row (n + 1) m'
  | 0, m, m', hr, h => by simp only [iter, Option.some.injEq] at h; rw [← h]; exact hr
  | f + 1, m, m', hr, h => by
    simp only [iter] at h
    obtain ⟨⟨m1, q⟩, h1, h2⟩ := Option.bind_eq_some_iff.mp h
    have hf := (pass_facts l hr hc h1).1
    cases q with
    | true => exact iter_row l hc f m1 m' hf h2
    | false => simp at h2; rw [← h2]; exact hf
theorem close_row {n : Nat} {l : List (List Int)} {lits m : List Int} (hc : ∀ c ∈ l, ∀ x ∈ c, lit (n + 1) x) (hv : ∀ x ∈ lits, lit (n + 1) x) (h : close n l lits = some m) : Row (n + 1) m := by
  unfold close at h
  obtain ⟨m1, h1, h2⟩ := Option.bind_eq_some_iff.mp h
  exact iter_row l hc _ _ _ (puts_facts lits (Row.zero n) hv h1) h2
theorem tells_len {n : Nat} {l : List (List Int)} {lits : List Int} (hc : ∀ c ∈ l, ∀ x ∈ c, lit (n + 1) x) (hv : ∀ x ∈ lits, lit (n + 1) x) : (closeTells (close n l lits)).1.length ≤ n + 1 := by
  cases h : close n l lits with
  | none => exact Nat.zero_le _
  | some m =>
    have := (close_row hc hv h).len
    have := out_len m 0
    simp only [closeTells]; omega

def PropAnyPure : Prop := ∀ (a0 : Int) (l1 : List (List Int)) (l2 : List Int), ∃ k, manciplelaw15_PropAny.f k a0 l1 l2 = some true
theorem PropAny : PropAnyPure := by
  intro n l lits
  refine ⟨500001, ?_⟩
  unfold manciplelaw15_PropAny.f
  rw [known_at _ (by omega), Option.bind_some, if_pos rfl]
  obtain ⟨b1, hb1, hq1⟩ := Small_any n 256 l 500001 (by omega)
  rw [hb1, Option.bind_some]
  cases b1 with
  | false => simp [manciplelaw15_PropAny.j0]
  | true =>
    obtain ⟨h0, h1, _, hl, hc⟩ := hq1 rfl
    obtain ⟨b2, hb2, hq2⟩ := Lits_any n lits 500001 (by omega) h0 h1
    rw [if_pos rfl, hb2, Option.bind_some]
    cases b2 with
    | false => simp [manciplelaw15_PropAny.j0]
    | true =>
      obtain ⟨hll, hv⟩ := hq2 rfl
      have hc' : ∀ c ∈ l, ∀ x ∈ c, lit (n.toNat + 1) x := fun c hcc x hx => lit_of h0 ((hc c hcc).2 x hx)
      have hv' : ∀ x ∈ lits, lit (n.toNat + 1) x := fun x hx => lit_of h0 (hv x hx)
      have hcl := Close_eq (n := n.toNat) (by omega) l (by omega) (fun c hcc => ⟨(hc c hcc).1, hc' c hcc⟩) lits (by omega) hv' 500000 (by omega)
      rw [Int.toNat_of_nonneg h0] at hcl
      have hlen := tells_len hc' hv'
      have hu := unitsOf_le l
      simp only [manciplelaw15_PropAny.j0, Bool.not_true, Bool.false_eq_true, if_false]
      rw [To_eq l 500000 (by omega) (fun c hcc => by have := (hc c hcc).1; omega) (by omega), Option.bind_some, Pc_eq n l lits h0 h1 hc hv, Option.bind_some, hcl, Option.bind_some,
        if_pos (by simp), Ints_eq _ _ (by omega) (by omega), Option.bind_some, if_pos rfl, Option.bind_some, UA_eq l _ (by omega) (by omega), Option.bind_some, UB_eq l _ (by omega) (by omega), Option.bind_some, Ints_eq _ _ (by omega) (by omega), Option.bind_some]

end Go.Proofs.Ytjbljblhbmfbpaa.Pure
