/-
  The contract of prop.Close in the printed form: a plain function, and that the call comes to what it tells. Conditions: those in which the plain function tells something: up to a million variables, each literal one of these.
-/
import Derived.Test.YtjbljblhbmfbpaaCloseC
namespace Go.Proofs.Ytjbljblhbmfbpaa
open Go.RowKit Prop15 Go.Proofs.YtjbljblhbmfbpaaW.PrintWords

/-- may the arguments be taken? -/
def closeOk (n : Int) (l : List (List Int)) (lits : List Int) : Prop := 0 ≤ n ∧ n ≤ 1000000 ∧ (∀ c ∈ l, ∀ x ∈ c, lit (n.toNat + 1) x) ∧ ∀ x ∈ lits, lit (n.toNat + 1) x
instance (n : Int) (l : List (List Int)) (lits : List Int) : Decidable (closeOk n l lits) := by unfold closeOk; infer_instance
def closeTells : Option (List Int) → List Int × Bool
  | none => ([], true)
  | some m => (outF 0 m, false)
def prop_Close.f (n : Int) (l : List (List Int)) (lits : List Int) : Option (List Int × Bool) :=
  if closeOk n l lits then some (closeTells (close n.toNat l lits)) else none

theorem prop_Close.calls (a0 : Int) (A1 : Option Addr) (c1 : Nat) (l1 : List (List Int)) (A2 : Option Addr) (c2 : Nat) (l2 : List Int) (r1 : List Int) (r2 : Bool) (w : World) (hr1 : Kd.C (Kd.slice 3 (Kd.int .i64)) w A1 l1.length l1) (hc1 : l1.length ≤ c1) (hr2 : Kd.C (Kd.int .i64) w A2 l2.length l2) (hc2 : l2.length ≤ c2) (h : prop_Close.f a0 l1 l2 = some (r1, r2)) :
    Calls Try.prog 15 #[.int .i64 a0, .slice A1 l1.length c1, .slice A2 l2.length c2] w fun e w' => ∃ v0_ : Value, e = .returned (.tuple #[v0_, .bool r2]) ∧ Kd.R (Kd.int .i64) 3 w' w.heap.size (fun _ => True) v0_ r1 ∧ Below w.heap.size w w' := by
  unfold prop_Close.f at h
  split at h
  · rename_i hok
    obtain ⟨h0, h1, h2, h3⟩ := hok
    obtain ⟨n, rfl⟩ : ∃ n : Nat, a0 = (n : Int) := ⟨a0.toNat, by omega⟩
    rw [Int.toNat_natCast] at h h2 h3
    refine (Close_any n (by omega) A1 c1 l1 A2 c2 l2 w hr1 hc1 hr2 hc2 h2 h3).mono ?_
    intro e w' he
    cases hcl : close n l1 l2 with
    | none =>
      rw [hcl] at he h
      simp only [closeTells, Option.some.injEq, Prod.mk.injEq] at h
      obtain ⟨rfl, rfl⟩ := h
      exact he
    | some m =>
      rw [hcl] at he h
      simp only [closeTells, Option.some.injEq, Prod.mk.injEq] at h
      obtain ⟨rfl, rfl⟩ := h
      exact he
  · cases h
end Go.Proofs.Ytjbljblhbmfbpaa
