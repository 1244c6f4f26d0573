/-
  The contracts of rup.Check, rup.Follows and cnf.Same in the printed form: a plain function, and that the call comes to what it tells.
-/
import Derived.Test.YtjbljblhbmfbpaaRupG
namespace Go.Proofs.Ytjbljblhbmfbpaa
open Go.RowKit Prop15 Go.Proofs.YtjbljblhbmfbpaaW.PrintWords

def rup_Check.f (n : Int) (l p : List (List Int)) : Option (Int × Int) := if p.length ≤ 1000000 then some (rupChk n l p) else none
theorem rup_Check.calls (a0 : Int) (A1 : Option Addr) (c1 : Nat) (l1 : List (List Int)) (A2 : Option Addr) (c2 : Nat) (l2 : List (List Int)) (r1 r2 : Int) (w : World) (hr1 : Kd.C (Kd.slice 3 (Kd.int .i64)) w A1 l1.length l1) (hc1 : l1.length ≤ c1) (hr2 : Kd.C (Kd.slice 3 (Kd.int .i64)) w A2 l2.length l2) (_hc2 : l2.length ≤ c2) (h : rup_Check.f a0 l1 l2 = some (r1, r2)) :
    Calls Try.prog 27 #[.int .i64 a0, .slice A1 l1.length c1, .slice A2 l2.length c2] w fun e w' => e = .returned (.tuple #[.int .i64 r1, .int .i64 r2]) ∧ Below w.heap.size w w' := by
  unfold rup_Check.f at h
  split at h
  · rename_i hp
    have h2 : rupChk a0 l1 l2 = (r1, r2) := Option.some.inj h
    have := RCheck_any a0 A1 c1 l1 A2 c2 l2 w hr1 hc1 hr2 hp
    rw [h2] at this
    exact this
  · cases h

/-- may the arguments be taken? -/
def folOk (n : Int) (l : List (List Int)) (c : List Int) : Prop := 0 ≤ n ∧ n ≤ 1000000 ∧ c.length ≤ 1000000 ∧ (∀ c ∈ l, ∀ x ∈ c, lit (n.toNat + 1) x) ∧ ∀ x ∈ c, lit (n.toNat + 1) x
instance (n : Int) (l : List (List Int)) (c : List Int) : Decidable (folOk n l c) := by unfold folOk; infer_instance
def rup_Follows.f (n : Int) (l : List (List Int)) (c : List Int) : Option Bool := if folOk n l c then some (fol n.toNat l c) else none
theorem rup_Follows.calls (a0 : Int) (A1 : Option Addr) (c1 : Nat) (l1 : List (List Int)) (A2 : Option Addr) (c2 : Nat) (l2 : List Int) (r1 : Bool) (w : World) (hr1 : Kd.C (Kd.slice 3 (Kd.int .i64)) w A1 l1.length l1) (hc1 : l1.length ≤ c1) (hr2 : Kd.C (Kd.int .i64) w A2 l2.length l2) (_hc2 : l2.length ≤ c2) (h : rup_Follows.f a0 l1 l2 = some r1) :
    Calls Try.prog 32 #[.int .i64 a0, .slice A1 l1.length c1, .slice A2 l2.length c2] w fun e w' => e = .returned (.bool r1) ∧ Below w.heap.size w w' := by
  unfold rup_Follows.f at h
  split at h
  · rename_i hok
    obtain ⟨h0, h1, h2, h3, h4⟩ := hok
    obtain ⟨n, rfl⟩ : ∃ n : Nat, a0 = (n : Int) := ⟨a0.toNat, by omega⟩
    rw [Int.toNat_natCast] at h h3 h4
    have h5 : fol n l1 l2 = r1 := Option.some.inj h
    have := Follows_any n (by omega) A1 c1 l1 A2 c2 l2 w hr1 hc1 hr2 h2 h3 h4
    rw [h5] at this
    exact this
  · cases h

def cnf_Same.f (l p : List (List Int)) : Option Bool := some (l == p)
theorem cnf_Same.calls (A1 : Option Addr) (c1 : Nat) (l1 : List (List Int)) (A2 : Option Addr) (c2 : Nat) (l2 : List (List Int)) (r1 : Bool) (w : World) (hr1 : Kd.C (Kd.slice 3 (Kd.int .i64)) w A1 l1.length l1) (_hc1 : l1.length ≤ c1) (hr2 : Kd.C (Kd.slice 3 (Kd.int .i64)) w A2 l2.length l2) (_hc2 : l2.length ≤ c2) (h : cnf_Same.f l1 l2 = some r1) :
    Calls Try.prog 46 #[.slice A1 l1.length c1, .slice A2 l2.length c2] w fun e w' => e = .returned (.bool r1) ∧ Drawn0 w w' := by
  have h2 : (l1 == l2) = r1 := Option.some.inj h
  have := Same_any A1 c1 l1 A2 c2 l2 w hr1 hr2
  rw [h2] at this
  exact this
end Go.Proofs.Ytjbljblhbmfbpaa
