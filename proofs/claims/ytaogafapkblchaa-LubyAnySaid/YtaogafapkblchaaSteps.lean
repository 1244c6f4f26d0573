/-
  The contracts of package luby's three functions in one form: a plain function each, and that the call comes to what it tells. No conditions.
-/
import Derived.Test.YtaogafapkblchaaHand
namespace Go.Proofs.Ytaogafapkblchaa
open Go.RowKit Plain

def luby_At.f (i : Int) : Option (Int × Int) := if 1 ≤ i ∧ i ≤ 2147483647 then some ((luby i.toNat : Int), 0) else some (0, 1)
def luby_Sum.f (n : Int) : Option (Int × Int) := if 0 ≤ n ∧ n ≤ 1048576 then some ((lsum n.toNat : Int), 0) else some (0, 1)
def luby_Due.f (c u : Int) : Option (Int × Int) := if 0 ≤ c ∧ c ≤ 1048576 ∧ 1 ≤ u ∧ u ≤ 1048576 then some ((dueN (c.toNat / u.toNat) : Int), 0) else some (0, 1)

theorem luby_At.calls (i r1 r2 : Int) (w : World) (h : luby_At.f i = some (r1, r2)) :
    Calls Try.prog 8 #[.int .i64 i] w fun e w' => e = .returned (.tuple #[.int .i64 r1, .int .i64 r2]) ∧ Below w.heap.size w w' := by
  unfold luby_At.f at h
  split at h
  · rename_i hc
    simp only [Option.some.injEq, Prod.mk.injEq] at h
    obtain ⟨rfl, rfl⟩ := h
    have := At_yes i.toNat w (by omega) (by omega)
    rw [Int.toNat_of_nonneg (by omega)] at this
    exact this
  · simp only [Option.some.injEq, Prod.mk.injEq] at h
    obtain ⟨rfl, rfl⟩ := h
    exact At_no i w (by omega)
theorem luby_Sum.calls (n r1 r2 : Int) (w : World) (h : luby_Sum.f n = some (r1, r2)) :
    Calls Try.prog 10 #[.int .i64 n] w fun e w' => e = .returned (.tuple #[.int .i64 r1, .int .i64 r2]) ∧ Below w.heap.size w w' := by
  unfold luby_Sum.f at h
  split at h
  · rename_i hc
    simp only [Option.some.injEq, Prod.mk.injEq] at h
    obtain ⟨rfl, rfl⟩ := h
    have := Sum_yes n.toNat w (by omega)
    rw [Int.toNat_of_nonneg (by omega)] at this
    exact this
  · simp only [Option.some.injEq, Prod.mk.injEq] at h
    obtain ⟨rfl, rfl⟩ := h
    exact Sum_no n w (by omega)
theorem luby_Due.calls (c u r1 r2 : Int) (w : World) (h : luby_Due.f c u = some (r1, r2)) :
    Calls Try.prog 12 #[.int .i64 c, .int .i64 u] w fun e w' => e = .returned (.tuple #[.int .i64 r1, .int .i64 r2]) ∧ Below w.heap.size w w' := by
  unfold luby_Due.f at h
  split at h
  · rename_i hc
    simp only [Option.some.injEq, Prod.mk.injEq] at h
    obtain ⟨rfl, rfl⟩ := h
    have := Due_yes c.toNat u.toNat w (by omega) (by omega) (by omega)
    rw [Int.toNat_of_nonneg (show 0 ≤ c by omega), Int.toNat_of_nonneg (show 0 ≤ u by omega)] at this
    exact this
  · simp only [Option.some.injEq, Prod.mk.injEq] at h
    obtain ⟨rfl, rfl⟩ := h
    exact Due_no c u w (by omega)

end Go.Proofs.Ytaogafapkblchaa
