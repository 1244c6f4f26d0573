/-
  RupHoles: one of three clauses left out: by cases.
-/
import Derived.Test.YtjbljblhbmfbpaaPRupx8
namespace Go.Proofs.Ytjbljblhbmfbpaa.Pure
open Go.RowKit Go.Proofs.Ytjbljblhbmfbpaa.PRup Go.Proofs.YtjbljblhbmfbpaaW.PrintWords Go.Proofs.YtjbljblhbmfbpaaW.PrintLast

theorem t0 : manciplelaw16_RupHoles.f 0 = some true := by decide +kernel
theorem t1 : manciplelaw16_RupHoles.f 1 = some true := by decide +kernel
theorem t2 : manciplelaw16_RupHoles.f 2 = some true := by decide +kernel
/-- which of the three is left out is all that counts -/
theorem RupHoles : manciplelaw16_RupHoles.Pure := by
  intro a0 h
  have h2 : 0 ≤ a0 ∧ a0 ≤ 255 := by simp [Lit.wf] at h; exact h
  have hm : Int.tmod a0 3 = 0 ∨ Int.tmod a0 3 = 1 ∨ Int.tmod a0 3 = 2 := by
    rw [Int.tmod_eq_emod_of_nonneg h2.1]; omega
  rcases hm with e | e | e
  · rw [show manciplelaw16_RupHoles.f a0 = manciplelaw16_RupHoles.f 0 by unfold manciplelaw16_RupHoles.f; rw [e]; rfl]; exact t0
  · rw [show manciplelaw16_RupHoles.f a0 = manciplelaw16_RupHoles.f 1 by unfold manciplelaw16_RupHoles.f; rw [e]; rfl]; exact t1
  · rw [show manciplelaw16_RupHoles.f a0 = manciplelaw16_RupHoles.f 2 by unfold manciplelaw16_RupHoles.f; rw [e]; rfl]; exact t2

end Go.Proofs.Ytjbljblhbmfbpaa.Pure
