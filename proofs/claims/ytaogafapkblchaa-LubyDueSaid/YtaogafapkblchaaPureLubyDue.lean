/-
  How often to begin anew has come due, at every place and unit. No conditions.
-/
import Derived.Test.YtaogafapkblchaaPLubyDuex1
namespace Go.Proofs.Ytaogafapkblchaa.Pure
open Go.RowKit Go.Proofs.Ytaogafapkblchaa.PLubyDue Go.Proofs.YtaogafapkblchaaW.PrintWords Go.Proofs.YtaogafapkblchaaW.PrintLast Go.Proofs.YtaogafapkblchaaW.PrintMore
open Plain

theorem known_true : manciplelaw20_known.f 17 = some true := by decide +kernel
theorem sum_f (m : Nat) (h1 : m ≤ 1048576) : luby_Sum.f (m : Int) = some ((lsum m : Int), 0) := by
  unfold luby_Sum.f; rw [if_pos (by omega)]; rfl
theorem due_f (c u : Nat) (h : c ≤ 1048576) (h1 : 1 ≤ u) (h2 : u ≤ 1048576) : luby_Due.f (c : Int) (u : Int) = some ((dueN (c / u) : Int), 0) := by
  unfold luby_Due.f; rw [if_pos (by omega)]; rfl
theorem due_f0 (u : Nat) (h1 : 1 ≤ u) (h2 : u ≤ 1048576) : luby_Due.f 0 (u : Int) = some (0, 0) := by
  unfold luby_Due.f; rw [if_pos (by omega)]
  have : dueN (Int.toNat 0 / Int.toNat (u : Int)) = 0 := by
    rw [Int.toNat_zero, Nat.zero_div]
    exact dueN_eq 0 0 (by omega) (Nat.le_refl _) (by decide +kernel)
  rw [this]; rfl
theorem small256 : lsum 257 ≤ 2000 := by decide +kernel

theorem w_sub (r : Nat) (h1 : 1 ≤ r) (h2 : r ≤ 100000) : wrap64 ((r : Int) - 1) = ((r - 1 : Nat) : Int) := by unfold wrap64; omega
theorem w_id (r : Nat) (h2 : r ≤ 100000) : wrap64 (r : Int) = (r : Int) := by unfold wrap64; omega
theorem due_at (n u : Nat) (h : n < 1000) (hu : 1 ≤ u) : dueN (lsum n * u / u) = n := by
  rw [Nat.mul_div_cancel _ (by omega)]
  have := luby_pos (n + 1) (by omega) (by omega)
  exact dueN_eq _ _ (by omega) (Nat.le_refl _) (by rw [lsum]; omega)
theorem due_below (n u : Nat) (h : n < 1000) : dueN ((lsum (n + 1) * (u + 1) - 1) / (u + 1)) = n := by
  have l1 := luby_pos (n + 1) (by omega) (by omega)
  have l2 := lsum_ge (n + 1) (by omega)
  have : (lsum (n + 1) * (u + 1) - 1) / (u + 1) = lsum (n + 1) - 1 := by
    obtain ⟨r, hr⟩ : ∃ r, lsum (n + 1) = r + 1 := ⟨lsum (n + 1) - 1, by omega⟩
    rw [hr, Nat.add_mul, Nat.one_mul, show r * (u + 1) + (u + 1) - 1 = u + r * (u + 1) by omega, Nat.add_mul_div_right _ _ (by omega), Nat.div_eq_of_lt (by omega)]
    omega
  rw [this]
  have e : lsum (n + 1) = lsum n + luby (n + 1) := rfl
  exact dueN_eq _ _ (by omega) (by omega) (by omega)

theorem z0 : wrap64 (wrap64 (wrap64 (0 + 0) + 0) + 0) = 0 := by decide +kernel
theorem core (a1 : Int) (n m S r : Nat) (e1 : wrap64 (1 + wrap64 (n : Int)) = ((n + 1 : Nat) : Int)) (e2 : wrap64 (1 + wrap64 (a1.tmod 50)) = ((m + 1 : Nat) : Int)) (e3 : wrap64 (((n + 1 : Nat) : Int) - 1) = (n : Int))
    (hS : luby_Sum.f ((n + 1 : Nat) : Int) = some ((S : Int), 0)) (e4 : wrap64 ((S : Int) * ((m + 1 : Nat) : Int)) = (r : Int)) (e5 : wrap64 ((r : Int) - 1) = ((r - 1 : Nat) : Int))
    (f1 : luby_Due.f (r : Int) ((m + 1 : Nat) : Int) = some (((n + 1 : Nat) : Int), 0)) (f2 : luby_Due.f ((r - 1 : Nat) : Int) ((m + 1 : Nat) : Int) = some ((n : Int), 0)) (f3 : luby_Due.f 0 ((m + 1 : Nat) : Int) = some (0, 0)) :
    manciplelaw20_LubyDue.f 17 (n : Int) a1 = some true := by
  unfold manciplelaw20_LubyDue.f
  rw [known_true, Option.bind_some, if_pos rfl, e1, e2, hS, Option.bind_some]
  dsimp only
  rw [e4, e5, f1, f2, f3, Option.bind_some, Option.bind_some, Option.bind_some]
  dsimp only
  rw [if_pos z0, if_pos rfl, e3, if_pos rfl]
  rfl
theorem bounds (n m : Nat) (hn : n ≤ 255) (hm : m < 50) : 1 ≤ lsum (n + 1) * (m + 1) ∧ lsum (n + 1) * (m + 1) ≤ 100000 := by
  have l1 := lsum_ge (n + 1) (by omega)
  have l2 := Nat.le_trans (lsum_up (a := n + 1) (b := 257) (by omega)) small256
  exact ⟨Nat.le_trans (show 1 ≤ 1 * (m + 1) by omega) (Nat.mul_le_mul (by omega) (Nat.le_refl _)), Nat.mul_le_mul l2 (show m + 1 ≤ 50 by omega)⟩
theorem mul_in (S m r : Nat) (h : S * (m + 1) = r) (hr : r ≤ 100000) : wrap64 ((S : Int) * ((m + 1 : Nat) : Int)) = (r : Int) := by
  have : (S : Int) * ((m + 1 : Nat) : Int) = ((S * (m + 1) : Nat) : Int) := by simp
  rw [this, h]
  exact w_id _ hr
theorem due1 (n m r : Nat) (hn : n ≤ 255) (hm : m < 50) (h : lsum (n + 1) * (m + 1) = r) (hr : r ≤ 100000) : luby_Due.f (r : Int) ((m + 1 : Nat) : Int) = some (((n + 1 : Nat) : Int), 0) := by
  rw [due_f _ _ (by omega) (by omega) (by omega), ← h, due_at (n + 1) (m + 1) (by omega) (by omega)]
theorem due2 (n m r : Nat) (hn : n ≤ 255) (hm : m < 50) (h : lsum (n + 1) * (m + 1) = r) (hr : r ≤ 100000) : luby_Due.f ((r - 1 : Nat) : Int) ((m + 1 : Nat) : Int) = some ((n : Int), 0) := by
  rw [due_f _ _ (by omega) (by omega) (by omega), ← h, due_below n m (by omega)]

theorem LubyDue : manciplelaw20_LubyDue.Pure := by
  intro a0 a1 h0 h1
  have b0 : 0 ≤ a0 ∧ a0 ≤ 255 := by simpa [Lit.wf, IntKind.min, IntKind.max, IntKind.signed, IntKind.bits] using h0
  have b1 : 0 ≤ a1 ∧ a1 ≤ 255 := by simpa [Lit.wf, IntKind.min, IntKind.max, IntKind.signed, IntKind.bits] using h1
  obtain ⟨n, rfl⟩ : ∃ n : Nat, a0 = (n : Int) := ⟨a0.toNat, by omega⟩
  obtain ⟨m, hm⟩ : ∃ k : Nat, a1.tmod 50 = (k : Int) := ⟨(a1.tmod 50).toNat, by rw [Int.tmod_eq_emod_of_nonneg b1.1]; omega⟩
  have hm4 : m < 50 := by rw [Int.tmod_eq_emod_of_nonneg b1.1] at hm; omega
  have hn : n ≤ 255 := by omega
  obtain ⟨r, hr⟩ : ∃ r, lsum (n + 1) * (m + 1) = r := ⟨_, rfl⟩
  have hb := bounds n m hn hm4
  rw [hr] at hb
  exact ⟨17, core a1 n m (lsum (n + 1)) r (by unfold wrap64; omega) (by rw [hm]; unfold wrap64; omega) (by unfold wrap64; omega) (sum_f (n + 1) (by omega)) (mul_in _ _ _ hr hb.2) (w_sub r hb.1 hb.2) (due1 n m r hn hm4 hr hb.2) (due2 n m r hn hm4 hr hb.2) (due_f0 _ (by omega) (by omega))⟩

end Go.Proofs.Ytaogafapkblchaa.Pure
