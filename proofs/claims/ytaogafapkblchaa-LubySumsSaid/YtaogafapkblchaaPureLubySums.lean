/-
  The sums of the row, at every k and n: the first 2^k - 1 add up to k by 2^(k - 1), each sum is the one ahead and one more. No conditions.
-/
import Derived.Test.YtaogafapkblchaaPLubySumsx1
namespace Go.Proofs.Ytaogafapkblchaa.Pure
open Go.RowKit Go.Proofs.Ytaogafapkblchaa.PLubySums Go.Proofs.YtaogafapkblchaaW.PrintWords Go.Proofs.YtaogafapkblchaaW.PrintLast Go.Proofs.YtaogafapkblchaaW.PrintMore
open Plain

theorem known_true : manciplelaw20_known.f 17 = some true := by decide +kernel
theorem sums12 : ∀ k : Fin 12, lsum (2 ^ (k.val + 1) - 1) = (k.val + 1) * 2 ^ k.val := by decide +kernel
theorem at_f (m : Nat) (h0 : 1 ≤ m) (h1 : m ≤ 2147483647) : luby_At.f (m : Int) = some ((luby m : Int), 0) := by
  unfold luby_At.f; rw [if_pos (by omega)]; rfl
theorem sum_f (m : Nat) (h1 : m ≤ 1048576) : luby_Sum.f (m : Int) = some ((lsum m : Int), 0) := by
  unfold luby_Sum.f; rw [if_pos (by omega)]; rfl

theorem LubySums : manciplelaw20_LubySums.Pure := by
  intro a0 a1 h0 h1
  refine ⟨17, ?_⟩
  have b0 : 0 ≤ a0 ∧ a0 ≤ 255 := by simpa [Lit.wf, IntKind.min, IntKind.max, IntKind.signed, IntKind.bits] using h0
  have b1 : 0 ≤ a1 ∧ a1 ≤ 65535 := by simpa [Lit.wf, IntKind.min, IntKind.max, IntKind.signed, IntKind.bits] using h1
  obtain ⟨k, hk⟩ : ∃ k : Nat, a0.tmod 12 = (k : Int) := ⟨(a0.tmod 12).toNat, by rw [Int.tmod_eq_emod_of_nonneg b0.1]; omega⟩
  obtain ⟨m, hm⟩ : ∃ k : Nat, a1.tmod 4000 = (k : Int) := ⟨(a1.tmod 4000).toNat, by rw [Int.tmod_eq_emod_of_nonneg b1.1]; omega⟩
  have hk12 : k < 12 := by rw [Int.tmod_eq_emod_of_nonneg b0.1] at hk; omega
  have hm4 : m < 4000 := by rw [Int.tmod_eq_emod_of_nonneg b1.1] at hm; omega
  have e1 : wrap64 (1 + wrap64 (a0.tmod 12)) = ((k + 1 : Nat) : Int) := by rw [hk]; unfold wrap64; omega
  have e2 : wrap64 (1 + wrap64 (a1.tmod 4000)) = ((m + 1 : Nat) : Int) := by rw [hm]; unfold wrap64; omega
  have e3 : wrap64 (((m + 1 : Nat) : Int) - 1) = (m : Int) := by unfold wrap64; omega
  have e4 : wrap64 (((k + 1 : Nat) : Int) - 1) = (k : Int) := by unfold wrap64; omega
  have u (n : Nat) (h : n ≤ 100) : IntKind.u64.wrap (n : Int) = n := IntWalk.u64_in _ (by omega)
  have s (n : Nat) (h : n ≤ 12) : shl .i64 1 (n : Int) = ((2 ^ n : Nat) : Int) := by
    unfold shl
    have h1 : (2 : Nat) ^ n ≤ 2 ^ 12 := Nat.pow_le_pow_right (by omega) h
    have hb : IntKind.bits .i64 = 64 := rfl
    rw [hb, Nat.min_eq_left (by omega), Int.toNat_natCast, Int.one_mul]
    have : (2 : Int) ^ n = ((2 ^ n : Nat) : Int) := by simp
    rw [this]
    generalize (2 : Nat) ^ n = p at h1
    exact IntWalk.i64_in _ (by omega)
  have p12 : (2 : Nat) ^ (k + 1) ≤ 2 ^ 12 := Nat.pow_le_pow_right (by omega) (by omega)
  have p0 : 1 ≤ (2 : Nat) ^ (k + 1) := Nat.one_le_two_pow
  have pk : (2 : Nat) ^ k ≤ 2 ^ 12 := Nat.pow_le_pow_right (by omega) (by omega)
  have e5 : wrap64 (((2 ^ (k + 1) : Nat) : Int) - 1) = ((2 ^ (k + 1) - 1 : Nat) : Int) := by
    generalize (2 : Nat) ^ (k + 1) = p at *
    unfold wrap64; omega
  have q := sums12 ⟨k, hk12⟩
  simp only at q
  have e6 : wrap64 (((k + 1 : Nat) : Int) * ((2 ^ k : Nat) : Int)) = (((k + 1) * 2 ^ k : Nat) : Int) := by
    have : ((k + 1 : Nat) : Int) * ((2 ^ k : Nat) : Int) = (((k + 1) * 2 ^ k : Nat) : Int) := by simp
    rw [this]
    have : (k + 1) * 2 ^ k ≤ 12 * 2 ^ 12 := Nat.mul_le_mul (by omega) pk
    generalize (k + 1) * 2 ^ k = r at *
    unfold wrap64; omega
  have l1 := lsum_le m (by omega)
  have l2 := luby_le (m + 1) (by omega) (by omega)
  have e7 : wrap64 ((lsum m : Int) + (luby (m + 1) : Int)) = ((lsum (m + 1) : Nat) : Int) := by simp only [lsum]; unfold wrap64; omega
  unfold manciplelaw20_LubySums.f
  rw [known_true]
  simp only [Option.bind_some, if_true, e1, e2, e3, e4, u (k + 1) (by omega), u k (by omega), s (k + 1) (by omega), s k (by omega), e5, at_f (m + 1) (by omega) (by omega), sum_f (m + 1) (by omega), sum_f m (by omega)]
  rw [sum_f _ (by omega)]
  simp only [Option.bind_some, e6, q, e7]
  rw [if_pos (by omega), if_pos (by decide +kernel), if_pos (by omega)]
  simp

end Go.Proofs.Ytaogafapkblchaa.Pure
