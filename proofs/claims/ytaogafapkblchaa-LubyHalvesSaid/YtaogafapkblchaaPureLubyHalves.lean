/-
  Each number of the row is a power of two, and the row up to one less than that stands twice ahead of it, at any place. No conditions.
-/
import Derived.Test.YtaogafapkblchaaPLubyHalvesx1
namespace Go.Proofs.Ytaogafapkblchaa.Pure
open Go.RowKit Go.Proofs.Ytaogafapkblchaa.PLubyHalves Go.Proofs.YtaogafapkblchaaW.PrintWords Go.Proofs.YtaogafapkblchaaW.PrintLast Go.Proofs.YtaogafapkblchaaW.PrintMore
open Plain

theorem known_true : manciplelaw20_known.f 17 = some true := by decide +kernel
theorem known_at (k : Nat) (h : 17 ≤ k) : manciplelaw20_known.f k = some true := at_rounds manciplelaw20_known.mono h known_true
theorem at_f (m : Nat) (h0 : 1 ≤ m) (h1 : m ≤ 2147483647) : luby_At.f (m : Int) = some ((luby m : Int), 0) := by
  unfold luby_At.f; rw [if_pos (by omega)]; rfl
theorem w_double (p : Nat) (h : p ≤ 4294967296) : wrap64 (2 * (p : Int)) = ((2 * p : Nat) : Int) := by unfold wrap64; omega
theorem w_less (p : Nat) (h0 : 1 ≤ p) (h : p ≤ 4294967296) : wrap64 ((p : Int) - 1) = ((p - 1 : Nat) : Int) := by unfold wrap64; omega

/-- the second loop: from 2^j on, j not past the length in bits -/
theorem second (i a : Nat) (h0 : 1 ≤ i) (h1 : i ≤ 65536) (ha : a = luby i) : ∀ (d k j : Nat), j + d = Lib.bitLen i → d < k →
    manciplelaw20_LubyHalves.l1 k i a ((2 ^ j : Nat) : Int) = some true := by
  have hbl : Lib.bitLen i ≤ 17 := Lib.bitLen_le i 17 (by omega) (by omega)
  have hlo := bl_low i (by omega)
  have hhi := bl_hi i (by omega)
  have hp := bl_pos i (by omega)
  intro d
  induction d with
  | zero =>
    intro k j hj hk
    obtain ⟨k, rfl⟩ : ∃ m, k = m + 1 := ⟨k - 1, by omega⟩
    obtain ⟨m, rfl⟩ : ∃ m, j = m + 1 := ⟨j - 1, by omega⟩
    have hm : m + 1 = Lib.bitLen i := hj
    have hst := luby_eq i h0 (by omega)
    have hs2 := lub_step i h0 (by omega)
    rw [← hm] at hst hlo hhi hs2
    rw [Nat.add_sub_cancel] at hst hlo hs2
    have p17 : (2 : Nat) ^ (m + 1) ≤ 2 ^ 17 := Nat.pow_le_pow_right (by omega) (by omega)
    have e : (2 : Nat) ^ (m + 1) = 2 * 2 ^ m := by rw [Nat.pow_succ]; omega
    have p0 : 1 ≤ (2 : Nat) ^ m := Nat.one_le_two_pow
    have et : wrap64 (Int.tdiv ((2 ^ (m + 1) : Nat) : Int) 2) = ((2 ^ m : Nat) : Int) := by
      rw [e]; generalize (2 : Nat) ^ m = p at *
      rw [Int.tdiv_eq_ediv_of_nonneg (by omega)]; unfold wrap64; omega
    simp only [manciplelaw20_LubyHalves.l1]
    rw [w_less _ (by omega) (by omega), if_neg (by omega)]
    by_cases hc : i = 2 ^ (m + 1) - 1
    · rw [if_pos (by omega), et]
      rw [if_pos hc] at hst
      rw [ha, hst]; simp
    · rw [if_neg (by omega), et, w_less _ p0 (by omega)]
      have hs3 := hs2 hc
      have e2 : wrap64 ((i : Int) - ((2 ^ m - 1 : Nat) : Int)) = ((i - (2 ^ m - 1) : Nat) : Int) := by
        generalize (2 : Nat) ^ m = p at *
        unfold wrap64; omega
      rw [e2, at_f _ (by omega) (by omega)]
      rw [if_neg hc] at hst
      rw [ha, hst]; simp
  | succ d ih =>
    intro k j hj hk
    obtain ⟨k, rfl⟩ : ∃ m, k = m + 1 := ⟨k - 1, by omega⟩
    have hjl : (2 : Nat) ^ j ≤ 2 ^ (Lib.bitLen i - 1) := Nat.pow_le_pow_right (by omega) (by omega)
    have p0 : 1 ≤ (2 : Nat) ^ j := Nat.one_le_two_pow
    simp only [manciplelaw20_LubyHalves.l1]
    rw [w_less _ p0 (by omega), if_pos (by omega), w_double _ (by omega)]
    have := ih k (j + 1) (by omega) (by omega)
    rw [Nat.pow_succ, Nat.mul_comm] at this
    exact this

/-- the first loop: from 2^j on, j not past what the number is a power of -/
theorem first (i a e : Nat) (h0 : 1 ≤ i) (h1 : i ≤ 65536) (ha : a = luby i) (he : a = 2 ^ e) (he17 : e ≤ 17) : ∀ (d k j : Nat), j + d = e → d + 20 < k →
    manciplelaw20_LubyHalves.l0 k i a ((2 ^ j : Nat) : Int) = some true := by
  have hbl : Lib.bitLen i ≤ 17 := Lib.bitLen_le i 17 (by omega) (by omega)
  intro d
  induction d with
  | zero =>
    intro k j hj hk
    obtain ⟨k, rfl⟩ : ∃ m, k = m + 1 := ⟨k - 1, by omega⟩
    obtain rfl : j = e := hj
    simp only [manciplelaw20_LubyHalves.l0]
    rw [he, if_neg (by omega), if_pos rfl, ← he]
    exact second i a h0 h1 ha (Lib.bitLen i) k 0 (by omega) (by omega)
  | succ d ih =>
    intro k j hj hk
    obtain ⟨k, rfl⟩ : ∃ m, k = m + 1 := ⟨k - 1, by omega⟩
    have hjl : (2 : Nat) ^ (j + 1) ≤ 2 ^ e := Nat.pow_le_pow_right (by omega) (by omega)
    have h17 : (2 : Nat) ^ e ≤ 2 ^ 17 := Nat.pow_le_pow_right (by omega) (by omega)
    have p0 : 1 ≤ (2 : Nat) ^ j := Nat.one_le_two_pow
    have := ih k (j + 1) (by omega) (by omega)
    rw [Nat.pow_succ] at this hjl
    simp only [manciplelaw20_LubyHalves.l0]
    rw [if_pos (by rw [he]; omega), w_double _ (by omega), Nat.mul_comm]
    exact this

theorem LubyHalves : manciplelaw20_LubyHalves.Pure := by
  intro a0 h0
  refine ⟨60, ?_⟩
  have b0 : 0 ≤ a0 ∧ a0 ≤ 65535 := by simpa [Lit.wf, IntKind.min, IntKind.max, IntKind.signed, IntKind.bits] using h0
  obtain ⟨n, rfl⟩ : ∃ n : Nat, a0 = (n : Int) := ⟨a0.toNat, by omega⟩
  have e1 : wrap64 (1 + wrap64 (n : Int)) = ((n + 1 : Nat) : Int) := by unfold wrap64; omega
  have l1 := luby_le (n + 1) (by omega) (by omega)
  have l2 := luby_pos (n + 1) (by omega) (by omega)
  obtain ⟨e, _, he⟩ := luby_pow (n + 1) (by omega) (by omega)
  have he17 : e ≤ 17 := by
    apply Classical.byContradiction; intro hc
    have : (2 : Nat) ^ 18 ≤ 2 ^ e := Nat.pow_le_pow_right (by omega) (by omega)
    omega
  unfold manciplelaw20_LubyHalves.f
  rw [known_at 60 (by omega)]
  simp only [Option.bind_some, if_true, e1]
  rw [at_f (n + 1) (by omega) (by omega)]
  simp only [Option.bind_some, if_true]
  rw [show (60 : Nat) = 59 + 1 from rfl]
  simp only [manciplelaw20_LubyHalves.j0]
  rw [if_neg (by simp; omega)]
  exact first (n + 1) (luby (n + 1)) e (by omega) (by omega) rfl he he17 e 59 0 (by omega) (by omega)

end Go.Proofs.Ytaogafapkblchaa.Pure
