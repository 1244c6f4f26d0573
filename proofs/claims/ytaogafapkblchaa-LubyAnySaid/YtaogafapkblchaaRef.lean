/-
  The reference's own row: the call for a place from 1 to 2^31 - 1 tells the plain number. Conditions: the place is one of these.
-/
import Derived.Test.YtaogafapkblchaaHand
import Derived.Test.YtaogafapkblchaaWWords
namespace Go.Proofs.Ytaogafapkblchaa
open Go.RowKit Plain

theorem ref_luby (i : Nat) : ∀ (w : World), 1 ≤ i → i ≤ 2147483647 →
    Calls Try.prog 17 #[.int .i64 i] w fun e w' => e = .returned (.int .i64 (luby i)) ∧ w' = w := by
  induction i using Nat.strongRecOn with
  | ind i ih =>
  intro w h1 h2
  have hb31 : Lib.bitLen i ≤ 31 := Lib.bitLen_le i 31 (by omega) (by omega)
  have hbp := bl_pos i (by omega)
  have hlo := bl_low i (by omega)
  have hhi := bl_hi i (by omega)
  have hst := luby_eq i h1 (by omega)
  have hs2 := lub_step i h1 (by omega)
  obtain ⟨m, hm⟩ : ∃ m, Lib.bitLen i = m + 1 := ⟨Lib.bitLen i - 1, by omega⟩
  rw [hm] at hb31 hbp hlo hhi hst hs2
  rw [Nat.add_sub_cancel] at hlo hst hs2
  have e2 : (2 : Nat) ^ (m + 1) = 2 * 2 ^ m := by rw [Nat.pow_succ]; omega
  have p0 : 1 ≤ (2 : Nat) ^ m := Nat.one_le_two_pow
  have pm : (2 : Nat) ^ m ≤ 2 ^ 30 := Nat.pow_le_pow_right (by omega) (by omega)
  have IH := Lib.hid ih
  have HM := Lib.hid hm
  have HST := Lib.hid hst
  have HS2 := Lib.hid hs2
  have HE2 := Lib.hid e2
  have HHI := Lib.hid hhi
  clear ih hm hst hs2 e2 hhi
  have hm0 : (0 : Int) ≤ (m : Int) := by omega
  go_enter Try.func17, Try.ntmps17
  go_wp2_with fail
  go_loop [3] (fun t => ∃ j : Nat, 1 ≤ j ∧ j ≤ m + 1 ∧ t = .int .i64 j) (fun t => m + 1 - (intOf t).toNat)
  case atStart => exact ⟨1, Nat.le_refl _, hbp, rfl⟩
  case round =>
    obtain ⟨j, hj1, hj2, rfl⟩ := hrel
    by_cases hlt : j < m + 1
    · have pj : (2 : Nat) ^ j ≤ 2 ^ m := Nat.pow_le_pow_right (by omega) (by omega)
      have hc : decide (wrap64 (wrap64 (2 ^ j) - 1) < (i : Int)) = true := by
        rw [pow_in _ (by omega), decide_eq_true_eq]
        generalize (2 : Nat) ^ j = p at *
        generalize (2 : Nat) ^ m = q at *
        unfold wrap64; omega
      clear pj
      go_wp2_with fail
      exact ⟨⟨j + 1, by omega, by omega, by go_num⟩, by simp only [intOf]; omega⟩
    · obtain rfl : j = m + 1 := by omega
      have hc : decide (wrap64 (wrap64 (2 ^ (m + 1)) - 1) < (i : Int)) = false := by
        have a := HHI.out
        rw [pow_in _ (by omega), decide_eq_false_iff_not]
        rw [HE2.out] at a ⊢
        generalize (2 : Nat) ^ m = q at *
        unfold wrap64; omega
      by_cases he : i = 2 ^ (m + 1) - 1
      · have hcb : (wrap64 (wrap64 (2 ^ (m + 1)) - 1) == (i : Int)) = true := by
          rw [pow_in _ (by omega), beq_iff_eq]
          rw [HE2.out] at he ⊢
          generalize (2 : Nat) ^ m = q at *
          unfold wrap64; omega
        have HE := Lib.hid he
        clear he
        go_wp2_with fail
        go_ret
        refine ⟨?_, rfl⟩
        have := HST.out
        rw [if_pos HE.out] at this
        rw [this, pow_in m (by omega)]
        rfl
      · have hcb : (wrap64 (wrap64 (2 ^ (m + 1)) - 1) == (i : Int)) = false := by
          rw [pow_in _ (by omega), beq_eq_false_iff_ne]
          rw [HE2.out] at he ⊢
          generalize (2 : Nat) ^ m = q at *
          unfold wrap64; omega
        have HE := Lib.hid he
        clear he
        go_wp2_with fail
        have q := HS2.out HE.out
        have ea : wrap64 ((i : Int) - wrap64 (wrap64 (2 ^ m) - 1)) = ((i - (2 ^ m - 1) : Nat) : Int) := by
          rw [pow_in m (by omega)]
          generalize (2 : Nat) ^ m = r at *
          unfold wrap64; omega
        rw [ea]
        clear ea
        refine (IH.out (i - (2 ^ m - 1)) (by omega) _ (by omega) (by omega)).mono ?_
        rintro e w' ⟨rfl, rfl⟩
        clear q
        go_wp2_with fail
        go_ret
        refine ⟨?_, rfl⟩
        have := HST.out
        rw [if_neg HE.out] at this
        rw [this]
        rfl

def mancipleref20_luby.f (i : Int) : Option Int := if 1 ≤ i ∧ i ≤ 2147483647 then some (luby i.toNat : Int) else none
theorem mancipleref20_luby.calls (i r : Int) (w : World) (h : mancipleref20_luby.f i = some r) :
    Calls Try.prog 17 #[.int .i64 i] w fun e w' => e = .returned (.int .i64 r) ∧ Go.Proofs.YtaogafapkblchaaW.PrintWords.Drawn0 w w' := by
  unfold mancipleref20_luby.f at h
  split at h
  · simp only [Option.some.injEq] at h
    subst h
    have := ref_luby i.toNat w (by omega) (by omega)
    rw [Int.toNat_of_nonneg (by omega)] at this
    refine this.mono ?_
    rintro e w' ⟨rfl, rfl⟩
    exact ⟨rfl, .refl _⟩
  · cases h
end Go.Proofs.Ytaogafapkblchaa
