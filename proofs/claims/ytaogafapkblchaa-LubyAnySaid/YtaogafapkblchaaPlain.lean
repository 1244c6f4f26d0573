/-
  The plain law of the row: which number stands where, the sums, how many have come due; no program in sight. Conditions: places from 1 on, below 2^64.
-/
import Derived.Lib.BitFns
namespace Go.Proofs.Ytaogafapkblchaa.Plain

/-- the least n with i < 2^n is where bitLen stands -/
theorem bl_up : ∀ (f x : Nat), x < 2 ^ f → x < 2 ^ Lib.bitLenAux f x
  | 0, x, h => by simpa [Lib.bitLenAux] using h
  | f + 1, x, h => by
    simp only [Lib.bitLenAux]
    by_cases h0 : x = 0
    · simp [h0]
    · rw [if_neg h0]
      have := bl_up f (x / 2) (by rw [Nat.pow_succ] at h; omega)
      rw [Nat.add_comm, Nat.pow_succ]
      omega
theorem bl_lo : ∀ (f x : Nat), x ≠ 0 → 2 ^ (Lib.bitLenAux f x) ≤ 2 * x
  | 0, x, h => by simp [Lib.bitLenAux]; omega
  | f + 1, x, h => by
    simp only [Lib.bitLenAux, if_neg h]
    by_cases h1 : x / 2 = 0
    · rw [h1]
      have : Lib.bitLenAux f 0 = 0 := by cases f <;> simp [Lib.bitLenAux]
      rw [this]; simp; omega
    · have := bl_lo f (x / 2) h1
      rw [Nat.add_comm, Nat.pow_succ]; omega
theorem bl_pos (x : Nat) (h : x ≠ 0) : 1 ≤ Lib.bitLen x := by
  unfold Lib.bitLen
  simp only [Lib.bitLenAux, if_neg h]; omega
theorem bl_hi (x : Nat) (h : x < 2 ^ 64) : x < 2 ^ Lib.bitLen x := bl_up 64 x h
theorem bl_low (x : Nat) (h : x ≠ 0) : 2 ^ (Lib.bitLen x - 1) ≤ x := by
  have := bl_lo 64 x h
  have h1 := bl_pos x h
  unfold Lib.bitLen at *
  obtain ⟨m, hm⟩ : ∃ m, Lib.bitLenAux 64 x = m + 1 := ⟨_, (Nat.sub_add_cancel h1).symm⟩
  rw [hm] at this ⊢
  rw [Nat.pow_succ] at this
  simp; omega

def lub : Nat → Nat → Nat
  | 0, _ => 0
  | f + 1, i => if i = 2 ^ Lib.bitLen i - 1 then 2 ^ (Lib.bitLen i - 1) else lub f (i - (2 ^ (Lib.bitLen i - 1) - 1))
def luby (i : Nat) : Nat := lub i i

theorem bl_two (i : Nat) (h0 : 1 ≤ i) (h1 : i < 2 ^ 64) (h : ¬ i = 2 ^ Lib.bitLen i - 1) : 2 ≤ Lib.bitLen i := by
  have a := bl_hi i h1
  have b := bl_pos i (by omega)
  apply Classical.byContradiction
  intro hc
  have : Lib.bitLen i = 1 := by omega
  rw [this] at a h
  simp at a h
  omega
theorem lub_step (i : Nat) (h0 : 1 ≤ i) (h1 : i < 2 ^ 64) (h : ¬ i = 2 ^ Lib.bitLen i - 1) :
    1 ≤ 2 ^ (Lib.bitLen i - 1) - 1 ∧ 2 ^ (Lib.bitLen i - 1) ≤ i := by
  have a := bl_low i (by omega)
  have b := bl_two i h0 h1 h
  have : 2 ^ 1 ≤ 2 ^ (Lib.bitLen i - 1) := Nat.pow_le_pow_right (by omega) (by omega)
  omega
theorem lub_more : ∀ (f g i : Nat), 1 ≤ i → i < 2 ^ 64 → i ≤ f → i ≤ g → lub f i = lub g i
  | 0, _, i, h0, _, h2, _ => by omega
  | _, 0, i, h0, _, _, h3 => by omega
  | f + 1, g + 1, i, h0, h1, h2, h3 => by
    simp only [lub]
    by_cases h : i = 2 ^ Lib.bitLen i - 1
    · rw [if_pos h, if_pos h]
    · rw [if_neg h, if_neg h]
      have := lub_step i h0 h1 h
      exact lub_more f g _ (by omega) (by omega) (by omega) (by omega)
theorem luby_eq (i : Nat) (h0 : 1 ≤ i) (h1 : i < 2 ^ 64) :
    luby i = if i = 2 ^ Lib.bitLen i - 1 then 2 ^ (Lib.bitLen i - 1) else luby (i - (2 ^ (Lib.bitLen i - 1) - 1)) := by
  obtain ⟨k, rfl⟩ : ∃ k, i = k + 1 := ⟨i - 1, by omega⟩
  by_cases h : (k + 1) = 2 ^ Lib.bitLen (k + 1) - 1
  · rw [if_pos h]; unfold luby; rw [lub, if_pos h]
  · rw [if_neg h]
    have := lub_step (k + 1) h0 h1 h
    unfold luby
    rw [lub, if_neg h]
    exact lub_more _ _ _ (by omega) (by omega) (by omega) (by omega)


def lsum : Nat → Nat
  | 0 => 0
  | n + 1 => lsum n + luby (n + 1)

theorem lub_le : ∀ (f i : Nat), 1 ≤ i → i < 2 ^ 64 → lub f i ≤ i
  | 0, _, _, _ => Nat.zero_le _
  | f + 1, i, h0, h1 => by
    simp only [lub]
    split
    · exact bl_low i (by omega)
    · rename_i h
      have := lub_step i h0 h1 h
      exact Nat.le_trans (lub_le f _ (by omega) (by omega)) (by omega)
theorem luby_le (i : Nat) (h0 : 1 ≤ i) (h1 : i < 2 ^ 64) : luby i ≤ i := lub_le i i h0 h1
theorem lub_pos : ∀ (f i : Nat), 1 ≤ i → i < 2 ^ 64 → i ≤ f → 1 ≤ lub f i
  | 0, _, _, _, _ => by omega
  | f + 1, i, h0, h1, h2 => by
    simp only [lub]
    split
    · exact Nat.one_le_two_pow
    · rename_i h
      have := lub_step i h0 h1 h
      exact lub_pos f _ (by omega) (by omega) (by omega)
theorem luby_pos (i : Nat) (h0 : 1 ≤ i) (h1 : i < 2 ^ 64) : 1 ≤ luby i := lub_pos i i h0 h1 (Nat.le_refl _)
theorem lsum_ge : ∀ (n : Nat), n < 2 ^ 64 → n ≤ lsum n
  | 0, _ => Nat.zero_le _
  | n + 1, h => by
    have := lsum_ge n (by omega)
    have := luby_pos (n + 1) (by omega) h
    simp only [lsum]; omega
theorem lsum_le : ∀ (n : Nat), n ≤ 2097152 → lsum n ≤ n * 2097152
  | 0, _ => Nat.zero_le _
  | n + 1, h => by
    have := lsum_le n (by omega)
    have := luby_le (n + 1) (by omega) (by omega)
    simp only [lsum]; omega

/-- from n on: the first whose next one passes q -/
def dueF : Nat → Nat → Nat → Nat
  | 0, n, _ => n
  | f + 1, n, q => if lsum (n + 1) > q then n else dueF f (n + 1) q
def dueN (q : Nat) : Nat := dueF (q + 1) 0 q

theorem lsum_up {a b : Nat} (h : a ≤ b) : lsum a ≤ lsum b := by
  induction h with
  | refl => exact Nat.le_refl _
  | step _ ih => simp only [lsum]; omega
theorem dueF_eq : ∀ (f n q m : Nat), n ≤ m → m < n + f → lsum m ≤ q → q < lsum (m + 1) → dueF f n q = m
  | 0, n, q, m, h0, h1, _, _ => by omega
  | f + 1, n, q, m, h0, h1, h2, h3 => by
    simp only [dueF]
    by_cases e : n = m
    · subst e; rw [if_pos h3]
    · rw [if_neg (by have := lsum_up (a := n + 1) (b := m) (by omega); omega)]
      exact dueF_eq f (n + 1) q m (by omega) (by omega) h2 h3
theorem dueN_eq (q m : Nat) (hm : m < 2 ^ 64) (h2 : lsum m ≤ q) (h3 : q < lsum (m + 1)) : dueN q = m := by
  have := lsum_ge m hm
  exact dueF_eq _ _ _ _ (Nat.zero_le _) (by omega) h2 h3
theorem dueF_spec : ∀ (f n q : Nat), q < n + f → n + f < 2 ^ 64 → lsum n ≤ q → lsum (dueF f n q) ≤ q ∧ q < lsum (dueF f n q + 1)
  | 0, n, q, h, h1, h2 => by have := lsum_ge n (by omega); omega
  | f + 1, n, q, h, h1, h2 => by
    simp only [dueF]
    split
    · exact ⟨h2, by omega⟩
    · exact dueF_spec f (n + 1) q (by omega) (by omega) (by omega)
theorem dueN_spec (q : Nat) (h : q ≤ 1048576) : lsum (dueN q) ≤ q ∧ q < lsum (dueN q + 1) := dueF_spec _ _ _ (by omega) (by omega) (Nat.zero_le _)
theorem lub_pow : ∀ (f i : Nat), 1 ≤ i → i < 2 ^ 64 → i ≤ f → ∃ e, e < 64 ∧ lub f i = 2 ^ e
  | 0, _, _, _, _ => by omega
  | f + 1, i, h0, h1, h2 => by
    simp only [lub]
    split
    · have := Lib.bitLen_le i 64 (by omega) h1
      have := bl_pos i (by omega)
      exact ⟨Lib.bitLen i - 1, by omega, rfl⟩
    · rename_i h
      have := lub_step i h0 h1 h
      exact lub_pow f _ (by omega) (by omega) (by omega)
theorem luby_pow (i : Nat) (h0 : 1 ≤ i) (h1 : i < 2 ^ 64) : ∃ e, e < 64 ∧ luby i = 2 ^ e := lub_pow i i h0 h1 (Nat.le_refl _)

end Go.Proofs.Ytaogafapkblchaa.Plain
