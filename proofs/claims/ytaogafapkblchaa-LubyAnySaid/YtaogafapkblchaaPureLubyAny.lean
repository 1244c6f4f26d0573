/-
  Any place in the row, any sum, any number of conflicts and unit: the program tells what the reference tells. No conditions.
-/
import Derived.Test.YtaogafapkblchaaPLubyAnyx2
namespace Go.Proofs.Ytaogafapkblchaa.Pure
open Go.RowKit Go.Proofs.Ytaogafapkblchaa.PLubyAny Go.Proofs.YtaogafapkblchaaW.PrintWords Go.Proofs.YtaogafapkblchaaW.PrintLast Go.Proofs.YtaogafapkblchaaW.PrintMore
open Plain

theorem known_true : manciplelaw20_known.f 17 = some true := by decide +kernel
theorem known_at (k : Nat) (h : 17 ≤ k) : manciplelaw20_known.f k = some true := at_rounds manciplelaw20_known.mono h known_true
theorem w_id (r : Nat) (h2 : r ≤ 4611686018427387904) : wrap64 (r : Int) = (r : Int) := by unfold wrap64; omega
theorem w_up (r : Nat) (h2 : r ≤ 4611686018427387904) : wrap64 ((r : Int) + 1) = ((r + 1 : Nat) : Int) := by unfold wrap64; omega
theorem w_add (a b : Nat) (h1 : a ≤ 4611686018427387904) (h2 : b ≤ 4294967296) : wrap64 ((a : Int) + (b : Int)) = ((a + b : Nat) : Int) := by unfold wrap64; omega
theorem w_add2 (a b : Nat) (h1 : a ≤ 1048576) (h2 : b ≤ 1048576 * 2097152) : wrap64 ((a : Int) + (b : Int)) = ((a + b : Nat) : Int) := by unfold wrap64; omega
theorem big_in (b : Nat) (h2 : b ≤ 1048576 * 2097152) : b ≤ 4611686018427387904 := Nat.le_trans h2 (by decide)
theorem w_mul (a b r : Nat) (h : a * b = r) (hr : r ≤ 4611686018427387904) : wrap64 ((a : Int) * (b : Int)) = (r : Int) := by
  have : (a : Int) * (b : Int) = ((a * b : Nat) : Int) := by simp
  rw [this, h]; exact w_id r hr
theorem ref_f (m : Nat) (h0 : 1 ≤ m) (h1 : m ≤ 2147483647) : mancipleref20_luby.f (m : Int) = some (luby m : Int) := by
  unfold mancipleref20_luby.f; rw [if_pos (by omega)]; rfl

theorem Luby_eq (a : Int) : mancipleref20_Luby.f a = luby_At.f a := by
  unfold mancipleref20_Luby.f luby_At.f
  by_cases h1 : a < 1
  · rw [if_pos h1, if_neg (by omega)]
  · rw [if_neg h1]
    by_cases h2 : a > 2147483647
    · rw [if_pos h2, if_neg (by omega)]
    · rw [if_neg h2, if_pos (by omega)]
      have := ref_f a.toNat (by omega) (by omega)
      rw [Int.toNat_of_nonneg (by omega)] at this
      rw [this]; rfl

theorem sum_loop (n : Nat) (hn : n ≤ 1048576) : ∀ (d k j : Nat), j + d = n → d < k →
    mancipleref20_LubySum.l0 k (n : Int) (lsum j : Int) ((j + 1 : Nat) : Int) = some ((lsum n : Int), 0) := by
  intro d
  induction d with
  | zero =>
    intro k j hj hk
    obtain ⟨k, rfl⟩ : ∃ m, k = m + 1 := ⟨k - 1, by omega⟩
    obtain rfl : j = n := hj
    simp only [mancipleref20_LubySum.l0]
    rw [if_neg (by omega)]
  | succ d ih =>
    intro k j hj hk
    obtain ⟨k, rfl⟩ : ∃ m, k = m + 1 := ⟨k - 1, by omega⟩
    have l1 := lsum_le j (by omega)
    have l2 := luby_le (j + 1) (by omega) (by omega)
    have := ih k (j + 1) (by omega) (by omega)
    simp only [mancipleref20_LubySum.l0]
    rw [if_pos (by omega), ref_f (j + 1) (by omega) (by omega), Option.bind_some, w_add _ _ (by omega) (by omega), w_up _ (by omega)]
    exact this
theorem LubySum_eq (n : Nat) (hn : n ≤ 65535) (k : Nat) (hk : 70000 ≤ k) : mancipleref20_LubySum.f k (n : Int) = some ((lsum n : Int), 0) := by
  unfold mancipleref20_LubySum.f
  obtain ⟨k, rfl⟩ : ∃ m, k = m + 1 := ⟨k - 1, by omega⟩
  rw [if_neg (by omega)]
  simp only [mancipleref20_LubySum.j0]
  rw [if_neg (by simp; omega)]
  exact sum_loop n (by omega) n k 0 (by omega) (by omega)

theorem due_loop (c u : Nat) (hc : c ≤ 1048576) (hu : 1 ≤ u) (hu2 : u ≤ 1048576) : ∀ (d k j : Nat), j + d = dueN (c / u) → dueN (c / u) ≤ 1048576 → d < k →
    mancipleref20_Due.l0 k (c : Int) (u : Int) (j : Int) ((u * lsum j : Nat) : Int) = some ((dueN (c / u) : Int), 0) := by
  have hq : c / u ≤ 1048576 := Nat.le_trans (Nat.div_le_self _ _) hc
  have hsp := dueN_spec (c / u) hq
  have hdm := Nat.div_add_mod c u
  have hml := Nat.mod_lt c (show u > 0 by omega)
  intro d
  induction d with
  | zero =>
    intro k j hj hj2 hk
    obtain ⟨k, rfl⟩ : ∃ m, k = m + 1 := ⟨k - 1, by omega⟩
    have hjd : j = dueN (c / u) := hj
    rw [← hjd] at hsp ⊢
    have l2 := luby_le (j + 1) (by omega) (by omega)
    have e : u * lsum (j + 1) = u * lsum j + u * luby (j + 1) := by rw [lsum, Nat.mul_add]
    have b1 : u * luby (j + 1) ≤ 1048576 * 2097152 := Nat.mul_le_mul hu2 (by omega)
    have b2 : u * lsum j ≤ u * (c / u) := Nat.mul_le_mul_left _ hsp.1
    have b3 : u * (c / u + 1) ≤ u * lsum (j + 1) := Nat.mul_le_mul_left _ (by omega)
    rw [Nat.mul_add] at b3
    simp only [mancipleref20_Due.l0]
    have b4 : u * lsum j ≤ 1048576 := Nat.le_trans b2 (Nat.le_trans (Nat.mul_div_le c u) hc)
    have b5 : c < u * lsum j + u * luby (j + 1) := by rw [← e]; exact Nat.lt_of_lt_of_le (by rw [Nat.mul_one]; omega) b3
    have hgt : ((u * lsum j + u * luby (j + 1) : Nat) : Int) > (c : Int) := Int.ofNat_lt.mpr b5
    have hj62 : j ≤ 1048576 := hjd ▸ hj2
    clear b2 b3 b5 e hdm hml hsp
    rw [w_up _ (by omega), ref_f _ (by omega) (by omega), Option.bind_some, w_mul u _ _ rfl (big_in _ b1), w_add2 _ _ b4 b1, if_pos hgt]
  | succ d ih =>
    intro k j hj hj2 hk
    obtain ⟨k, rfl⟩ : ∃ m, k = m + 1 := ⟨k - 1, by omega⟩
    have hlt : lsum (j + 1) ≤ c / u := Nat.le_trans (lsum_up (by omega)) hsp.1
    have l2 := luby_le (j + 1) (by omega) (by omega)
    have e : u * lsum (j + 1) = u * lsum j + u * luby (j + 1) := by rw [lsum, Nat.mul_add]
    have b1 : u * luby (j + 1) ≤ 1048576 * 2097152 := Nat.mul_le_mul hu2 (by omega)
    have b3 : u * lsum (j + 1) ≤ u * (c / u) := Nat.mul_le_mul_left _ hlt
    have ih2 := ih k (j + 1) (by omega) hj2 (by omega)
    rw [e] at ih2
    simp only [mancipleref20_Due.l0]
    have b4 : u * lsum j + u * luby (j + 1) ≤ c := by rw [← e]; exact Nat.le_trans b3 (Nat.mul_div_le c u)
    have b6 : u * lsum j ≤ 1048576 := Nat.le_trans (Nat.le_add_right _ _) (Nat.le_trans b4 hc)
    have hgt : ¬ ((u * lsum j + u * luby (j + 1) : Nat) : Int) > (c : Int) := fun h => absurd (Int.ofNat_lt.mp h) (Nat.not_lt.mpr b4)
    have hj62 : j ≤ 1048576 := by omega
    clear b3 b4 e hdm hml hsp
    rw [w_up _ (by omega), ref_f _ (by omega) (by omega), Option.bind_some, w_mul u _ _ rfl (big_in _ b1), w_add2 _ _ b6 b1, if_neg hgt]
    exact ih2
theorem Due_eq (c u : Int) (k : Nat) (hk : 1048600 ≤ k) : mancipleref20_Due.f k c u = luby_Due.f c u := by
  unfold mancipleref20_Due.f luby_Due.f
  obtain ⟨k, rfl⟩ : ∃ m, k = m + 1 := ⟨k - 1, by omega⟩
  simp only [mancipleref20_Due.j0]
  by_cases h1 : c < 0
  · rw [if_pos h1, if_pos trivial, if_neg (by omega)]
  · rw [if_neg h1]
    by_cases h2 : c > 1048576
    · rw [if_pos h2, if_pos trivial, if_neg (by omega)]
    · rw [if_neg h2]
      by_cases h3 : u < 1
      · rw [if_pos h3, if_pos trivial, if_neg (by omega)]
      · rw [if_neg h3]
        by_cases h4 : u > 1048576
        · rw [if_pos (by simpa using h4), if_neg (by omega)]
        · rw [if_neg (by simpa using h4), if_pos (by omega)]
          obtain ⟨C, rfl⟩ : ∃ n : Nat, c = (n : Int) := ⟨c.toNat, by omega⟩
          obtain ⟨U, rfl⟩ : ∃ n : Nat, u = (n : Int) := ⟨u.toNat, by omega⟩
          have hq : C / U ≤ 1048576 := Nat.le_trans (Nat.div_le_self _ _) (by omega)
          have hsp := dueN_spec (C / U) hq
          have hle : dueN (C / U) ≤ 1048576 := by
            apply Classical.byContradiction; intro hc
            have a := lsum_up (a := 1048577) (b := dueN (C / U)) (by omega)
            have b := lsum_ge 1048577 (by omega)
            omega
          have := due_loop C U (by omega) (by omega) (by omega) (dueN (C / U)) k 0 (by omega) hle (by omega)
          exact this

theorem Any_j0 (k : Nat) (hk : 1048700 ≤ k) (c u : Int) : manciplelaw20_LubyAny.j0 k c u false = some true := by
  obtain ⟨k, rfl⟩ : ∃ m, k = m + 1 := ⟨k - 1, by omega⟩
  have hj : ∀ b, manciplelaw20_LubyAny.j1 k c u b = some true := by
    intro b
    obtain ⟨k, rfl⟩ : ∃ m, k = m + 1 := ⟨k - 1, by omega⟩
    simp only [manciplelaw20_LubyAny.j1]
    split
    · rfl
    · rw [Due_eq c u k (by omega)]
      unfold luby_Due.f
      split
      · rw [Option.bind_some, Option.bind_some, if_pos rfl]; simp
      · rw [Option.bind_some, Option.bind_some, if_pos rfl]; simp
  simp only [manciplelaw20_LubyAny.j0, hj]
  simp

theorem LubyAny : manciplelaw20_LubyAny.Pure := by
  intro a0 a1 a2 a3 h0 h1 h2 h3
  refine ⟨1048800, ?_⟩
  have b1 : 0 ≤ a1 ∧ a1 ≤ 65535 := by simpa [Lit.wf, IntKind.min, IntKind.max, IntKind.signed, IntKind.bits] using h1
  obtain ⟨n, rfl⟩ : ∃ n : Nat, a1 = (n : Int) := ⟨a1.toNat, by omega⟩
  have hS : luby_Sum.f (n : Int) = some ((lsum n : Int), 0) := by unfold luby_Sum.f; rw [if_pos (by omega)]; rfl
  obtain ⟨x, hx⟩ : ∃ x, luby_At.f a0 = some x := by unfold luby_At.f; split <;> exact ⟨_, rfl⟩
  unfold manciplelaw20_LubyAny.f
  rw [known_at _ (by omega), Option.bind_some, if_pos rfl, Luby_eq, hx, Option.bind_some, Option.bind_some, w_id n (by omega), hS, Option.bind_some, LubySum_eq n (by omega) _ (by omega), Option.bind_some, if_pos rfl, if_pos rfl, if_pos rfl]
  exact Any_j0 _ (by omega) a2 a3

end Go.Proofs.Ytaogafapkblchaa.Pure
