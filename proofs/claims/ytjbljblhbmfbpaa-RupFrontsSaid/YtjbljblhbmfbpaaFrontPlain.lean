/-
  RupFronts, plainly: a front of a proof that is taken is taken; behind it a step is taken or told just as it follows. Conditions: as each statement has them.
-/
import Derived.Test.YtjbljblhbmfbpaaOwnPlain
import Derived.Test.YtjbljblhbmfbpaaPRupx7
namespace Go.Proofs.Ytjbljblhbmfbpaa.PureR
open Go.RowKit Go.Proofs.Ytjbljblhbmfbpaa.PRup Go.Proofs.YtjbljblhbmfbpaaW.PrintWords Go.Proofs.YtjbljblhbmfbpaaW.PrintLast Go.Proofs.YtjbljblhbmfbpaaW.PrintMore
open Prop15

theorem Lits_loop (n : Int) (c : List Int) (h0 : 0 ≤ n) (hn : n ≤ 256) (hc : c.length ≤ 60) : ∀ (d k i : Nat), i + d = c.length → d < k →
    ∃ b, manciplelaw15_Lits.l0 k n c (i : Int) = some b ∧ (b = true → ∀ x ∈ c.drop i, x ≠ 0 ∧ x ≤ n ∧ -n ≤ x) := by
  intro d
  induction d with
  | zero =>
    intro k i hi hk
    obtain ⟨k, rfl⟩ : ∃ m, k = m + 1 := ⟨k - 1, by omega⟩
    simp only [manciplelaw15_Lits.l0]
    rw [if_neg (by omega)]
    refine ⟨true, rfl, fun _ x hx => ?_⟩
    rw [List.drop_of_length_le (by omega)] at hx
    cases hx
  | succ d ih =>
    intro k i hi hk
    obtain ⟨k, rfl⟩ : ∃ m, k = m + 1 := ⟨k - 1, by omega⟩
    simp only [manciplelaw15_Lits.l0]
    rw [if_pos (by omega), if_pos (by omega), rd_nat, w_neg n (by omega) (by omega), w_up _ (by omega)]
    by_cases h1 : c.getD i 0 = 0
    · rw [if_pos h1]; exact ⟨false, rfl, fun h => by cases h⟩
    · rw [if_neg h1]
      by_cases h2 : c.getD i 0 > n
      · rw [if_pos h2]; exact ⟨false, rfl, fun h => by cases h⟩
      · rw [if_neg h2]
        by_cases h3 : c.getD i 0 < -n
        · rw [if_pos h3]; exact ⟨false, rfl, fun h => by cases h⟩
        · rw [if_neg h3]
          obtain ⟨e, he, hq⟩ := ih k (i + 1) (by omega) (by omega)
          refine ⟨e, he, fun h0 x hx => ?_⟩
          rw [drop_at c 0 i (by omega)] at hx
          rcases List.mem_cons.mp hx with rfl | hx
          · exact ⟨h1, by omega, by omega⟩
          · exact hq h0 x hx
theorem Lits_any (n : Int) (c : List Int) (k : Nat) (hk : 100 ≤ k) (h0 : 0 ≤ n) (hn : n ≤ 256) : ∃ b, manciplelaw15_Lits.f k n c = some b ∧ (b = true → c.length ≤ 60 ∧ ∀ x ∈ c, x ≠ 0 ∧ x ≤ n ∧ -n ≤ x) := by
  unfold manciplelaw15_Lits.f
  by_cases h2 : (c.length : Int) > 60
  · rw [if_pos h2]; exact ⟨false, rfl, fun h => by cases h⟩
  · rw [if_neg h2]
    obtain ⟨e, he, hq⟩ := Lits_loop n c h0 hn (by omega) c.length k 0 (by omega) (by omega)
    exact ⟨e, he, fun h => ⟨by omega, by simpa using hq h⟩⟩
theorem from_chk {n : Nat} : ∀ (p all : List (List Int)) (i : Nat), (rupFrom n all p i).2 = 0 → ∀ c ∈ p, chk n c = 0
  | [], _, _, _, c, hc => by cases hc
  | d :: p, all, i, h, c, hc => by
    simp only [rupFrom, Int.toNat_natCast] at h
    by_cases h1 : chk (n : Int) d = 0
    · rw [if_pos h1] at h
      by_cases h2 : fol n all d = true
      · rw [if_pos h2] at h
        rcases List.mem_cons.1 hc with rfl | hc
        · exact h1
        · exact from_chk p (all ++ [d]) (i + 1) h c hc
      · rw [if_neg h2] at h; cases h
    · rw [if_neg h1] at h; exact absurd h h1
/-- a front, and what is told of the step behind it -/
theorem from_front {n : Nat} {c : List Int} (hc : chk (n : Int) c = 0) : ∀ (p all : List (List Int)) (i k : Nat), (rupFrom n all p i).2 = 0 → k ≤ p.length →
    (rupFrom n all (p.take k) i).2 = 0 ∧ rupFrom n all (p.take k ++ [c]) i = if fol n (all ++ p.take k) c = true then (0, 0) else (((i + k : Nat) : Int), 13)
  | [], all, i, k, _, hk => by
    obtain rfl : k = 0 := by simpa using hk
    refine ⟨rfl, ?_⟩
    simp only [List.take_zero, List.nil_append, List.append_nil, rupFrom, Int.toNat_natCast, Nat.add_zero]
    rw [if_pos hc]
  | d :: p, all, i, 0, _, _ => by
    refine ⟨rfl, ?_⟩
    simp only [List.take_zero, List.nil_append, List.append_nil, rupFrom, Int.toNat_natCast, Nat.add_zero]
    rw [if_pos hc]
  | d :: p, all, i, k + 1, h, hk => by
    simp only [rupFrom, Int.toNat_natCast] at h
    by_cases h1 : chk (n : Int) d = 0
    · rw [if_pos h1] at h
      by_cases h2 : fol n all d = true
      · rw [if_pos h2] at h
        obtain ⟨q1, q2⟩ := from_front hc p (all ++ [d]) (i + 1) k h (by simpa using hk)
        simp only [List.take_succ_cons, List.cons_append, rupFrom, Int.toNat_natCast]
        rw [if_pos h1, if_pos h2, if_pos h1, if_pos h2]
        refine ⟨q1, ?_⟩
        rw [q2]
        have e1 : all ++ [d] ++ p.take k = all ++ d :: p.take k := by simp
        have e2 : i + 1 + k = i + (k + 1) := by omega
        rw [e1, e2]
        rfl
      · rw [if_neg h2] at h; cases h
    · rw [if_neg h1] at h; exact absurd h h1
theorem front_facts {n : Int} (h0 : 0 ≤ n) (h30 : n ≤ 30) {l p : List (List Int)} (hl : l.length ≤ 120) (hp : p.length ≤ 30) (hok : ∀ c ∈ l, okClause n c) {c : List Int} (hcl : c.length ≤ 30) (hx : ∀ x ∈ c, x ≠ 0 ∧ x ≤ n ∧ -n ≤ x)
    (h : (rupChk n l p).2 = 0) {k : Nat} (hk : k ≤ p.length) :
    (∀ d ∈ p, d.length ≤ 256) ∧ (∃ a, rup_Check.f n l (p.take k) = some (a, 0)) ∧ ∃ K b, mancipleref20_Follows.f K n (l ++ p.take k) c = some b ∧ ∃ a e, rup_Check.f n l (p.take k ++ [c]) = some (a, e) ∧ (b = true → e = 0) ∧ (b = false → e = 13 ∧ a = (k : Int)) := by
  obtain ⟨m, rfl⟩ : ∃ m : Nat, n = (m : Int) := ⟨n.toNat, by omega⟩
  have hlc : ∀ c ∈ l, c.length ≤ 256 ∧ ∀ x ∈ c, lit (m + 1) x := fun c hc => ⟨(hok c hc).1, fun y hy => by
    obtain ⟨a, b, d⟩ := (hok c hc).2 y hy
    exact ⟨a, by omega, by omega⟩⟩
  have hcx : ∀ x ∈ c, lit (m + 1) x := fun x hx' => by
    obtain ⟨a, b, d⟩ := hx x hx'
    exact ⟨a, by omega, by omega⟩
  have hz := chkAll_zero (n := m) (by omega) (l := l) (by omega) hlc
  have hf : (rupFrom m l p 0).2 = 0 := by
    unfold rupChk at h
    rwa [if_pos hz] at h
  have hck := (from_chk p l 0 hf)
  have hpc : ∀ d ∈ p, d.length ≤ 256 ∧ ∀ x ∈ d, lit (m + 1) x := fun d hd => by
    have := rupFrom_lit (hck d hd)
    rwa [Int.toNat_natCast] at this
  obtain ⟨q1, q2⟩ := from_front (n := m) (c := c) (chk_zero (by omega) (by omega) hcx) p l 0 k hf hk
  have e1 : ∀ q : List (List Int), rupChk (m : Int) l q = rupFrom m l q 0 := fun q => by unfold rupChk; rw [if_pos hz]
  have htl : (p.take k).length ≤ 30 := by rw [List.length_take]; omega
  refine ⟨fun d hd => (hpc d hd).1, ⟨(rupFrom m l (p.take k) 0).1, ?_⟩, 400000, fol m (l ++ p.take k) c, ?_, ?_⟩
  · unfold rup_Check.f
    rw [if_pos (by omega), e1, ← q1]
  · exact fol_eq m (by omega) (l ++ p.take k) (by rw [List.length_append]; omega) (fun d hd => by
      rcases List.mem_append.1 hd with hd | hd
      · exact hlc d hd
      · exact hpc d (List.mem_of_mem_take hd)) c (by omega) hcx 400000 (Nat.le_refl _)
  · unfold rup_Check.f
    rw [if_pos (by rw [List.length_append]; simp only [List.length_singleton]; omega), e1, q2]
    by_cases hb : fol m (l ++ p.take k) c = true
    · rw [if_pos hb]
      exact ⟨0, 0, rfl, fun _ => rfl, fun h => by rw [hb] at h; cases h⟩
    · rw [if_neg hb]
      exact ⟨_, 13, rfl, fun h => absurd h hb, fun _ => ⟨rfl, by omega⟩⟩
end Go.Proofs.Ytjbljblhbmfbpaa.PureR
