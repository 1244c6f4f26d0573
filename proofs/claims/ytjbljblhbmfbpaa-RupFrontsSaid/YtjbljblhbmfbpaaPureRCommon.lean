/-
  What the printed helper functions of the Prop laws tell, in closed form. Conditions: those that stand in each lemma.
-/
import Derived.Test.YtjbljblhbmfbpaaPRupx4
import Derived.Test.YtjbljblhbmfbpaaPRupx1
namespace Go.Proofs.Ytjbljblhbmfbpaa.PureR
open Go.RowKit Go.Proofs.Ytjbljblhbmfbpaa.PRup Go.Proofs.YtjbljblhbmfbpaaW.PrintWords Go.Proofs.YtjbljblhbmfbpaaW.PrintLast Go.Proofs.YtjbljblhbmfbpaaW.PrintMore
open Prop15

theorem w_up (r : Nat) (h2 : r ≤ 4611686018427387904) : wrap64 ((r : Int) + 1) = ((r + 1 : Nat) : Int) := by unfold wrap64; omega
theorem w_neg (r : Int) (h1 : -4611686018427387904 ≤ r) (h2 : r ≤ 4611686018427387904) : wrap64 (-r) = -r := by unfold wrap64; omega
theorem w_in (r : Int) (h1 : -4611686018427387904 ≤ r) (h2 : r ≤ 4611686018427387904) : wrap64 r = r := by unfold wrap64; omega
theorem rd_nat (xs : List Int) (i : Nat) : rd xs (i : Int) = xs.getD i 0 := by simp [rd]
theorem rdL_nat (xs : List (List Int)) (i : Nat) : rd_L1 xs (i : Int) = xs.getD i [] := by simp [rd_L1]
theorem drop_at {α : Type} (xs : List α) (d : α) (i : Nat) (h : i < xs.length) : xs.drop i = xs.getD i d :: xs.drop (i + 1) := by
  rw [List.drop_eq_getElem_cons h, List.getD_eq_getElem?_getD, List.getElem?_eq_getElem h]; simp
theorem mem_at {α : Type} (xs : List α) (d : α) (i : Nat) (h : i < xs.length) : xs.getD i d ∈ xs := by
  rw [List.getD_eq_getElem?_getD, List.getElem?_eq_getElem h]; simp

theorem CC_loop (n : Int) (c : List Int) (h0 : 0 ≤ n) (hn : n ≤ 256) (hc : c.length ≤ 256) : ∀ (d k i : Nat), i + d = c.length → d < k →
    ∃ e, mancipleref14_CheckClause.l0 k n c (i : Int) = some e ∧ (e = 0 → ∀ x ∈ c.drop i, x ≠ 0 ∧ x ≤ n ∧ -n ≤ x) := by
  intro d
  induction d with
  | zero =>
    intro k i hi hk
    obtain ⟨k, rfl⟩ : ∃ m, k = m + 1 := ⟨k - 1, by omega⟩
    simp only [mancipleref14_CheckClause.l0]
    rw [if_neg (by omega)]
    refine ⟨0, rfl, fun _ x hx => ?_⟩
    rw [List.drop_of_length_le (by omega)] at hx
    cases hx
  | succ d ih =>
    intro k i hi hk
    obtain ⟨k, rfl⟩ : ∃ m, k = m + 1 := ⟨k - 1, by omega⟩
    simp only [mancipleref14_CheckClause.l0]
    rw [if_pos (by omega), if_pos (by omega), rd_nat, w_neg n (by omega) (by omega), w_up _ (by omega)]
    by_cases h1 : c.getD i 0 = 0
    · rw [if_pos h1]; exact ⟨11, rfl, fun h => by cases h⟩
    · rw [if_neg h1]
      by_cases h2 : c.getD i 0 > n
      · rw [if_pos h2]; exact ⟨11, rfl, fun h => by cases h⟩
      · rw [if_neg h2]
        by_cases h3 : c.getD i 0 < -n
        · rw [if_pos h3]; exact ⟨11, rfl, fun h => by cases h⟩
        · rw [if_neg h3]
          obtain ⟨e, he, hq⟩ := ih k (i + 1) (by omega) (by omega)
          refine ⟨e, he, fun h0 x hx => ?_⟩
          rw [drop_at c 0 i (by omega)] at hx
          rcases List.mem_cons.mp hx with rfl | hx
          · exact ⟨h1, by omega, by omega⟩
          · exact hq h0 x hx
def okClause (n : Int) (c : List Int) : Prop := c.length ≤ 256 ∧ ∀ x ∈ c, x ≠ 0 ∧ x ≤ n ∧ -n ≤ x
theorem CC_any (n : Int) (c : List Int) (k : Nat) (hk : 300 ≤ k) : ∃ e, mancipleref14_CheckClause.f k n c = some e ∧ (e = 0 → 0 ≤ n ∧ n ≤ 256 ∧ okClause n c) := by
  obtain ⟨k, rfl⟩ : ∃ m, k = m + 1 := ⟨k - 1, by omega⟩
  unfold mancipleref14_CheckClause.f
  simp only [mancipleref14_CheckClause.j0]
  by_cases h0 : n < 0
  · rw [if_pos h0, if_pos trivial]; exact ⟨1, rfl, fun h => by cases h⟩
  · rw [if_neg h0]
    by_cases h1 : n > 256
    · rw [if_pos (by simpa using h1)]; exact ⟨1, rfl, fun h => by cases h⟩
    · rw [if_neg (by simpa using h1)]
      by_cases h2 : (c.length : Int) > 256
      · rw [if_pos h2]; exact ⟨4, rfl, fun h => by cases h⟩
      · rw [if_neg h2]
        obtain ⟨e, he, hq⟩ := CC_loop n c (by omega) (by omega) (by omega) c.length k 0 (by omega) (by omega)
        exact ⟨e, he, fun h => ⟨by omega, by omega, by omega, by simpa using hq h⟩⟩

theorem CA_loop (n : Int) (l : List (List Int)) (hl : l.length ≤ 131072) : ∀ (d k i : Nat), i + d = l.length → d + 300 < k →
    ∃ a e, mancipleref14_CheckAll.l0 k n l (i : Int) = some (a, e) ∧ (e = 0 → ∀ c ∈ l.drop i, okClause n c) := by
  intro d
  induction d with
  | zero =>
    intro k i hi hk
    obtain ⟨k, rfl⟩ : ∃ m, k = m + 1 := ⟨k - 1, by omega⟩
    simp only [mancipleref14_CheckAll.l0]
    rw [if_neg (by omega)]
    refine ⟨0, 0, rfl, fun _ x hx => ?_⟩
    rw [List.drop_of_length_le (by omega)] at hx
    cases hx
  | succ d ih =>
    intro k i hi hk
    obtain ⟨k, rfl⟩ : ∃ m, k = m + 1 := ⟨k - 1, by omega⟩
    simp only [mancipleref14_CheckAll.l0]
    obtain ⟨e1, he1, hq1⟩ := CC_any n (l.getD i []) k (by omega)
    rw [if_pos (by omega), if_pos (by omega), rdL_nat, he1, Option.bind_some, w_up _ (by omega)]
    by_cases h1 : e1 = 0
    · rw [if_pos h1]
      obtain ⟨a, e, he, hq⟩ := ih k (i + 1) (by omega) (by omega)
      refine ⟨a, e, he, fun h0 x hx => ?_⟩
      rw [drop_at l [] i (by omega)] at hx
      rcases List.mem_cons.mp hx with rfl | hx
      · exact (hq1 h1).2.2
      · exact hq h0 x hx
    · rw [if_neg h1]; exact ⟨_, e1, rfl, fun h => absurd h h1⟩
theorem CA_any (n : Int) (l : List (List Int)) (k : Nat) (hk : 140000 ≤ k) : ∃ a e, mancipleref14_CheckAll.f k n l = some (a, e) ∧ (e = 0 → 0 ≤ n ∧ n ≤ 256 ∧ ∀ c ∈ l, okClause n c) := by
  obtain ⟨k, rfl⟩ : ∃ m, k = m + 1 := ⟨k - 1, by omega⟩
  unfold mancipleref14_CheckAll.f
  simp only [mancipleref14_CheckAll.j0]
  by_cases h0 : n < 0
  · rw [if_pos h0, if_pos trivial]; exact ⟨0, 1, rfl, fun h => by cases h⟩
  · rw [if_neg h0]
    by_cases h1 : n > 256
    · rw [if_pos (by simpa using h1)]; exact ⟨0, 1, rfl, fun h => by cases h⟩
    · rw [if_neg (by simpa using h1)]
      by_cases h2 : (l.length : Int) > 131072
      · rw [if_pos h2]; exact ⟨0, 4, rfl, fun h => by cases h⟩
      · rw [if_neg h2]
        obtain ⟨a, e, he, hq⟩ := CA_loop n l (by omega) l.length k 0 (by omega) (by omega)
        exact ⟨a, e, he, fun h => ⟨by omega, by omega, by simpa using hq h⟩⟩
theorem Small_any (n m : Int) (l : List (List Int)) (k : Nat) (hk : 140000 ≤ k) : ∃ b, manciplelaw15_Small.f k n l m = some b ∧ (b = true → 0 ≤ n ∧ n ≤ 256 ∧ n ≤ m ∧ l.length ≤ 120 ∧ ∀ c ∈ l, okClause n c) := by
  unfold manciplelaw15_Small.f
  by_cases h0 : n < 0
  · rw [if_pos h0]; exact ⟨false, rfl, fun h => by cases h⟩
  · rw [if_neg h0]
    by_cases h1 : n > m
    · rw [if_pos h1]; exact ⟨false, rfl, fun h => by cases h⟩
    · rw [if_neg h1]
      by_cases h2 : (l.length : Int) > 120
      · rw [if_pos h2]; exact ⟨false, rfl, fun h => by cases h⟩
      · rw [if_neg h2]
        obtain ⟨a, e, he, hq⟩ := CA_any n l k hk
        rw [he, Option.bind_some]
        refine ⟨_, rfl, fun h => ?_⟩
        have := hq (by simpa using h)
        exact ⟨this.1, this.2.1, by omega, by omega, this.2.2⟩

theorem To_loop (l : List (List Int)) (hl : l.length ≤ 1000) (hc : ∀ c ∈ l, c.length < 17592186044416) : ∀ (d k i : Nat) (acc : List (List Int)), i + d = l.length → acc.length = i → d < k →
    manciplelaw13_To.l0 k l acc (i : Int) = some (acc ++ l.drop i) := by
  intro d
  induction d with
  | zero =>
    intro k i acc hi ha hk
    obtain ⟨k, rfl⟩ : ∃ m, k = m + 1 := ⟨k - 1, by omega⟩
    simp only [manciplelaw13_To.l0]
    rw [if_neg (by omega), List.drop_of_length_le (by omega), List.append_nil]
  | succ d ih =>
    intro k i acc hi ha hk
    obtain ⟨k, rfl⟩ : ∃ m, k = m + 1 := ⟨k - 1, by omega⟩
    have hm := hc _ (mem_at l [] i (by omega))
    simp only [manciplelaw13_To.l0]
    rw [if_pos (by omega), Option.bind_some, if_pos (by omega), rdL_nat, if_pos (by simpa using hm), if_pos (by omega), w_up _ (by omega), List.nil_append, ih k (i + 1) _ (by omega) (by simp; omega) (by omega), drop_at l [] i (by omega)]
    simp
theorem To_eq (l : List (List Int)) (k : Nat) (hl : l.length ≤ 1000) (hc : ∀ c ∈ l, c.length < 17592186044416) (hk : 1100 ≤ k) : manciplelaw13_To.f k l = some l := by
  unfold manciplelaw13_To.f
  have := To_loop l hl hc l.length k 0 [] (by omega) rfl (by omega)
  simpa using this

end Go.Proofs.Ytjbljblhbmfbpaa.PureR
