/-
  RupAny: the program tells what the reference tells, for any clauses and steps.
-/
import Derived.Test.YtjbljblhbmfbpaaPureRAny
import Derived.Test.YtjbljblhbmfbpaaPRupx5
namespace Go.Proofs.Ytjbljblhbmfbpaa.PureR
open Go.RowKit Go.Proofs.Ytjbljblhbmfbpaa.PRup Go.Proofs.YtjbljblhbmfbpaaW.PrintWords Go.Proofs.YtjbljblhbmfbpaaW.PrintLast Go.Proofs.YtjbljblhbmfbpaaW.PrintMore
open Prop15

theorem known_true : manciplelaw16_known.f = some true := by decide +kernel
theorem bneq_self (b : Bool) : (b != b) = false := by cases b <;> rfl
theorem any_j2 (n : Int) (l : List (List Int)) (c : List Int) (k : Nat) (hk : 400300 ≤ k) (h0 : 0 ≤ n) (h1 : n ≤ 256) (hl : l.length ≤ 120) (hc : ∀ c ∈ l, okClause n c) (hcc : chk n c = 0) : manciplelaw16_RupAny.j2 k n l c false = some true := by
  obtain ⟨k, rfl⟩ : ∃ m, k = m + 1 := ⟨k - 1, by omega⟩
  simp only [manciplelaw16_RupAny.j2]
  obtain ⟨m, rfl⟩ : ∃ m : Nat, n = (m : Int) := ⟨n.toNat, by omega⟩
  have hx := rupFrom_lit hcc
  rw [Int.toNat_natCast] at hx
  have hl2 : ∀ c ∈ l, c.length ≤ 256 ∧ ∀ x ∈ c, lit (m + 1) x := fun c hcm => ⟨(hc c hcm).1, fun x hx => by
    obtain ⟨a, b, d⟩ := (hc c hcm).2 x hx
    exact ⟨a, by omega, by omega⟩⟩
  rw [if_neg (by decide), To_eq l k (by omega) (fun c hcm => by have := (hl2 c hcm).1; omega) (by omega), Option.bind_some]
  have hok : folOk (m : Int) l c := ⟨h0, by omega, by omega, fun c hcm => by rw [Int.toNat_natCast]; exact (hl2 c hcm).2, by rw [Int.toNat_natCast]; exact hx.2⟩
  unfold rup_Follows.f
  rw [if_pos hok, Option.bind_some, Int.toNat_natCast,
    fol_eq m (by omega) l (by omega) hl2 c hx.1 hx.2 k (by omega), Option.bind_some]
  simp
theorem any_j1 (n : Int) (l : List (List Int)) (c : List Int) (k : Nat) (hk : 400400 ≤ k) : manciplelaw16_RupAny.j1 k n l c false = some true := by
  obtain ⟨k, rfl⟩ : ∃ m, k = m + 1 := ⟨k - 1, by omega⟩
  simp only [manciplelaw16_RupAny.j1]
  rw [if_neg (by decide)]
  obtain ⟨b, hb, hq⟩ := Small_any n 40 l k (by omega)
  rw [hb, Option.bind_some]
  obtain ⟨k, rfl⟩ : ∃ m, k = m + 1 := ⟨k - 1, by omega⟩
  cases b with
  | false =>
    rw [if_neg (by decide)]
    simp only [manciplelaw16_RupAny.j2]
    rw [if_pos trivial]
  | true =>
    obtain ⟨h0, h1, _, hl, hc⟩ := hq rfl
    rw [if_pos rfl, CC_eq n c _ (by omega), Option.bind_some]
    by_cases h : chk n c = 0
    · rw [h]
      exact any_j2 n l c _ (by omega) h0 h1 hl hc h
    · rw [show (chk n c != 0) = true from bne_iff_ne.mpr h]
      simp only [manciplelaw16_RupAny.j2]
      rw [if_pos trivial]
theorem any_j0 (n : Int) (l p : List (List Int)) (c : List Int) (k : Nat) (hk : 400500 ≤ k) (hl : l.length ≤ 200) (hll : ∀ c ∈ l, c.length ≤ 300) (hp : p.length ≤ 40) (hpl : ∀ c ∈ p, c.length ≤ 300) : manciplelaw16_RupAny.j0 k n l p c false = some true := by
  obtain ⟨k, rfl⟩ : ∃ m, k = m + 1 := ⟨k - 1, by omega⟩
  simp only [manciplelaw16_RupAny.j0]
  have e1 := To_eq l k (by omega) (fun c hc => by have := hll c hc; omega) (by omega)
  have e2 := To_eq p k (by omega) (fun c hc => by have := hpl c hc; omega) (by omega)
  have e3 := CP_eq n l p (by omega) (by omega) k (by omega)
  have e4 := EndsA n l p c (by omega)
  have e5 := EndsB n l p c (by omega) (by omega) hpl k (by omega)
  have e6 : rup_Check.f n l p = some (rupChk n l p) := by unfold rup_Check.f; rw [if_pos (by omega)]
  rw [if_neg (by decide), e1, Option.bind_some, e2, Option.bind_some, e6, Option.bind_some, e3, Option.bind_some, if_pos rfl, if_pos rfl, Option.bind_some, Option.bind_some, e4, Option.bind_some, e5, Option.bind_some, bneq_self]
  exact any_j1 n l c k (by omega)
def RupAnyPure : Prop := ∀ (a0 : Int) (l1 l2 : List (List Int)) (l3 : List Int), ∃ k, manciplelaw16_RupAny.f k a0 l1 l2 l3 = some true
theorem any_out (n : Int) (l p : List (List Int)) (c : List Int) (k : Nat) : manciplelaw16_RupAny.j0 (k + 1) n l p c true = some true := by
  simp only [manciplelaw16_RupAny.j0]
  rw [if_pos trivial]
theorem RupAny : RupAnyPure := by
  intro n l p c
  refine ⟨500001, ?_⟩
  obtain ⟨K, hK⟩ : ∃ K : Nat, K = 500000 := ⟨_, rfl⟩
  rw [show (500001 : Nat) = K + 1 by omega]
  unfold manciplelaw16_RupAny.f
  rw [known_true, Option.bind_some, if_pos rfl]
  by_cases h1 : n > 40
  · rw [if_pos h1]; exact any_out n l p c K
  · rw [if_neg h1]
    obtain ⟨b1, hb1, hq1⟩ := Few_any l (K + 1) (by omega)
    rw [hb1, Option.bind_some]
    cases b1 with
    | false => rw [if_neg (by decide)]; exact any_out n l p c K
    | true =>
      obtain ⟨b2, hb2, hq2⟩ := Few_any p (K + 1) (by omega)
      rw [if_pos rfl, hb2, Option.bind_some]
      cases b2 with
      | false => rw [if_neg (by decide)]; exact any_out n l p c K
      | true =>
        rw [if_pos rfl]
        by_cases h3 : (c.length : Int) > 300
        · rw [if_pos h3]; exact any_out n l p c K
        · rw [if_neg h3]
          by_cases h4 : (l.length : Int) > 60
          · rw [if_pos h4]; exact any_out n l p c K
          · rw [if_neg h4]
            by_cases h5 : (p.length : Int) > 40
            · rw [decide_eq_true h5]; exact any_out n l p c K
            · rw [decide_eq_false h5]
              exact any_j0 n l p c (K + 1) (by omega) (hq1 rfl).1 (hq1 rfl).2 (by omega) (hq2 rfl).2
end Go.Proofs.Ytjbljblhbmfbpaa.PureR
