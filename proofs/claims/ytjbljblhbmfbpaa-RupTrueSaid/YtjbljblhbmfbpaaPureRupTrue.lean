/-
  RupTrue: each step of a proof that is taken holds in each model of the clauses. Conditions: the steps' lengths, as such rows have them.
-/
import Derived.Test.YtjbljblhbmfbpaaPureRModels
import Derived.Lib.Hide
import Derived.Test.YtjbljblhbmfbpaaRowsSized
namespace Go.Proofs.Ytjbljblhbmfbpaa.PureR
open Go.RowKit Go.Proofs.Ytjbljblhbmfbpaa.PRup Go.Proofs.YtjbljblhbmfbpaaW.PrintWords Go.Proofs.YtjbljblhbmfbpaaW.PrintLast Go.Proofs.YtjbljblhbmfbpaaW.PrintMore
open Prop15

theorem known_truth : manciplelaw16_known.f = some true := by decide +kernel
theorem hv_neg {M : List Bool} {x : Int} (h : x ≠ 0) : hv M (-x) = !(hv M x) := by
  unfold hv
  by_cases hp : x > 0
  · rw [if_pos hp, if_neg (by omega), Int.neg_neg]
  · rw [if_neg hp, if_pos (by omega), Bool.not_not]
theorem step_true {n : Nat} {M : List Bool} {all : List (List Int)} {c : List Int} (hc : ∀ c ∈ all, ∀ x ∈ c, lit (n + 1) x) (hx : ∀ x ∈ c, lit (n + 1) x) (h : ∀ c ∈ all, c.any (hv M) = true) (hf : fol n all c = true) : c.any (hv M) = true := by
  cases hb : c.any (hv M) with
  | true => rfl
  | false =>
    exfalso
    have hall : ∀ y ∈ c.map (fun x => -x), hv M y = true := by
      intro y hy
      obtain ⟨x, hx', rfl⟩ := List.mem_map.1 hy
      have h1 : hv M x = false := by
        cases h2 : hv M x with
        | false => rfl
        | true => exact absurd (List.any_eq_true.2 ⟨x, hx', h2⟩) (by rw [hb]; decide)
      rw [hv_neg (hx x hx').1, h1]; rfl
    obtain ⟨m, h1, _⟩ := models (lits := c.map (fun x => -x)) hc (fun y hy => by obtain ⟨x, hx', rfl⟩ := List.mem_map.1 hy; exact lit_neg (hx x hx')) h hall
    unfold fol at hf
    rw [h1] at hf
    cases hf
theorem from_true {n : Nat} : ∀ (p : List (List Int)) (all : List (List Int)) (i : Nat), (∀ c ∈ all, ∀ x ∈ c, lit (n + 1) x) → (rupFrom n all p i).2 = 0 →
    (∀ c ∈ p, chk n c = 0) ∧ ∀ M : List Bool, (∀ c ∈ all, c.any (hv M) = true) → ∀ c ∈ p, c.any (hv M) = true
  | [], _, _, _, _ => ⟨fun c hc => (by cases hc), fun _ _ c hc => (by cases hc)⟩
  | d :: p, all, i, hc, h => by
    simp only [rupFrom] at h
    rw [Int.toNat_natCast] at h
    by_cases h1 : chk n d = 0
    · rw [if_pos h1] at h
      have hd := (rupFrom_lit h1).2
      rw [Int.toNat_natCast] at hd
      by_cases h2 : fol n all d = true
      · rw [if_pos h2] at h
        have hc2 : ∀ c ∈ all ++ [d], ∀ x ∈ c, lit (n + 1) x := fun c hcm => by
          rcases List.mem_append.1 hcm with hcm | hcm
          · exact hc c hcm
          · rw [List.mem_singleton.1 hcm]; exact hd
        obtain ⟨ih1, ih2⟩ := from_true p (all ++ [d]) (i + 1) hc2 h
        refine ⟨fun c hcm => ?_, fun M hM c hcm => ?_⟩
        · rcases List.mem_cons.1 hcm with rfl | hcm
          · exact h1
          · exact ih1 c hcm
        · have hdt := step_true hc hd hM h2
          rcases List.mem_cons.1 hcm with rfl | hcm
          · exact hdt
          · exact ih2 M (fun e he => by
              rcases List.mem_append.1 he with he | he
              · exact hM e he
              · rw [List.mem_singleton.1 he]; exact hdt) c hcm
      · rw [if_neg h2] at h; cases h
    · rw [if_neg h1] at h; exact absurd h h1
theorem First_all (n : Nat) (hn : n ≤ 10) (M : List Bool) (hM : M.length = n) (l : List (List Int)) (hl : l.length ≤ 120) (hc : ∀ c ∈ l, c.length ≤ 256 ∧ ∀ x ∈ c, lit (n + 1) x) (ha : ∀ c ∈ l, c.any (hv M) = true) : ∀ (d k i : Nat), i + d = l.length → d + 400 < k →
    mancipleref14_First.l0 k l M (i : Int) = some (-1) := by
  intro d
  induction d with
  | zero =>
    intro k i hi hk
    obtain ⟨k, rfl⟩ : ∃ m, k = m + 1 := ⟨k - 1, by omega⟩
    simp only [mancipleref14_First.l0]
    rw [if_neg (by omega)]
  | succ d ih =>
    intro k i hi hk
    obtain ⟨k, rfl⟩ : ∃ m, k = m + 1 := ⟨k - 1, by omega⟩
    have hm := hc _ (mem_at l [] i (by omega))
    have hH := Holds_eq n hn M hM (l.getD i []) hm.2 hm.1 k (by omega)
    simp only [mancipleref14_First.l0]
    rw [if_pos (by omega), if_pos (by omega), rdL_nat, hH, Option.bind_some, w_up _ (by omega), if_pos (ha _ (mem_at l [] i (by omega)))]
    exact ih k (i + 1) (by omega) (by omega)
section
variable (n : Nat) (hn : n ≤ 9) (l p : List (List Int)) (hl : l.length ≤ 120) (hp : p.length ≤ 120) (hc : ∀ c ∈ l, c.length ≤ 256 ∧ ∀ x ∈ c, lit (n + 1) x) (hpc : ∀ c ∈ p, c.length ≤ 256 ∧ ∀ x ∈ c, lit (n + 1) x)
  (himp : ∀ M : List Bool, (∀ c ∈ l, c.any (hv M) = true) → ∀ c ∈ p, c.any (hv M) = true)
include hn hl hp hc hpc himp
set_option maxRecDepth 100000 in
theorem t_l0 : ∀ (d k b : Nat), b + d = 2 ^ n → d + 2000 ≤ k → manciplelaw16_RupTrue.l0 k (n : Int) l p (b : Int) = some true := by
  have hp2 : (2 : Nat) ^ n ≤ 2 ^ 10 := Nat.pow_le_pow_right (by omega) (by omega)
  have hun := u_small n (by omega)
  have hsh : shl .i64 1 (n : Int) = ((2 ^ n : Nat) : Int) := by
    unfold shl
    have hb : IntKind.bits .i64 = 64 := rfl
    rw [hb, Nat.min_eq_left (by omega), Int.toNat_natCast, Int.one_mul]
    have : (2 : Int) ^ n = ((2 ^ n : Nat) : Int) := by simp
    rw [this]
    generalize (2 : Nat) ^ n = q at hp2
    exact IntWalk.i64_in _ (by omega)
  obtain ⟨Q, hQ⟩ : ∃ Q : Nat, 2 ^ n = Q := ⟨_, rfl⟩
  rw [hQ] at hsh
  have hQ2 : Q ≤ 1024 := by rw [← hQ]; exact hp2
  rw [hQ]
  clear hQ hp2
  intro d
  induction d with
  | zero =>
    intro k b hi hk
    obtain ⟨k, rfl⟩ : ∃ m, k = m + 1 := ⟨k - 1, by omega⟩
    simp only [manciplelaw16_RupTrue.l0]
    rw [hun, hsh, if_pos (Int.natCast_nonneg n), if_neg (by omega)]
  | succ d ih =>
    intro k b hi hk
    obtain ⟨k, rfl⟩ : ∃ m, k = m + 1 := ⟨k - 1, by omega⟩
    obtain ⟨S, hS, hSl⟩ := SetOf_any n (by omega) (b : Int) n k 0 [] (by omega) (by simp) (by omega)
    obtain ⟨M, hM, hMl⟩ := Model_any n (by omega) S (by omega) k (by omega)
    obtain ⟨r, hr, hr2⟩ := First_loop n (by omega) M hMl l hl hc l.length k 0 (by omega) (by omega)
    have ih2 := ih k (b + 1) (by omega) (by omega)
    have hw := w_up b (by omega)
    have hb : (b : Int) < (Q : Int) := by omega
    simp only [manciplelaw16_RupTrue.l0]
    unfold mancipleref14_SetOf.f mancipleref14_First.f
    rw [hun, hsh, if_pos (Int.natCast_nonneg n), if_pos hb, show ((0 : Nat) : Int) = 0 from rfl] at *
    rw [hS, Option.bind_some, hM, Option.bind_some, hr, Option.bind_some, hw]
    by_cases h0 : r < 0
    · have hfa := First_all n (by omega) M hMl p hp hpc (himp M (by simpa using hr2 h0)) p.length k 0 (by omega) (by omega)
      rw [show ((0 : Nat) : Int) = 0 from rfl] at hfa
      rw [if_pos h0, hfa, Option.bind_some, if_neg (by decide)]
      exact ih2
    · rw [if_neg h0]
      exact ih2
end
theorem true_j0 (n : Int) (l p : List (List Int)) (k : Nat) (hk : 5000 ≤ k) (h0 : 0 ≤ n) (h9 : n ≤ 9) (hl : l.length ≤ 120) (hc : ∀ c ∈ l, okClause n c) (hp : p.length ≤ 40) (hpl : ∀ c ∈ p, c.length < 17592186044416) : manciplelaw16_RupTrue.j0 k n l p false = some true := by
  obtain ⟨k, rfl⟩ : ∃ m, k = m + 1 := ⟨k - 1, by omega⟩
  simp only [manciplelaw16_RupTrue.j0]
  have e6 : rup_Check.f n l p = some (rupChk n l p) := by unfold rup_Check.f; rw [if_pos (by omega)]
  rw [if_neg (by decide), To_eq l k (by omega) (fun c hcm => by have := (hc c hcm).1; omega) (by omega), Option.bind_some, To_eq p k (by omega) hpl (by omega), Option.bind_some, e6, Option.bind_some]
  by_cases h : (rupChk n l p).2 = 0
  · rw [if_pos h]
    obtain ⟨m, rfl⟩ : ∃ m : Nat, n = (m : Int) := ⟨n.toNat, by omega⟩
    have hl2 : ∀ c ∈ l, c.length ≤ 256 ∧ ∀ x ∈ c, lit (m + 1) x := fun c hcm => ⟨(hc c hcm).1, fun x hx => by
      obtain ⟨a, b, d⟩ := (hc c hcm).2 x hx
      exact ⟨a, by omega, by omega⟩⟩
    have hf : (rupFrom m l p 0).2 = 0 := by
      unfold rupChk at h
      by_cases h3 : (chkAll (m : Int) l).2 = 0
      · rwa [if_pos h3] at h
      · rw [if_neg h3] at h; exact absurd h h3
    obtain ⟨q1, q2⟩ := from_true p l 0 (fun c hcm => (hl2 c hcm).2) hf
    have hm9 : m ≤ 9 := by omega
    have hpow : 2 ^ m ≤ 2 ^ 9 := Nat.pow_le_pow_right (by omega) hm9
    have := t_l0 m hm9 l p hl (by omega) hl2 (fun c hcm => by have := rupFrom_lit (q1 c hcm); rwa [Int.toNat_natCast] at this) q2 (2 ^ m) k 0 (by omega) (by omega)
    exact this
  · rw [if_neg h]
def RupTruePure : Prop := ∀ (a0 : Int) (l1 l2 : List (List Int)), (∀ c ∈ l2, c.length < 17592186044416) → ∃ k, manciplelaw16_RupTrue.f k a0 l1 l2 = some true
theorem true_out (n : Int) (l p : List (List Int)) (k : Nat) : manciplelaw16_RupTrue.j0 (k + 1) n l p true = some true := by
  simp only [manciplelaw16_RupTrue.j0]
  rw [if_pos trivial]
theorem RupTrue : RupTruePure := by
  intro n l p hpl
  refine ⟨500001, ?_⟩
  obtain ⟨K, hK⟩ : ∃ K : Nat, K = 500000 := ⟨_, rfl⟩
  rw [show (500001 : Nat) = K + 1 by omega]
  unfold manciplelaw16_RupTrue.f
  rw [known_truth, Option.bind_some, if_pos rfl]
  obtain ⟨b, hb, hq⟩ := Small_any n 9 l (K + 1) (by omega)
  rw [hb, Option.bind_some]
  cases b with
  | false => rw [if_neg (by decide)]; exact true_out n l p K
  | true =>
    obtain ⟨h0, _, h9, hl, hc⟩ := hq rfl
    rw [if_pos rfl]
    by_cases h5 : (p.length : Int) > 40
    · rw [decide_eq_true h5]; exact true_out n l p K
    · rw [decide_eq_false h5]
      exact true_j0 n l p (K + 1) (by omega) h0 h9 hl hc (by omega) hpl
end Go.Proofs.Ytjbljblhbmfbpaa.PureR
