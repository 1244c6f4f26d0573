/-
  From more literals more follows, or all is against itself. No conditions but that the last number is a byte.
-/
import Derived.Test.YtjbljblhbmfbpaaTheory
import Derived.Test.YtjbljblhbmfbpaaPPropx5
namespace Go.Proofs.Ytjbljblhbmfbpaa.Pure
open Go.RowKit Go.Proofs.Ytjbljblhbmfbpaa.PProp Go.Proofs.YtjbljblhbmfbpaaW.PrintWords Go.Proofs.YtjbljblhbmfbpaaW.PrintLast Go.Proofs.YtjbljblhbmfbpaaW.PrintMore
open Prop15

theorem out_sub : ∀ (m M : List Int) (i : Nat), m.length = M.length → Le m M → (outF i m).Sublist (outF i M)
  | [], [], _, _, _ => List.Sublist.refl _
  | v :: r, v' :: r', i, hl, h => by
    have ht : Le r r' := fun j hj => by have := h (j + 1) (by simpa using hj); simpa using this
    have ih := out_sub r r' (i + 1) (by simpa using hl) ht
    simp only [outF]
    by_cases hv : v = 0
    · rw [if_pos hv]
      split
      · exact ih
      · exact ih.cons _
    · have : v' = v := by have := h 0 (by simpa using hv); simpa using this
      rw [if_neg hv, this, if_neg hv]
      exact ih.cons_cons _
  | [], _ :: _, _, hl, _ => by simp at hl
  | _ :: _, [], _, hl, _ => by simp at hl

theorem sub_ne {x y : Int} {a b : List Int} (h : (x :: a).Sublist (y :: b)) (hne : y ≠ x) : (x :: a).Sublist b := by
  cases h with
  | cons _ h => exact h
  | cons_cons _ h => exact absurd rfl hne
theorem sub_nil {x : Int} {a : List Int} (h : (x :: a).Sublist []) : False := by cases h

theorem More_loop (a b : List Int) (ha : a.length ≤ 1000) (hb : b.length ≤ 1000) : ∀ (d i t : Nat), i ≤ a.length → t ≤ b.length → (a.length - i) + (b.length - t) = d → (a.drop i).Sublist (b.drop t) →
    (∀ k, 2 * d + 1005 ≤ k + 1 → i < a.length → manciplelaw15_PropMore.l1 k a b (t : Int) (i : Int) = some true) ∧ (∀ k, 2 * d + 1005 ≤ k → manciplelaw15_PropMore.l0 k a b (t : Int) (i : Int) = some true) := by
  intro d
  induction d using Nat.strongRecOn with
  | ind d ih =>
  intro i t hi ht hd hs
  have h1 : ∀ k, 2 * d + 1005 ≤ k + 1 → i < a.length → manciplelaw15_PropMore.l1 k a b (t : Int) (i : Int) = some true := by
    intro k hk hia
    obtain ⟨k, rfl⟩ : ∃ m, k = m + 1 := ⟨k - 1, by omega⟩
    rw [drop_at a 0 i hia] at hs
    have htb : t < b.length := by
      apply Classical.byContradiction
      intro hc
      rw [List.drop_of_length_le (show b.length ≤ t by omega)] at hs
      exact sub_nil hs
    rw [drop_at b 0 t htb] at hs
    simp only [manciplelaw15_PropMore.l1]
    rw [if_pos (by omega), if_pos (by omega), if_pos (by omega), if_pos (by omega), rd_nat, rd_nat]
    by_cases he : b.getD t 0 = a.getD i 0
    · rw [if_pos he, if_neg (by omega), w_up _ (by omega)]
      refine (ih (d - 1) (by omega) (i + 1) t (by omega) (by omega) (by omega) ?_).2 k (by omega)
      rw [drop_at b 0 t htb]
      rw [he] at hs ⊢
      exact (List.cons_sublist_cons.mp hs).cons _
    · rw [if_neg he, w_up _ (by omega)]
      refine (ih (d - 1) (by omega) i (t + 1) (by omega) (by omega) (by omega) ?_).1 k (by omega) hia
      rw [drop_at a 0 i hia]
      exact sub_ne hs he
  refine ⟨h1, fun k hk => ?_⟩
  obtain ⟨k, rfl⟩ : ∃ m, k = m + 1 := ⟨k - 1, by omega⟩
  simp only [manciplelaw15_PropMore.l0]
  by_cases hia : i < a.length
  · rw [if_pos (by omega)]
    exact h1 k (by omega) hia
  · rw [if_neg (by omega), Ints_eq b k (by omega) (by omega), Option.bind_some]

def PropMorePure : Prop := ∀ (a0 : Int) (l1 : List (List Int)) (l2 : List Int) (a3 : Int), (Lit.int .u8 a3).wf = true → ∃ k, manciplelaw15_PropMore.f k a0 l1 l2 a3 = some true
theorem PropMore : PropMorePure := by
  intro n l lits cut hcut
  have b3 : 0 ≤ cut ∧ cut ≤ 255 := by simpa [Lit.wf, IntKind.min, IntKind.max, IntKind.signed, IntKind.bits] using hcut
  refine ⟨500001, ?_⟩
  unfold manciplelaw15_PropMore.f
  rw [known_at _ (by omega), Option.bind_some, if_pos rfl]
  obtain ⟨b1, hb1, hq1⟩ := Small_any n 40 l 500001 (by omega)
  rw [hb1, Option.bind_some]
  cases b1 with
  | false => simp [manciplelaw15_PropMore.j0]
  | true =>
    obtain ⟨h0, h1, _, hl, hc⟩ := hq1 rfl
    obtain ⟨b2, hb2, hq2⟩ := Lits_any n lits 500001 (by omega) h0 h1
    rw [if_pos rfl, hb2, Option.bind_some]
    cases b2 with
    | false => simp [manciplelaw15_PropMore.j0]
    | true =>
      obtain ⟨hll, hv⟩ := hq2 rfl
      have hc' : ∀ c ∈ l, ∀ x ∈ c, lit (n.toNat + 1) x := fun c hcc x hx => lit_of h0 ((hc c hcc).2 x hx)
      have hv' : ∀ x ∈ lits, lit (n.toNat + 1) x := fun x hx => lit_of h0 (hv x hx)
      obtain ⟨q, hq⟩ : ∃ q : Nat, Int.tmod (wrap64 cut) (wrap64 ((lits.length : Int) + 1)) = (q : Int) := by
        rw [w_up _ (by omega), w_in cut (by omega) (by omega), Int.tmod_eq_emod_of_nonneg b3.1]
        exact ⟨(cut % ((lits.length + 1 : Nat) : Int)).toNat, (Int.toNat_of_nonneg (Int.emod_nonneg _ (by omega))).symm⟩
      have hqle : q ≤ lits.length := by
        rw [w_up _ (by omega), w_in cut (by omega) (by omega), Int.tmod_eq_emod_of_nonneg b3.1] at hq
        have := Int.emod_lt_of_pos cut (show (0 : Int) < ((lits.length + 1 : Nat) : Int) by omega)
        omega
      have hvq : ∀ x ∈ lits.take q, x ≠ 0 ∧ x ≤ n ∧ -n ≤ x := fun x hx => hv x (List.mem_of_mem_take hx)
      have hvq' : ∀ x ∈ lits.take q, lit (n.toNat + 1) x := fun x hx => hv' x (List.mem_of_mem_take hx)
      have hT := To_eq l 500000 (by omega) (fun c hcc => by have := (hc c hcc).1; omega) (by omega)
      simp only [manciplelaw15_PropMore.j0, Bool.not_true, Bool.false_eq_true, if_false]
      rw [if_neg (by rw [w_up _ (by omega)]; omega), hT, Option.bind_some, hq, if_pos (by omega), if_pos (by omega), Int.toNat_natCast, Pc_eq n l _ h0 h1 hc hvq, Option.bind_some, Option.bind_some, Pc_eq n l lits h0 h1 hc hv, Option.bind_some]
      cases hB : close n.toNat l lits with
      | none =>
        cases hA : close n.toNat l (lits.take q) with
        | none => simp [closeTells, wrap64]
        | some m => simp [closeTells]
      | some M =>
        obtain ⟨hM, hcl, hlt⟩ := close_closed hc' hv' hB
        obtain ⟨m, hA, hle⟩ := close_least hc' hvq' hM hcl (fun x hx => hlt x (List.mem_of_mem_take hx))
        have hm := (close_closed hc' hvq' hA).1
        rw [hA]
        simp only [closeTells, Bool.false_eq_true, if_false]
        have e1 := out_len m 0
        have e2 := out_len M 0
        have e3 := hm.len
        have e4 := hM.len
        exact (More_loop (outF 0 m) (outF 0 M) (by omega) (by omega) _ 0 0 (by omega) (by omega) rfl (by simpa using out_sub m M 0 (by omega) hle)).2 500000 (by omega)

end Go.Proofs.Ytjbljblhbmfbpaa.Pure
