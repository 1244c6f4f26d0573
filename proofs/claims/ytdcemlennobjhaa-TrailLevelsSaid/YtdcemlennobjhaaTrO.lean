/-
  Plain: literals decided one by one, of variable 1, 2, ..: each is at a level of its own. Conditions: as each statement has them.
-/
import Derived.Test.YtdcemlennobjhaaTrL
namespace Go.Proofs.Ytdcemlennobjhaa.Tr
open Go.RowKit Go.Proofs.YtdcemlennobjhaaW.PrintWords Go.Proofs.Ytdcemlennobjhaa.PTrailPlays
set_option linter.unusedSimpArgs false
set_option linter.unusedVariables false

def lv : Nat → List Int → List En
  | _, [] => []
  | k, x :: r => ⟨x, k + 1, -1⟩ :: lv (k + 1) r
theorem lv_snoc : ∀ (xs : List Int) (k : Nat) (x : Int), lv k (xs ++ [x]) = lv k xs ++ [⟨x, k + xs.length + 1, -1⟩]
  | [], k, x => by simp [lv]
  | y :: r, k, x => by
    simp only [List.cons_append, lv, lv_snoc r, List.length_cons]
    rw [show k + 1 + r.length + 1 = k + (r.length + 1) + 1 by omega]
theorem lv_x : ∀ (xs : List Int) (k : Nat), (lv k xs).map En.x = xs
  | [], _ => rfl
  | y :: r, k => by simp only [lv, List.map_cons, lv_x r]
theorem lv_len (xs : List Int) (k : Nat) : (lv k xs).length = xs.length := by rw [← lv_x xs k, List.length_map, lv_x]
theorem lv_back : ∀ (xs : List Int) (j k : Nat), j ≤ k → backTo (lv j xs) k = lv j (xs.take (k - j))
  | [], j, k, _ => by simp [lv, backTo]
  | y :: r, j, k, h => by
    by_cases e : j = k
    · subst e
      have : ∀ (ys : List Int) (i : Nat), j ≤ i → backTo (lv i ys) j = [] := fun ys => by
        induction ys with
        | nil => intro i hi; rfl
        | cons z t ih =>
          intro i hi
          unfold backTo
          simp only [lv]
          rw [List.filter_cons_of_neg (by simp; omega)]
          exact ih (i + 1) (by omega)
      rw [this _ _ (Nat.le_refl _), Nat.sub_self]; rfl
    · have ih := lv_back r (j + 1) k (by omega)
      unfold backTo at ih ⊢
      simp only [lv]
      rw [List.filter_cons_of_pos (by simp; omega), ih, show k - j = (k - (j + 1)) + 1 by omega, List.take_succ_cons]
      simp only [lv]
/-- the trail of them -/
def D (N : Nat) (xs : List Int) : TS := conc N (lv 0 xs) xs.length
structure Sq (N : Nat) (xs : List Int) : Prop where
  wf : WF N (lv 0 xs) xs.length
  at_ : ∀ e ∈ lv 0 xs, e.x.natAbs = e.v ∧ 1 ≤ e.v ∧ e.v ≤ xs.length ∧ e.r = -1
theorem Sq.nil {N : Nat} (h : N ≤ 256) : Sq N [] := ⟨WF.empty h, fun e he => by cases he⟩
theorem D_l (N : Nat) (xs : List Int) : (D N xs).l = xs := lv_x xs 0
theorem D_f (N : Nat) (xs : List Int) : (D N xs).frm.length = xs.length := conc_f_length _ _ _
theorem D_o (N : Nat) (xs : List Int) : (D N xs).of.length = N + 1 := conc_of_length _ _ _
theorem Sq.room {N : Nat} {xs : List Int} (h : Sq N xs) : xs.length ≤ N := by
  by_cases h0 : xs = []
  · subst h0; exact Nat.zero_le _
  · obtain ⟨ys, x, rfl⟩ : ∃ ys x, xs = ys ++ [x] := ⟨xs.dropLast, xs.getLast h0, (List.dropLast_concat_getLast h0).symm⟩
    have hm : (⟨x, 0 + ys.length + 1, -1⟩ : En) ∈ lv 0 (ys ++ [x]) := by rw [lv_snoc]; simp
    have h1 := h.at_ _ hm
    have h2 := h.wf.lits _ hm
    simp only at h1 h2
    simp only [List.length_append, List.length_singleton]
    omega
theorem Sq.fine {N : Nat} {xs : List Int} (h : Sq N xs) : Fine (D N xs) := h.wf.fine (by rw [lv_len]; have := h.room; have := h.wf.n2; omega)
/-- one more -/
theorem Sq.snoc {N : Nat} {xs : List Int} (h : Sq N xs) {x : Int} (hx : x.natAbs = xs.length + 1) (hl : xs.length < N) : Sq N (xs ++ [x]) ∧ decE (D N xs) x = 0 ∧ decT (D N xs) x = D N (xs ++ [x]) := by
  have hf : isFree N (lv 0 xs) x := ⟨by omega, by omega, fun e he => by have := h.at_ e he; omega⟩
  have e1 : lv 0 (xs ++ [x]) = lv 0 xs ++ [⟨x, xs.length + 1, -1⟩] := by rw [lv_snoc, Nat.zero_add]
  refine ⟨⟨?_, fun e he => ?_⟩, may_free h.wf hf, ?_⟩
  · rw [e1, List.length_append]
    exact h.wf.snoc (e := ⟨x, xs.length + 1, -1⟩) hf rfl (by simp) (by simp) (by simp)
  · rw [e1] at he
    rw [List.length_append, List.length_singleton]
    rcases List.mem_append.1 he with he | he
    · have := h.at_ e he; omega
    · rw [List.mem_singleton.1 he]
      exact ⟨hx, by simp, by simp, rfl⟩
  · have := dec_conc h.wf hf
    unfold D
    rw [this, ← e1, List.length_append]; rfl
/-- back at a level -/
theorem Sq.back {N : Nat} {xs : List Int} (h : Sq N xs) {k : Nat} (hk : k ≤ xs.length) : Sq N (xs.take k) ∧ bacE (D N xs) (k : Int) = 0 ∧ bacT (D N xs) (k : Int) = D N (xs.take k) := by
  have hb : backTo (lv 0 xs) k = lv 0 (xs.take k) := by rw [lv_back xs 0 k (Nat.zero_le _), Nat.sub_zero]
  have hl : (xs.take k).length = k := by rw [List.length_take]; omega
  refine ⟨⟨?_, fun e he => ?_⟩, ?_, ?_⟩
  · rw [← hb, hl]; exact h.wf.back hk
  · rw [← hb] at he
    have h1 := List.mem_filter.1 he
    have h2 := h.at_ e h1.1
    have h3 := of_decide_eq_true h1.2
    rw [hl]
    omega
  · unfold D; rw [bacE_conc, if_pos ⟨by omega, by omega⟩]
  · unfold D; rw [bac_conc h.wf hk, hb, hl]
end Go.Proofs.Ytdcemlennobjhaa.Tr
