/-
  What propagation reaches is the least row that is closed: it is closed, it has the literals, and it lies in each closed row that has them. Conditions: each literal is one of the variables.
-/
import Derived.Test.YtjbljblhbmfbpaaPureRAny
namespace Go.Proofs.Ytjbljblhbmfbpaa.PureR
open Prop15

theorem lit_of {n x : Int} (h0 : 0 ≤ n) (h : x ≠ 0 ∧ x ≤ n ∧ -n ≤ x) : lit (n.toNat + 1) x := ⟨h.1, by omega, by omega⟩
theorem out_len : ∀ (m : List Int) (i : Nat), (outF i m).length ≤ m.length
  | [], _ => Nat.le_refl _
  | v :: r, i => by
    have := out_len r (i + 1)
    simp only [outF]
    split <;> simp <;> omega
theorem iter_row {n : Nat} (l : List (List Int)) (hc : ∀ c ∈ l, ∀ x ∈ c, lit (n + 1) x) : ∀ (f : Nat) (m m' : List Int), Row (n + 1) m → iter l f m = some m' → Row (n + 1) m'
  | 0, m, m', hr, h => by simp only [iter, Option.some.injEq] at h; rw [← h]; exact hr
  | f + 1, m, m', hr, h => by
    simp only [iter] at h
    obtain ⟨⟨m1, q⟩, h1, h2⟩ := Option.bind_eq_some_iff.mp h
    have hf := (pass_facts l hr hc h1).1
    cases q with
    | true => exact iter_row l hc f m1 m' hf h2
    | false => simp at h2; rw [← h2]; exact hf
theorem close_row {n : Nat} {l : List (List Int)} {lits m : List Int} (hc : ∀ c ∈ l, ∀ x ∈ c, lit (n + 1) x) (hv : ∀ x ∈ lits, lit (n + 1) x) (h : close n l lits = some m) : Row (n + 1) m := by
  unfold close at h
  obtain ⟨m1, h1, h2⟩ := Option.bind_eq_some_iff.mp h
  exact iter_row l hc _ _ _ (puts_facts lits (Row.zero n) hv h1) h2

def Le (m M : List Int) : Prop := ∀ i, m.getD i 0 ≠ 0 → M.getD i 0 = m.getD i 0
theorem Le.refl (m : List Int) : Le m m := fun _ _ => rfl
theorem Le.trans {a b c : List Int} (h : Le a b) (k : Le b c) : Le a c := fun i hi => by
  have := h i hi
  rw [← this] at hi ⊢
  exact k i hi
theorem Le.vl {m M : List Int} (h : Le m M) {x : Int} (hx : vl m x ≠ 0) : vl M x = vl m x := by
  unfold Prop15.vl at *
  split
  · rename_i hn; rw [if_pos hn] at hx; rw [h _ (by omega)]
  · rename_i hn; rw [if_neg hn] at hx; rw [h _ hx]
def Closed (l : List (List Int)) (M : List Int) : Prop := ∀ c ∈ l, see M c = some (M, false)

theorem getD_st {N : Nat} {m : List Int} (hm : m.length = N) {v : Int} (hv : lit N v) (i : Nat) :
    (st m v).getD i 0 = if (i : Int) = v then 1 else if (i : Int) = -v then -1 else m.getD i 0 := by
  obtain ⟨h0, h1, h2⟩ := hv
  unfold st
  split
  · rename_i hn
    rw [getD_set]
    by_cases e : (i : Int) = -v
    · rw [if_pos (by omega), if_neg (by omega), if_pos e]
    · rw [if_neg (by omega), if_neg (by omega), if_neg e]
  · rename_i hn
    rw [getD_set]
    by_cases e : (i : Int) = v
    · rw [if_pos (by omega), if_pos e]
    · rw [if_neg (by omega), if_neg e, if_neg (by omega)]
theorem vl_pos {m : List Int} {i : Nat} : vl m (i : Int) = m.getD i 0 := by
  unfold vl; rw [if_neg (by omega)]; simp
theorem vl_neg {m : List Int} {i : Nat} (h : 1 ≤ i) : vl m (-(i : Int)) = -(m.getD i 0) := by
  unfold vl; rw [if_pos (by omega)]; simp
theorem Le_st {N : Nat} {m M : List Int} (hm : m.length = N) {v : Int} (hv : lit N v) (h : Le m M) (h1 : vl M v = 1) : Le (st m v) M := by
  intro i hi
  rw [getD_st hm hv] at hi ⊢
  split
  · rename_i e
    rw [← e, vl_pos] at h1; exact h1
  · rename_i e
    split
    · rename_i e2
      have hv0 := hv.1
      rw [show v = -(i : Int) by omega, vl_neg (by omega)] at h1; omega
    · rename_i e2
      rw [if_neg e, if_neg e2] at hi
      exact h i hi
theorem st_grow {N : Nat} {m : List Int} (hm : m.length = N) {v : Int} (hv : lit N v) (h0 : vl m v = 0) : Le m (st m v) := by
  intro i hi
  rw [getD_st hm hv]
  split
  · rename_i e; rw [← e, vl_pos] at h0; exact absurd h0 hi
  · split
    · rename_i e
      have hv0 := hv.1
      rw [show v = -(i : Int) by omega, vl_neg (by omega)] at h0; omega
    · rfl
theorem vl_st {N : Nat} {m : List Int} (hm : m.length = N) {v : Int} (hv : lit N v) : vl (st m v) v = 1 := by
  obtain ⟨h0, h1, h2⟩ := hv
  by_cases hn : v < 0
  · obtain ⟨i, rfl⟩ : ∃ i : Nat, v = -(i : Int) := ⟨(-v).toNat, by omega⟩
    rw [vl_neg (by omega), getD_st hm ⟨h0, h1, h2⟩, if_neg (by omega), if_pos (by omega)]; rfl
  · obtain ⟨i, rfl⟩ : ∃ i : Nat, v = (i : Int) := ⟨v.toNat, by omega⟩
    rw [vl_pos, getD_st hm ⟨h0, h1, h2⟩, if_pos rfl]

theorem uF_against (m : List Int) : ∀ (c : List Int) (u v : Int), (∀ x ∈ c, x ≠ 0) → uF m u c = (v, true) → u = 0 ∧ ∀ x ∈ c, vl m x < 0
  | [], u, v, _, h => by
    simp only [uF, Prod.mk.injEq, beq_iff_eq] at h
    exact ⟨h.2, fun x hx => by cases hx⟩
  | x :: c, u, v, hc, h => by
    have hx0 := hc x List.mem_cons_self
    have hc' : ∀ y ∈ c, y ≠ 0 := fun y hy => hc y (List.mem_cons_of_mem _ hy)
    simp only [uF] at h
    split at h
    · simp at h
    · split at h
      · rename_i h2
        obtain ⟨h3, h4⟩ := uF_against m c u v hc' h
        refine ⟨h3, fun y hy => ?_⟩
        rcases List.mem_cons.mp hy with rfl | hy
        · rcases h2 with h2 | h2
          · exact h2
          · omega
        · exact h4 y hy
      · split at h
        · exact absurd (uF_against m c x v hc' h).1 hx0
        · simp at h
theorem uF_unit (m : List Int) (hs : Sg m) : ∀ (c : List Int) (u v : Int), (∀ x ∈ c, x ≠ 0) → (u = 0 ∨ vl m u = 0) → v ≠ 0 → uF m u c = (v, false) →
    vl m v = 0 ∧ (u ≠ 0 → v = u) ∧ (∀ x ∈ c, vl m x < 0 ∨ x = v) ∧ (v = u ∨ v ∈ c)
  | [], u, v, _, hu, hv, h => by
    simp only [uF, Prod.mk.injEq] at h
    obtain ⟨rfl, _⟩ := h
    exact ⟨hu.resolve_left hv, fun _ => rfl, fun x hx => (by cases hx), .inl rfl⟩
  | x :: c, u, v, hc, hu, hv, h => by
    have hx0 := hc x List.mem_cons_self
    have hc' : ∀ y ∈ c, y ≠ 0 := fun y hy => hc y (List.mem_cons_of_mem _ hy)
    simp only [uF] at h
    split at h
    · simp only [Prod.mk.injEq] at h; exact absurd h.1.symm hv
    · rename_i h1
      split at h
      · rename_i h2
        obtain ⟨a, b, d, e⟩ := uF_unit m hs c u v hc' hu hv h
        refine ⟨a, b, fun y hy => ?_, e.imp id (List.mem_cons_of_mem _)⟩
        rcases List.mem_cons.mp hy with rfl | hy
        · rcases h2 with h2 | h2
          · exact .inl h2
          · have := b (by omega); omega
        · exact d y hy
      · rename_i h2
        split at h
        · rename_i h3
          have hvx : vl m x = 0 := by have := fun h => h2 (.inl h); omega
          obtain ⟨a, b, d, e⟩ := uF_unit m hs c x v hc' (.inr hvx) hv h
          have hb := b hx0
          refine ⟨a, fun h => absurd h3 h, fun y hy => ?_, .inr (by rw [hb]; exact List.mem_cons_self)⟩
          rcases List.mem_cons.mp hy with rfl | hy
          · exact .inr hb.symm
          · exact d y hy
        · simp only [Prod.mk.injEq] at h; exact absurd h.1.symm hv
theorem scan_neg (M : List Int) : ∀ (c : List Int), (∀ x ∈ c, vl M x < 0) → scan M 0 c = none
  | [], _ => rfl
  | x :: c, h => by
    simp only [scan]
    rw [if_pos (.inl (h x List.mem_cons_self))]
    exact scan_neg M c (fun y hy => h y (List.mem_cons_of_mem _ hy))
theorem scan_only (M : List Int) (v : Int) (hv : v ≠ 0) (hn : ¬ vl M v < 0) : ∀ (c : List Int) (left : Int), (∀ x ∈ c, vl M x < 0 ∨ x = v) → ((left = 0 ∧ v ∈ c) ∨ left = v) → scan M left c = put M v
  | [], left, _, h => by
    rcases h with h | rfl
    · cases h.2
    · simp [scan, hv]
  | x :: c, left, hc, h => by
    have hc' : ∀ y ∈ c, vl M y < 0 ∨ y = v := fun y hy => hc y (List.mem_cons_of_mem _ hy)
    simp only [scan]
    split
    · rename_i h2
      refine scan_only M v hv hn c left hc' ?_
      rcases h with ⟨h3, h4⟩ | h3
      · refine .inl ⟨h3, ?_⟩
        rcases List.mem_cons.mp h4 with rfl | h4
        · rcases h2 with h2 | h2
          · exact absurd h2 hn
          · omega
        · exact h4
      · exact .inr h3
    · rename_i h2
      have hxv : x = v := (hc x List.mem_cons_self).resolve_left (fun h => h2 (.inl h))
      rcases h with ⟨h3, h4⟩ | h3
      · rw [if_neg (by simpa using h3)]
        exact scan_only M v hv hn c x hc' (.inr hxv)
      · exact absurd (.inr (hxv.trans h3.symm)) h2

theorem see_le {N : Nat} {m M c : List Int} (hm : Row N m) (hM : Row N M) (h : Le m M) (hc : ∀ x ∈ c, lit N x) (hs : see M c = some (M, false)) : ∃ m1 b, see m c = some (m1, b) ∧ Le m1 M := by
  have hc0 : ∀ x ∈ c, x ≠ 0 := fun x hx => (hc x hx).1
  have e : see m c = uTells m (uF m 0 c) := scan_uF m hm.sg c 0 (.inl rfl) hc0
  obtain ⟨v, q, hvq⟩ : ∃ v q, uF m 0 c = (v, q) := ⟨_, _, rfl⟩
  rw [hvq] at e
  cases q with
  | true =>
    have hn := (uF_against m c 0 v hc0 hvq).2
    have : scan M 0 c = none := scan_neg M c (fun x hx => by have h1 := hn x hx; rw [h.vl (by omega)]; exact h1)
    unfold see at hs
    rw [this] at hs; cases hs
  | false =>
    by_cases hv0 : v = 0
    · refine ⟨m, false, ?_, h⟩
      rw [e]; simp [uTells, hv0]
    · obtain ⟨a, _, d, f⟩ := uF_unit m hm.sg c 0 v hc0 (.inl rfl) hv0 hvq
      have hvc : v ∈ c := f.resolve_left hv0
      have hvl := hc v hvc
      refine ⟨st m v, true, ?_, Le_st hm.len hvl h ?_⟩
      · rw [e]; simp [uTells, hv0]
      · have d' : ∀ x ∈ c, vl M x < 0 ∨ x = v := fun x hx => (d x hx).imp (fun h1 => by rw [h.vl (by omega)]; exact h1) id
        unfold see at hs
        rcases sg_vl hM.sg v with g | g | g
        · rw [scan_only M v hv0 (by omega) c 0 d' (.inl ⟨rfl, hvc⟩)] at hs
          unfold put at hs
          rw [g] at hs
          simp at hs
        · exact g
        · rw [scan_neg M c (fun x hx => (d' x hx).elim id (fun h => by rw [h, g]; decide))] at hs
          cases hs
theorem see_grow {N : Nat} {m m1 c : List Int} {b : Bool} (hm : Row N m) (hc : ∀ x ∈ c, lit N x) (h : see m c = some (m1, b)) : Le m m1 := by
  rcases see_put h with e | ⟨x, hx, _, hp⟩
  · simp only [Prod.mk.injEq] at e; rw [e.1]; exact Le.refl _
  · unfold put at hp
    split at hp
    · simp only [Option.some.injEq, Prod.mk.injEq] at hp; rw [← hp.1]; exact Le.refl _
    · rename_i h1
      split at hp
      · cases hp
      · rename_i h2
        simp only [Option.some.injEq, Prod.mk.injEq] at hp
        rw [← hp.1]
        refine st_grow hm.len (hc x hx) ?_
        rcases sg_vl hm.sg x with g | g | g
        · exact g
        · exact absurd g h1
        · exact absurd g h2

theorem pass_le {N : Nat} {M : List Int} (hM : Row N M) : ∀ (l : List (List Int)) (m : List Int) (b : Bool), Row N m → Le m M → (∀ c ∈ l, ∀ x ∈ c, lit N x) → Closed l M → ∃ m1 b1, pass m b l = some (m1, b1) ∧ Le m1 M
  | [], m, b, _, h, _, _ => ⟨m, b, rfl, h⟩
  | c :: l, m, b, hm, h, hc, hcl => by
    obtain ⟨m1, b1, h1, h2⟩ := see_le hm hM h (hc c List.mem_cons_self) (hcl c List.mem_cons_self)
    obtain ⟨m2, b2, h3, h4⟩ := pass_le hM l m1 (b1 || b) (hm.see (hc c List.mem_cons_self) h1) h2 (fun y hy => hc y (List.mem_cons_of_mem _ hy)) (fun y hy => hcl y (List.mem_cons_of_mem _ hy))
    refine ⟨m2, b2, ?_, h4⟩
    simp only [pass, h1, Option.bind_some]
    exact h3
theorem pass_grow {N : Nat} : ∀ (l : List (List Int)) (m m1 : List Int) (b b1 : Bool), Row N m → (∀ c ∈ l, ∀ x ∈ c, lit N x) → pass m b l = some (m1, b1) → Le m m1
  | [], m, m1, b, b1, _, _, h => by simp only [pass, Option.some.injEq, Prod.mk.injEq] at h; rw [h.1]; exact Le.refl _
  | c :: l, m, m1, b, b1, hm, hc, h => by
    simp only [pass] at h
    obtain ⟨⟨m2, q⟩, h1, h2⟩ := Option.bind_eq_some_iff.mp h
    have hcc := hc c List.mem_cons_self
    exact (see_grow hm hcc h1).trans (pass_grow l m2 m1 _ b1 (hm.see hcc h1) (fun y hy => hc y (List.mem_cons_of_mem _ hy)) h2)
theorem pass_false {N : Nat} : ∀ (l : List (List Int)) (m m1 : List Int) (b : Bool), Row N m → (∀ c ∈ l, ∀ x ∈ c, lit N x) → pass m b l = some (m1, false) → b = false ∧ m1 = m ∧ Closed l m
  | [], m, m1, b, _, _, h => by
    simp only [pass, Option.some.injEq, Prod.mk.injEq] at h
    exact ⟨h.2, h.1.symm, fun c hc => by cases hc⟩
  | c :: l, m, m1, b, hm, hc, h => by
    simp only [pass] at h
    obtain ⟨⟨m2, q⟩, h1, h2⟩ := Option.bind_eq_some_iff.mp h
    have hcc := hc c List.mem_cons_self
    obtain ⟨h3, h4, h5⟩ := pass_false l m2 m1 _ (hm.see hcc h1) (fun y hy => hc y (List.mem_cons_of_mem _ hy)) h2
    simp only [Bool.or_eq_false_iff] at h3
    have hq : q = false := h3.1
    subst hq
    have hmm : m2 = m := (see_facts hm.sg hm.len hcc h1).2.2.1 rfl
    subst hmm
    refine ⟨h3.2, h4, fun y hy => ?_⟩
    rcases List.mem_cons.mp hy with rfl | hy
    · exact h1
    · exact h5 y hy
theorem iter_le {N : Nat} {M : List Int} (hM : Row N M) (l : List (List Int)) (hc : ∀ c ∈ l, ∀ x ∈ c, lit N x) (hcl : Closed l M) : ∀ (f : Nat) (m : List Int), Row N m → Le m M → ∃ m1, iter l f m = some m1 ∧ Le m1 M
  | 0, m, _, h => ⟨m, rfl, h⟩
  | f + 1, m, hm, h => by
    obtain ⟨m1, b1, h1, h2⟩ := pass_le hM l m false hm h hc hcl
    have hr := (pass_facts l hm hc h1).1
    simp only [iter, h1, Option.bind_some]
    cases b1 with
    | true => exact iter_le hM l hc hcl f m1 hr h2
    | false => exact ⟨m1, rfl, h2⟩
theorem iter_closed {N : Nat} (l : List (List Int)) (hc : ∀ c ∈ l, ∀ x ∈ c, lit N x) : ∀ (f : Nat) (m m1 : List Int), Row N m → zc m < f → iter l f m = some m1 → Closed l m1 ∧ Le m m1
  | 0, m, m1, _, hz, _ => absurd hz (Nat.not_lt_zero _)
  | f + 1, m, m1, hm, hz, h => by
    simp only [iter] at h
    obtain ⟨⟨m2, q⟩, h1, h2⟩ := Option.bind_eq_some_iff.mp h
    have hr := pass_facts l hm hc h1
    have hg := pass_grow l m m2 false q hm hc h1
    cases q with
    | true =>
      have := hr.2.2 rfl
      obtain ⟨h3, h4⟩ := iter_closed l hc f m2 m1 hr.1 (by simp at this; omega) h2
      exact ⟨h3, hg.trans h4⟩
    | false =>
      simp at h2
      obtain ⟨_, h4, h5⟩ := pass_false l m m2 false hm hc h1
      rw [← h2, h4]
      exact ⟨h5, Le.refl _⟩
theorem puts_le {N : Nat} {M : List Int} (_hM : Row N M) : ∀ (lits : List Int) (m : List Int), Row N m → Le m M → (∀ x ∈ lits, lit N x) → (∀ x ∈ lits, vl M x = 1) → ∃ m1, puts m lits = some m1 ∧ Le m1 M
  | [], m, _, h, _, _ => ⟨m, rfl, h⟩
  | x :: r, m, hm, h, hl, hv => by
    have hx := hl x List.mem_cons_self
    have hx1 := hv x List.mem_cons_self
    have hl' : ∀ y ∈ r, lit N y := fun y hy => hl y (List.mem_cons_of_mem _ hy)
    have hv' : ∀ y ∈ r, vl M y = 1 := fun y hy => hv y (List.mem_cons_of_mem _ hy)
    simp only [puts]
    unfold put
    rcases sg_vl hm.sg x with g | g | g
    · rw [g]
      simp only [show ¬ ((0 : Int) = 1) by decide, show ¬ ((0 : Int) = -1) by decide, if_false, Option.bind_some]
      exact puts_le _hM r _ (hm.st hx) (Le_st hm.len hx h hx1) hl' hv'
    · rw [g]
      simp only [if_true, Option.bind_some]
      exact puts_le _hM r _ hm h hl' hv'
    · have := h.vl (x := x) (by omega)
      omega
theorem puts_has {N : Nat} : ∀ (lits : List Int) (m m1 : List Int), Row N m → (∀ x ∈ lits, lit N x) → puts m lits = some m1 → Le m m1 ∧ ∀ x ∈ lits, vl m1 x = 1
  | [], m, m1, _, _, h => by
    simp only [puts, Option.some.injEq] at h
    rw [h]
    exact ⟨Le.refl _, fun x hx => by cases hx⟩
  | x :: r, m, m1, hm, hl, h => by
    have hx := hl x List.mem_cons_self
    have hl' : ∀ y ∈ r, lit N y := fun y hy => hl y (List.mem_cons_of_mem _ hy)
    simp only [puts] at h
    obtain ⟨⟨m2, q⟩, h1, h2⟩ := Option.bind_eq_some_iff.mp h
    have hr2 := hm.put hx h1
    obtain ⟨h3, h4⟩ := puts_has r m2 m1 hr2 hl' h2
    have hg : Le m m2 ∧ vl m2 x = 1 := by
      unfold put at h1
      split at h1
      · rename_i g
        simp only [Option.some.injEq, Prod.mk.injEq] at h1; rw [← h1.1]; exact ⟨Le.refl _, g⟩
      · rename_i g1
        split at h1
        · cases h1
        · rename_i g2
          simp only [Option.some.injEq, Prod.mk.injEq] at h1
          rw [← h1.1]
          refine ⟨st_grow hm.len hx ?_, vl_st hm.len hx⟩
          rcases sg_vl hm.sg x with g | g | g
          · exact g
          · exact absurd g g1
          · exact absurd g g2
    refine ⟨hg.1.trans h3, fun y hy => ?_⟩
    rcases List.mem_cons.mp hy with rfl | hy
    · rw [h3.vl (by rw [hg.2]; decide)]; exact hg.2
    · exact h4 y hy

theorem zero_le (N : Nat) (M : List Int) : Le (List.replicate N 0) M := fun i hi => by
  refine absurd ?_ hi
  simp [List.getD_eq_getElem?_getD, List.getElem?_replicate]; split <;> rfl
/-- what is reached lies in each closed row that has the literals -/
theorem close_least {n : Nat} {l : List (List Int)} {lits M : List Int} (hc : ∀ c ∈ l, ∀ x ∈ c, lit (n + 1) x) (hv : ∀ x ∈ lits, lit (n + 1) x) (hM : Row (n + 1) M) (hcl : Closed l M) (hl : ∀ x ∈ lits, vl M x = 1) :
    ∃ m, close n l lits = some m ∧ Le m M := by
  obtain ⟨m1, h1, h2⟩ := puts_le hM lits _ (Row.zero n) (zero_le _ _) hv hl
  have hr := puts_facts lits (Row.zero n) hv h1
  obtain ⟨m2, h3, h4⟩ := iter_le hM l hc hcl (n + 2) m1 hr h2
  refine ⟨m2, ?_, h4⟩
  unfold close
  rw [h1, Option.bind_some]; exact h3
/-- and is such a row itself -/
theorem close_closed {n : Nat} {l : List (List Int)} {lits m : List Int} (hc : ∀ c ∈ l, ∀ x ∈ c, lit (n + 1) x) (hv : ∀ x ∈ lits, lit (n + 1) x) (h : close n l lits = some m) :
    Row (n + 1) m ∧ Closed l m ∧ ∀ x ∈ lits, vl m x = 1 := by
  have hrow := close_row hc hv h
  unfold close at h
  obtain ⟨m1, h1, h2⟩ := Option.bind_eq_some_iff.mp h
  have hr := puts_facts lits (Row.zero n) hv h1
  have hz : zc m1 < n + 2 := by have := zc_le m1; have := hr.len; omega
  obtain ⟨h3, h4⟩ := iter_closed l hc (n + 2) m1 m hr hz h2
  obtain ⟨_, h6⟩ := puts_has lits _ m1 (Row.zero n) hv h1
  exact ⟨hrow, h3, fun x hx => by rw [h4.vl (by rw [h6 x hx]; decide)]; exact h6 x hx⟩

theorem mem_out : ∀ (m : List Int) (i : Nat) (y : Int), y ∈ outF i m ↔ ∃ j, j < m.length ∧ m.getD j 0 ≠ 0 ∧ y = ((i + j : Nat) : Int) * m.getD j 0
  | [], i, y => by simp [outF]
  | v :: r, i, y => by
    have ih := mem_out r (i + 1) y
    simp only [outF]
    constructor
    · intro h
      split at h
      · obtain ⟨j, h1, h2, h3⟩ := ih.mp h
        exact ⟨j + 1, by simpa using h1, by simpa using h2, by rw [h3]; simp; congr 1; omega⟩
      · rename_i hv
        rcases List.mem_cons.mp h with rfl | h
        · exact ⟨0, by simp, by simpa using hv, by simp⟩
        · obtain ⟨j, h1, h2, h3⟩ := ih.mp h
          exact ⟨j + 1, by simpa using h1, by simpa using h2, by rw [h3]; simp; congr 1; omega⟩
    · rintro ⟨j, h1, h2, h3⟩
      cases j with
      | zero =>
        simp at h2 h3
        rw [if_neg h2, h3]
        exact List.mem_cons_self
      | succ j =>
        have hin : y ∈ outF (i + 1) r := ih.mpr ⟨j, by simpa using h1, by simpa using h2, by rw [h3]; simp; congr 1; omega⟩
        split
        · exact hin
        · exact List.mem_cons_of_mem _ hin
theorem out_vl {N : Nat} {m : List Int} (hm : Row N m) {y : Int} (hy : y ∈ outF 0 m) : lit N y ∧ vl m y = 1 := by
  obtain ⟨j, h1, h2, h3⟩ := (mem_out m 0 y).mp hy
  have hj : j ≠ 0 := by rintro rfl; exact h2 hm.z0
  have hl := hm.len
  rw [Nat.zero_add] at h3
  rcases hm.sg j with e | e | e
  · exact absurd e h2
  · rw [e, Int.mul_one] at h3
    subst h3
    exact ⟨⟨by omega, by omega, by omega⟩, by rw [vl_pos, e]⟩
  · rw [e] at h3
    obtain rfl : y = -(j : Int) := by omega
    exact ⟨⟨by omega, by omega, by omega⟩, by rw [vl_neg (by omega), e]; rfl⟩
theorem vl_out {N : Nat} {m : List Int} (hm : Row N m) {y : Int} (hy : lit N y) (h : vl m y = 1) : y ∈ outF 0 m := by
  have hl := hm.len
  obtain ⟨h0, h1, h2⟩ := hy
  by_cases hn : y < 0
  · obtain ⟨i, rfl⟩ : ∃ i : Nat, y = -(i : Int) := ⟨(-y).toNat, by omega⟩
    rw [vl_neg (by omega)] at h
    exact (mem_out m 0 _).mpr ⟨i, by omega, by omega, by rw [show m.getD i 0 = -1 by omega, Nat.zero_add]; omega⟩
  · obtain ⟨i, rfl⟩ : ∃ i : Nat, y = (i : Int) := ⟨y.toNat, by omega⟩
    rw [vl_pos] at h
    exact (mem_out m 0 _).mpr ⟨i, by omega, by omega, by rw [h, Nat.zero_add]; omega⟩

end Go.Proofs.Ytjbljblhbmfbpaa.PureR
