/-
  The reference's own propagation tells what the plain one tells. Conditions: up to 256 variables, clauses of up to 256 literals, each one of these; up to 1000 clauses and literals.
-/
import Derived.Test.YtjbljblhbmfbpaaPureRCommon
import Derived.Test.YtjbljblhbmfbpaaCloseSteps
namespace Go.Proofs.Ytjbljblhbmfbpaa.PureR
open Go.RowKit Go.Proofs.Ytjbljblhbmfbpaa.PRup Go.Proofs.YtjbljblhbmfbpaaW.PrintWords Go.Proofs.YtjbljblhbmfbpaaW.PrintLast Go.Proofs.YtjbljblhbmfbpaaW.PrintMore
open Prop15

/-- a row of signs as it stands in a run: so long, signs alone, the first place empty -/
structure Row (N : Nat) (m : List Int) : Prop where
  len : m.length = N
  sg : Sg m
  z0 : m.getD 0 0 = 0

theorem Row.st {N : Nat} {m : List Int} (h : Row N m) {x : Int} (hx : lit N x) : Row N (st m x) := by
  refine ⟨(st_length m x).trans h.len, sg_st h.sg x, ?_⟩
  obtain ⟨h0, h1, h2⟩ := hx
  unfold Prop15.st
  split
  · rw [getD_set, if_neg (by omega)]; exact h.z0
  · rw [getD_set, if_neg (by omega)]; exact h.z0
theorem Row.put {N : Nat} {m m' : List Int} (h : Row N m) {x : Int} (hx : lit N x) {b : Bool} (hp : put m x = some (m', b)) : Row N m' := by
  unfold Prop15.put at hp
  split at hp
  · simp only [Option.some.injEq, Prod.mk.injEq] at hp; rw [← hp.1]; exact h
  · split at hp
    · cases hp
    · simp only [Option.some.injEq, Prod.mk.injEq] at hp; rw [← hp.1]; exact h.st hx
theorem Row.see {N : Nat} {m m' c : List Int} (h : Row N m) (hc : ∀ x ∈ c, lit N x) {b : Bool} (hp : see m c = some (m', b)) : Row N m' := by
  rcases see_put hp with e | ⟨x, hx, _, hq⟩
  · simp only [Prod.mk.injEq] at e; rw [e.1]; exact h
  · exact h.put (hc x hx) hq
theorem Row.zero (n : Nat) : Row (n + 1) (List.replicate (n + 1) 0) :=
  ⟨by simp, fun i => .inl (by simp [List.getD_eq_getElem?_getD, List.getElem?_replicate]; split <;> rfl), by simp⟩
theorem set_self (m : List Int) (j : Nat) (v : Int) (h : m.getD j 0 = v) : m.set j v = m := by
  apply List.ext_getElem?
  intro i
  rw [List.getElem?_set]
  split
  · rename_i e
    subst e
    split
    · rename_i hl
      rw [List.getD_eq_getElem?_getD, List.getElem?_eq_getElem hl] at h
      rw [List.getElem?_eq_getElem hl, ← h]; rfl
    · rename_i hl
      rw [List.getElem?_eq_none (by omega)]
  · rfl
theorem st_self (m : List Int) (x : Int) (h : vl m x = 1) : st m x = m := by
  unfold vl at h
  unfold st
  split at h
  · rename_i hx; rw [if_pos hx]; exact set_self _ _ _ (by omega)
  · rename_i hx; rw [if_neg hx]; exact set_self _ _ _ h

theorem val_eq {N : Nat} (hN : N ≤ 1000000) {m : List Int} (h : Row N m) {x : Int} (hx : lit N x) : mancipleref20_val.f m x = some (vl m x) := by
  obtain ⟨h0, h1, h2⟩ := hx
  have hl := h.len
  unfold mancipleref20_val.f vl
  by_cases hn : x < 0
  · rw [if_pos hn, if_pos hn, w_in (-x) (by omega) (by omega), if_pos (by omega), if_pos (by omega)]
    have : rd m (-x) = m.getD (-x).toNat 0 := rfl
    rw [this]
    rw [w_in _ (by rcases h.sg (-x).toNat with e | e | e <;> rw [e] <;> decide) (by rcases h.sg (-x).toNat with e | e | e <;> rw [e] <;> decide)]
  · rw [if_neg hn, if_neg hn, if_pos (by omega), if_pos (by omega)]; rfl
theorem set_eq {N : Nat} (hN : N ≤ 1000000) {m : List Int} (h : Row N m) {x : Int} (hx : lit N x) : mancipleref20_set.f m x = some (st m x) := by
  obtain ⟨h0, h1, h2⟩ := hx
  have hl := h.len
  unfold mancipleref20_set.f st
  by_cases hn : x < 0
  · rw [if_pos hn, if_pos hn, w_in (-x) (by omega) (by omega), if_pos (by omega), if_pos (by omega)]
  · rw [if_neg hn, if_neg hn, if_pos (by omega), if_pos (by omega)]

/-- the reference's look at a clause -/
def uF (m : List Int) : Int → List Int → Int × Bool
  | u, [] => (u, u == 0)
  | u, x :: c => if vl m x > 0 then (0, false) else if vl m x < 0 ∨ x = u then uF m u c else if u = 0 then uF m x c else (0, false)
theorem unit_loop {N : Nat} (hN : N ≤ 1000000) {m : List Int} (h : Row N m) (c : List Int) (hc : ∀ x ∈ c, lit N x) (hcl : c.length ≤ 100000) : ∀ (d k i : Nat) (u : Int), i + d = c.length → 2 * d < k →
    mancipleref20_unit.l0 k c m u (i : Int) = some (uF m u (c.drop i)) := by
  intro d
  induction d with
  | zero =>
    intro k i u hi hk
    obtain ⟨k, rfl⟩ : ∃ m, k = m + 1 := ⟨k - 1, by omega⟩
    simp only [mancipleref20_unit.l0]
    rw [if_neg (by omega), List.drop_of_length_le (by omega)]
    rfl
  | succ d ih =>
    intro k i u hi hk
    obtain ⟨k, rfl⟩ : ∃ m, k = m + 2 := ⟨k - 2, by omega⟩
    have hx := hc _ (mem_at c 0 i (by omega))
    rw [drop_at c 0 i (by omega)]
    simp only [mancipleref20_unit.l0, uF]
    rw [if_pos (by omega), if_pos (by omega), rd_nat, val_eq hN h hx, Option.bind_some]
    by_cases h1 : vl m (c.getD i 0) > 0
    · rw [if_pos h1, if_pos h1]
    · rw [if_neg h1, if_neg h1]
      by_cases h2 : vl m (c.getD i 0) < 0
      · rw [if_pos h2, if_pos (.inl h2)]
        simp only [mancipleref20_unit.j1, if_true]
        rw [w_up _ (by omega)]
        exact ih k (i + 1) u (by omega) (by omega)
      · rw [if_neg h2]
        simp only [mancipleref20_unit.j1]
        by_cases h3 : c.getD i 0 = u
        · rw [if_pos (by simpa using h3), if_pos (.inr h3), w_up _ (by omega)]
          exact ih k (i + 1) u (by omega) (by omega)
        · rw [if_neg (by simpa using h3), if_neg (show ¬ (vl m (c.getD i 0) < 0 ∨ c.getD i 0 = u) from fun hh => hh.elim h2 h3)]
          by_cases h4 : u = 0
          · rw [if_pos h4, if_pos h4, if_pos (by omega), if_pos (by omega), w_up _ (by omega), rd_nat]
            exact ih k (i + 1) _ (by omega) (by omega)
          · rw [if_neg h4, if_neg h4]
theorem sat_scan (m : List Int) : ∀ (c : List Int) (u : Int), u ≠ 0 → vl m u = 1 → scan m u c = some (m, false)
  | [], u, h0, h1 => by simp [scan, h0, put, h1]
  | x :: c, u, h0, h1 => by
    simp only [scan]
    split
    · exact sat_scan m c u h0 h1
    · first | rfl | rw [if_pos h0]
def uTells (m : List Int) : Int × Bool → Option (List Int × Bool)
  | (_, true) => none
  | (v, false) => if v = 0 then some (m, false) else some (st m v, true)
theorem scan_uF (m : List Int) (hs : Sg m) : ∀ (c : List Int) (u : Int), (u = 0 ∨ vl m u = 0) → (∀ x ∈ c, x ≠ 0) → scan m u c = uTells m (uF m u c)
  | [], u, hu, _ => by
    simp only [scan, uF]
    by_cases h0 : u = 0
    · subst h0; rfl
    · have h1 := hu.resolve_left h0
      rw [if_neg h0, show (u == 0) = false from beq_eq_false_iff_ne.mpr h0]
      simp [uTells, h0, put, h1]
  | x :: c, u, hu, hc => by
    have hx0 := hc x List.mem_cons_self
    have hc' : ∀ y ∈ c, y ≠ 0 := fun y hy => hc y (List.mem_cons_of_mem _ hy)
    simp only [scan, uF]
    by_cases h1 : vl m x > 0
    · rw [if_pos h1]
      have hv : vl m x = 1 := by rcases sg_vl hs x with e | e | e <;> omega
      have hxu : ¬ x = u := by
        rintro rfl
        rcases hu with h | h
        · exact hx0 h
        · omega
      rw [if_neg (fun hh => hh.elim (fun h => by omega) hxu)]
      by_cases h0 : u = 0
      · rw [if_neg (by simpa using h0), sat_scan m c x hx0 hv]; rfl
      · rw [if_pos h0]; rfl
    · rw [if_neg h1]
      by_cases h2 : vl m x < 0 ∨ x = u
      · rw [if_pos h2, if_pos h2]; exact scan_uF m hs c u hu hc'
      · rw [if_neg h2, if_neg h2]
        by_cases h0 : u = 0
        · rw [if_neg (by simpa using h0), if_pos h0]
          exact scan_uF m hs c x (.inr (by have := fun h => h2 (.inl h); omega)) hc'
        · rw [if_pos h0, if_neg h0]; rfl
theorem uF_lit (m : List Int) (N : Nat) : ∀ (c : List Int) (u v : Int), uF m u c = (v, false) → v = 0 ∨ v = u ∨ v ∈ c
  | [], u, v, h => by simp only [uF, Prod.mk.injEq] at h; exact .inr (.inl h.1.symm)
  | x :: c, u, v, h => by
    simp only [uF] at h
    split at h
    · simp only [Prod.mk.injEq] at h; exact .inl h.1.symm
    · split at h
      · rcases uF_lit m N c u v h with e | e | e
        · exact .inl e
        · exact .inr (.inl e)
        · exact .inr (.inr (List.mem_cons_of_mem _ e))
      · split at h
        · rcases uF_lit m N c x v h with e | e | e
          · exact .inl e
          · exact .inr (.inr (by rw [e]; exact List.mem_cons_self))
          · exact .inr (.inr (List.mem_cons_of_mem _ e))
        · simp only [Prod.mk.injEq] at h; exact .inl h.1.symm

theorem pass_facts {N : Nat} : ∀ (l : List (List Int)) {m m' : List Int} {b b' : Bool}, Row N m → (∀ c ∈ l, ∀ x ∈ c, lit N x) → pass m b l = some (m', b') →
    Row N m' ∧ zc m' ≤ zc m ∧ (b' = true → b = true ∨ zc m' < zc m)
  | [], m, m', b, b', hr, _, h => by
    simp only [pass, Option.some.injEq, Prod.mk.injEq] at h
    obtain ⟨rfl, rfl⟩ := h
    exact ⟨hr, Nat.le_refl _, .inl⟩
  | c :: l, m, m', b, b', hr, hl, h => by
    simp only [pass] at h
    obtain ⟨⟨m1, q⟩, h1, h2⟩ := Option.bind_eq_some_iff.mp h
    have hc := hl c List.mem_cons_self
    have hr1 := hr.see hc h1
    have hf := see_facts hr.sg hr.len hc h1
    have ih := pass_facts l hr1 (fun y hy => hl y (List.mem_cons_of_mem _ hy)) h2
    cases q with
    | true =>
      have hz := hf.2.2.2 rfl
      exact ⟨ih.1, by omega, fun _ => .inr (by omega)⟩
    | false =>
      have hz := hf.2.2.1 rfl
      rw [hz] at ih
      exact ⟨ih.1, ih.2.1, by simpa using ih.2.2⟩

section
variable {n : Nat} (hn : n ≤ 256) (l : List (List Int)) (hl : l.length ≤ 1000) (hc : ∀ c ∈ l, c.length ≤ 256 ∧ ∀ x ∈ c, lit (n + 1) x)
include hn hl hc

theorem l2_eq : ∀ (d j K i : Nat) (m : List Int) (b : Bool), 600 ≤ K → j = K + d + 1 → Row (n + 1) m → i + d = l.length →
    mancipleref20_Close.l2 j (n : Int) l m b (i : Int) = match pass m b (l.drop i) with
      | none => some ([], true)
      | some (m', b') => mancipleref20_Close.l1 K (n : Int) l m' b' := by
  intro d
  induction d with
  | zero =>
    intro j K i m b hK hj hr hi
    obtain ⟨j, rfl⟩ : ∃ m, j = m + 1 := ⟨j - 1, by omega⟩
    obtain rfl : j = K := by omega
    simp only [mancipleref20_Close.l2]
    rw [if_neg (by omega), List.drop_of_length_le (by omega)]
    rfl
  | succ d ih =>
    intro j K i m b hK hj hr hi
    obtain ⟨j, rfl⟩ : ∃ m, j = m + 1 := ⟨j - 1, by omega⟩
    have hm := hc _ (mem_at l [] i (by omega))
    rw [drop_at l [] i (by omega)]
    simp only [mancipleref20_Close.l2, pass]
    rw [if_pos (by omega), if_pos (by omega), rdL_nat]
    have hu := unit_loop (N := n + 1) (by omega) hr (l.getD i []) hm.2 (by omega) (l.getD i []).length j 0 0 (by omega) (by omega)
    have hu2 : mancipleref20_unit.f j (l.getD i []) m = some (uF m 0 (l.getD i [])) := by
      unfold mancipleref20_unit.f
      rw [List.drop_zero] at hu
      exact hu
    rw [hu2, Option.bind_some]
    have hsc : see m (l.getD i []) = uTells m (uF m 0 (l.getD i [])) := scan_uF m hr.sg _ 0 (.inl rfl) (fun x hx => (hm.2 x hx).1)
    rw [hsc]
    obtain ⟨v, q, hvq⟩ : ∃ v q, uF m 0 (l.getD i []) = (v, q) := ⟨_, _, rfl⟩
    rw [hvq]
    cases q with
    | true => simp [uTells]
    | false =>
      simp only [Bool.false_eq_true, if_false, uTells]
      by_cases h0 : v = 0
      · rw [if_pos h0, if_pos h0, w_up _ (by omega), ih j K (i + 1) m b hK (by omega) hr (by omega)]
        simp
      · have hv : lit (n + 1) v := by
          rcases uF_lit m 0 _ _ _ hvq with e | e | e
          · exact absurd e h0
          · exact absurd e h0
          · exact hm.2 v e
        rw [if_neg h0, if_neg h0, set_eq (by omega) hr hv, Option.bind_some, w_up _ (by omega), ih j K (i + 1) _ true hK (by omega) (hr.st hv) (by omega)]
        simp

omit hl hc in
theorem l3_eq (m : List Int) (hr : Row (n + 1) m) : ∀ (d k i : Nat) (acc : List Int), i + d = n + 1 → acc.length ≤ i → d < k →
    mancipleref20_Close.l3 k (n : Int) m acc (i : Int) = some (acc ++ outF i (m.drop i), false) := by
  intro d
  have hlen := hr.len
  induction d with
  | zero =>
    intro k i acc hi ha hk
    obtain ⟨k, rfl⟩ : ∃ m, k = m + 1 := ⟨k - 1, by omega⟩
    simp only [mancipleref20_Close.l3]
    rw [if_neg (by omega), List.drop_of_length_le (by omega)]
    simp [outF]
  | succ d ih =>
    intro k i acc hi ha hk
    obtain ⟨k, rfl⟩ : ∃ m, k = m + 1 := ⟨k - 1, by omega⟩
    simp only [mancipleref20_Close.l3]
    rw [if_pos (by omega), if_pos (by omega), if_pos (by omega), rd_nat, drop_at m 0 i (by omega), w_up _ (by omega)]
    simp only [outF]
    by_cases h : m.getD i 0 = 0
    · rw [if_pos h, if_pos h]
      exact ih k (i + 1) acc (by omega) (by omega) (by omega)
    · rw [if_neg h, if_neg h, if_pos (by omega)]
      have hw : wrap64 ((i : Int) * m.getD i 0) = (i : Int) * m.getD i 0 := by
        rcases hr.sg i with e | e | e
        · exact absurd e h
        · rw [e, Int.mul_one]; exact w_in _ (by omega) (by omega)
        · rw [e]; exact w_in _ (by omega) (by omega)
      rw [hw, ih k (i + 1) _ (by omega) (by simp; omega) (by omega)]
      simp
omit hl hc in
theorem out_eq (m : List Int) (hr : Row (n + 1) m) (k : Nat) (hk : 300 < k) : mancipleref20_Close.l3 k (n : Int) m [] 1 = some (outF 0 m, false) := by
  have hlen := hr.len
  have h := l3_eq hn m hr n k 1 [] (by omega) (by simp) (by omega)
  have e : outF 0 m = outF 1 (m.drop 1) := by
    have := drop_at m 0 0 (by omega)
    rw [List.drop_zero] at this
    rw [this]
    simp only [outF]
    rw [if_pos hr.z0]
    simp
  rw [e]
  simpa using h

theorem l1_eq : ∀ (f : Nat) (m : List Int), Row (n + 1) m → zc m < f → ∀ k, f * (l.length + 4) + 700 ≤ k →
    mancipleref20_Close.l1 k (n : Int) l m true = some (closeTells (iter l f m)) := by
  intro f
  induction f with
  | zero => intro m _ h; omega
  | succ f ih =>
    intro m hr hz k hk
    rw [Nat.add_mul, Nat.one_mul] at hk
    obtain ⟨k, rfl⟩ : ∃ m, k = m + 1 := ⟨k - 1, by omega⟩
    simp only [mancipleref20_Close.l1, if_true, iter]
    have h2 := l2_eq hn l hl hc l.length k (k - l.length - 1) 0 m false (by omega) (by omega) hr (by omega)
    rw [List.drop_zero] at h2
    refine h2.trans ?_
    cases hp : pass m false l with
    | none => rfl
    | some r =>
      obtain ⟨m', b'⟩ := r
      have hf := pass_facts l hr (fun c hcc => (hc c hcc).2) hp
      simp only [Option.bind_some]
      cases b' with
      | true =>
        have := hf.2.2 rfl
        rw [if_pos rfl]
        exact ih m' hf.1 (by simp at this; omega) _ (by omega)
      | false =>
        obtain ⟨q, hq⟩ : ∃ q, k - l.length - 1 = q + 1 := ⟨k - l.length - 2, by omega⟩
        rw [hq]
        simp only [mancipleref20_Close.l1, Bool.false_eq_true, if_false]
        rw [out_eq hn m' hf.1 _ (by omega)]
        rfl
omit hn hl hc in
theorem puts_facts {N : Nat} : ∀ (lits : List Int) {m m' : List Int}, Row N m → (∀ x ∈ lits, lit N x) → puts m lits = some m' → Row N m'
  | [], m, m', hr, _, h => by simp only [puts, Option.some.injEq] at h; rw [← h]; exact hr
  | x :: r, m, m', hr, hl, h => by
    simp only [puts] at h
    obtain ⟨⟨m1, q⟩, h1, h2⟩ := Option.bind_eq_some_iff.mp h
    exact puts_facts r (hr.put (hl x List.mem_cons_self) h1) (fun y hy => hl y (List.mem_cons_of_mem _ hy)) h2
omit hn hl hc in
theorem l0_eq (hn : n ≤ 256) (lits : List Int) (hll : lits.length ≤ 1000) (hv : ∀ x ∈ lits, lit (n + 1) x) : ∀ (d j K i : Nat) (m : List Int), j = K + d + 1 → Row (n + 1) m → i + d = lits.length →
    mancipleref20_Close.l0 j (n : Int) l lits m (i : Int) = match puts m (lits.drop i) with
      | none => some ([], true)
      | some m' => mancipleref20_Close.l1 K (n : Int) l m' true := by
  intro d
  induction d with
  | zero =>
    intro j K i m hj hr hi
    obtain ⟨j, rfl⟩ : ∃ m, j = m + 1 := ⟨j - 1, by omega⟩
    obtain rfl : j = K := by omega
    simp only [mancipleref20_Close.l0]
    rw [if_neg (by omega), List.drop_of_length_le (by omega)]
    rfl
  | succ d ih =>
    intro j K i m hj hr hi
    obtain ⟨j, rfl⟩ : ∃ m, j = m + 1 := ⟨j - 1, by omega⟩
    have hx := hv _ (mem_at lits 0 i (by omega))
    rw [drop_at lits 0 i (by omega)]
    simp only [mancipleref20_Close.l0, puts]
    rw [if_pos (by omega), if_pos (by omega), rd_nat, val_eq (by omega) hr hx, Option.bind_some]
    unfold put
    rcases sg_vl hr.sg (lits.getD i 0) with e | e | e
    · rw [e, if_neg (by decide), set_eq (by omega) hr hx, Option.bind_some, w_up _ (by omega), ih j K (i + 1) _ (by omega) (hr.st hx) (by omega)]
      simp
    · rw [e, if_neg (by decide), set_eq (by omega) hr hx, Option.bind_some, w_up _ (by omega), st_self _ _ e, ih j K (i + 1) _ (by omega) hr (by omega)]
      simp
    · rw [e]; simp
theorem Close_eq (lits : List Int) (hll : lits.length ≤ 1000) (hv : ∀ x ∈ lits, lit (n + 1) x) (k : Nat) (hk : 400000 ≤ k) :
    mancipleref20_Close.f k (n : Int) l lits = some (closeTells (close n l lits)) := by
  unfold mancipleref20_Close.f close
  rw [w_up n (by omega), if_pos (by omega), if_pos (by omega), Int.toNat_natCast]
  have h := l0_eq l hn lits hll hv lits.length k (k - lits.length - 1) 0 _ (by omega) (Row.zero n) (by omega)
  rw [List.drop_zero] at h
  refine h.trans ?_
  cases hp : puts (List.replicate (n + 1) 0) lits with
  | none => rfl
  | some m =>
    have hr := puts_facts lits (Row.zero n) hv hp
    have hz : zc m < n + 2 := by have := zc_le m; have := hr.len; omega
    have hb : (n + 2) * (l.length + 4) ≤ 258 * 1004 := Nat.mul_le_mul (by omega) (by omega)
    exact l1_eq hn l hl hc (n + 2) m hr hz _ (by omega)
end
end Go.Proofs.Ytjbljblhbmfbpaa.PureR
