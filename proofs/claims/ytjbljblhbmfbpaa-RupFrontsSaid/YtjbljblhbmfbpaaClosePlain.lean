/-
  What follows at once, as plain functions on lists: a row of signs by variable, one literal laid, one clause seen, one pass, passes till nothing comes. No conditions.
-/
import Derived.Below
namespace Go.Proofs.Ytjbljblhbmfbpaa.Prop15

/-- a literal's sign: 1 it is there, -1 its contrary, 0 neither -/
def vl (m : List Int) (x : Int) : Int := if x < 0 then -(m.getD (-x).toNat 0) else m.getD x.toNat 0
def st (m : List Int) (x : Int) : List Int := if x < 0 then m.set (-x).toNat (-1) else m.set x.toNat 1
def put (m : List Int) (x : Int) : Option (List Int × Bool) :=
  if vl m x = 1 then some (m, false) else if vl m x = -1 then none else some (st m x, true)
def scan (m : List Int) : Int → List Int → Option (List Int × Bool)
  | left, [] => if left = 0 then none else put m left
  | left, x :: c => if vl m x < 0 ∨ x = left then scan m left c else if left ≠ 0 then some (m, false) else scan m x c
def see (m : List Int) (c : List Int) : Option (List Int × Bool) := scan m 0 c
def puts (m : List Int) : List Int → Option (List Int)
  | [] => some m
  | x :: r => (put m x).bind fun q => puts q.1 r
def pass (m : List Int) (more : Bool) : List (List Int) → Option (List Int × Bool)
  | [] => some (m, more)
  | c :: l => (see m c).bind fun q => pass q.1 (q.2 || more) l
def iter (l : List (List Int)) : Nat → List Int → Option (List Int)
  | 0, m => some m
  | f + 1, m => (pass m false l).bind fun q => if q.2 then iter l f q.1 else some q.1
def outF : Nat → List Int → List Int
  | _, [] => []
  | i, v :: r => if v = 0 then outF (i + 1) r else ((i : Int) * v) :: outF (i + 1) r
def close (n : Nat) (l : List (List Int)) (lits : List Int) : Option (List Int) :=
  (puts (List.replicate (n + 1) 0) lits).bind fun m => iter l (n + 2) m

/-- a literal of variables below N -/
def lit (N : Nat) (x : Int) : Prop := x ≠ 0 ∧ x < N ∧ -(N : Int) < x
instance (N : Nat) (x : Int) : Decidable (lit N x) := by unfold lit; infer_instance
/-- the signs are -1, 0 and 1 -/
def Sg (m : List Int) : Prop := ∀ i, m.getD i 0 = 0 ∨ m.getD i 0 = 1 ∨ m.getD i 0 = -1

theorem getD_set (m : List Int) (j i : Nat) (v : Int) : (m.set j v).getD i 0 = if i = j ∧ j < m.length then v else m.getD i 0 := by
  simp only [List.getD_eq_getElem?_getD, List.getElem?_set]
  by_cases h : j = i
  · subst h
    by_cases hl : j < m.length
    · simp [hl]
    · simp [hl]
  · rw [if_neg h, if_neg (by omega)]
theorem st_length (m : List Int) (x : Int) : (st m x).length = m.length := by unfold st; split <;> simp
theorem put_length {m m' : List Int} {x : Int} {b : Bool} (h : put m x = some (m', b)) : m'.length = m.length := by
  unfold put at h
  split at h
  · simp only [Option.some.injEq, Prod.mk.injEq] at h; rw [← h.1]
  · split at h
    · cases h
    · simp only [Option.some.injEq, Prod.mk.injEq] at h; rw [← h.1, st_length]
theorem sg_set {m : List Int} (h : Sg m) (j : Nat) (v : Int) (hv : v = 1 ∨ v = -1) : Sg (m.set j v) := by
  intro i
  rw [getD_set]
  split
  · rcases hv with rfl | rfl
    · exact .inr (.inl rfl)
    · exact .inr (.inr rfl)
  · exact h i
theorem sg_st {m : List Int} (h : Sg m) (x : Int) : Sg (st m x) := by
  unfold st; split
  · exact sg_set h _ _ (.inr rfl)
  · exact sg_set h _ _ (.inl rfl)
theorem sg_put {m m' : List Int} {x : Int} {b : Bool} (hs : Sg m) (h : put m x = some (m', b)) : Sg m' := by
  unfold put at h
  split at h
  · simp only [Option.some.injEq, Prod.mk.injEq] at h; rw [← h.1]; exact hs
  · split at h
    · cases h
    · simp only [Option.some.injEq, Prod.mk.injEq] at h; rw [← h.1]; exact sg_st hs x
theorem sg_vl {m : List Int} (h : Sg m) (x : Int) : vl m x = 0 ∨ vl m x = 1 ∨ vl m x = -1 := by
  unfold vl; split
  · rcases h (-x).toNat with e | e | e <;> rw [e] <;> simp
  · exact h _


theorem scan_put (m : List Int) : ∀ (c : List Int) (left : Int) (r : List Int × Bool), scan m left c = some r → r = (m, false) ∨ ∃ x, (x = left ∨ x ∈ c) ∧ x ≠ 0 ∧ put m x = some r
  | [], left, r, h => by
    simp only [scan] at h
    split at h
    · cases h
    · rename_i h0
      exact .inr ⟨left, .inl rfl, h0, h⟩
  | x :: c, left, r, h => by
    simp only [scan] at h
    split at h
    · rcases scan_put m c left r h with e | ⟨y, hy, h0, hp⟩
      · exact .inl e
      · exact .inr ⟨y, hy.imp id (List.mem_cons_of_mem _), h0, hp⟩
    · split at h
      · simp only [Option.some.injEq] at h; exact .inl h.symm
      · rcases scan_put m c x r h with e | ⟨y, hy, h0, hp⟩
        · exact .inl e
        · refine .inr ⟨y, .inr ?_, h0, hp⟩
          rcases hy with rfl | hy
          · exact List.mem_cons_self
          · exact List.mem_cons_of_mem _ hy
theorem see_put {m c : List Int} {r : List Int × Bool} (h : see m c = some r) : r = (m, false) ∨ ∃ x, x ∈ c ∧ x ≠ 0 ∧ put m x = some r := by
  rcases scan_put m c 0 r h with e | ⟨x, hx, h0, hp⟩
  · exact .inl e
  · exact .inr ⟨x, hx.resolve_left h0, h0, hp⟩

/-- how many neither is -/
def zc (m : List Int) : Nat := m.countP (· == 0)
theorem zc_le (m : List Int) : zc m ≤ m.length := List.countP_le_length
theorem zc_set : ∀ (m : List Int) (j : Nat) (v : Int), j < m.length → m.getD j 0 = 0 → v ≠ 0 → zc (m.set j v) + 1 = zc m
  | [], _, _, h, _, _ => by simp at h
  | a :: m, 0, v, _, h, hv => by
    simp at h
    subst h
    simp [zc, hv]
  | a :: m, j + 1, v, h, h0, hv => by
    have := zc_set m j v (by simpa using h) (by simpa using h0) hv
    simp only [zc, List.set_cons_succ, List.countP_cons] at *
    omega
theorem put_facts {N : Nat} {m m' : List Int} {x : Int} {b : Bool} (hs : Sg m) (hN : m.length = N) (hx : lit N x) (h : put m x = some (m', b)) :
    Sg m' ∧ m'.length = N ∧ (b = false → m' = m) ∧ (b = true → zc m' + 1 = zc m) := by
  refine ⟨sg_put hs h, (put_length h).trans hN, ?_, ?_⟩
  · intro hb
    subst hb
    unfold put at h
    split at h
    · simp only [Option.some.injEq, Prod.mk.injEq] at h; exact h.1.symm
    · split at h
      · cases h
      · simp at h
  · intro hb
    subst hb
    unfold put at h
    split at h
    · simp at h
    · rename_i h1
      split at h
      · cases h
      · rename_i h2
        simp only [Option.some.injEq, Prod.mk.injEq] at h
        have h0 : vl m x = 0 := by rcases sg_vl hs x with e | e | e; exact e; exact absurd e h1; exact absurd e h2
        obtain ⟨x0, x1, x2⟩ := hx
        rw [← h.1]
        unfold st
        unfold vl at h0
        split
        · rename_i hneg
          rw [if_pos hneg] at h0
          exact zc_set m _ _ (by omega) (by omega) (by decide)
        · rename_i hneg
          rw [if_neg hneg] at h0
          exact zc_set m _ _ (by omega) h0 (by decide)
theorem see_facts {N : Nat} {m m' c : List Int} {b : Bool} (hs : Sg m) (hN : m.length = N) (hl : ∀ x ∈ c, lit N x) (h : see m c = some (m', b)) :
    Sg m' ∧ m'.length = N ∧ (b = false → m' = m) ∧ (b = true → zc m' + 1 = zc m) := by
  rcases see_put h with e | ⟨x, hx, _, hp⟩
  · simp only [Prod.mk.injEq] at e
    obtain ⟨rfl, rfl⟩ := e
    exact ⟨hs, hN, fun _ => rfl, fun h => by cases h⟩
  · exact put_facts hs hN (hl x hx) hp

end Go.Proofs.Ytjbljblhbmfbpaa.Prop15
