/-
  Each model that has the literals has what follows; where all is against itself there is none; what follows of what follows is that. No conditions.
-/
import Derived.Test.YtjbljblhbmfbpaaTheory
import Derived.Test.YtjbljblhbmfbpaaPPropx8
import Derived.Lib.Hide
namespace Go.Proofs.Ytjbljblhbmfbpaa.Pure
open Go.RowKit Go.Proofs.Ytjbljblhbmfbpaa.PProp Go.Proofs.YtjbljblhbmfbpaaW.PrintWords Go.Proofs.YtjbljblhbmfbpaaW.PrintLast Go.Proofs.YtjbljblhbmfbpaaW.PrintMore
open Prop15
set_option linter.unusedVariables false
set_option linter.unusedSimpArgs false

theorem u_small (i : Nat) (h : i ≤ 1000) : IntKind.u64.wrap (i : Int) = (i : Int) := IntWalk.u64_in _ (by omega)
theorem SetOf_any (n : Nat) (hn : n ≤ 10) (b : Int) : ∀ (d k i : Nat) (acc : List Int), i + d = n → acc.length ≤ i → d < k → ∃ S, mancipleref14_SetOf.l0 k (n : Int) b acc (i : Int) = some S ∧ S.length ≤ n := by
  intro d
  induction d with
  | zero =>
    intro k i acc hi ha hk
    obtain ⟨k, rfl⟩ : ∃ m, k = m + 1 := ⟨k - 1, by omega⟩
    simp only [mancipleref14_SetOf.l0]
    rw [if_neg (by omega)]
    exact ⟨acc, rfl, by omega⟩
  | succ d ih =>
    intro k i acc hi ha hk
    obtain ⟨k, rfl⟩ : ∃ m, k = m + 1 := ⟨k - 1, by omega⟩
    simp only [mancipleref14_SetOf.l0]
    rw [if_pos (by omega), u_small i (by omega), if_pos (by omega), w_up _ (by omega)]
    split
    · rw [if_pos (by omega)]
      exact ih k (i + 1) _ (by omega) (by simp; omega) (by omega)
    · exact ih k (i + 1) _ (by omega) (by omega) (by omega)
theorem Model_loop (n : Nat) (hn : n ≤ 10) (S : List Int) (hS : S.length ≤ 10) : ∀ (d k i : Nat) (M : List Bool), i + d = S.length → M.length = n → d < k → ∃ M', mancipleref14_Model.l0 k S (n : Int) M (i : Int) = some M' ∧ M'.length = n := by
  intro d
  induction d with
  | zero =>
    intro k i M hi hM hk
    obtain ⟨k, rfl⟩ : ∃ m, k = m + 1 := ⟨k - 1, by omega⟩
    simp only [mancipleref14_Model.l0]
    rw [if_neg (by omega)]
    exact ⟨M, rfl, hM⟩
  | succ d ih =>
    intro k i M hi hM hk
    obtain ⟨k, rfl⟩ : ∃ m, k = m + 1 := ⟨k - 1, by omega⟩
    simp only [mancipleref14_Model.l0]
    rw [if_pos (by omega), if_pos (by omega), w_up _ (by omega)]
    split
    · rename_i h1
      split
      · rename_i h2
        rw [if_pos (by omega)]
        exact ih k (i + 1) _ (by omega) (by simpa using hM) (by omega)
      · exact ih k (i + 1) _ (by omega) hM (by omega)
    · exact ih k (i + 1) _ (by omega) hM (by omega)
theorem Model_any (n : Nat) (hn : n ≤ 10) (S : List Int) (hS : S.length ≤ 10) (k : Nat) (hk : 20 < k) : ∃ M, mancipleref14_Model.f k S (n : Int) = some M ∧ M.length = n := by
  unfold mancipleref14_Model.f
  rw [if_pos (by omega), if_pos (by omega), Int.toNat_natCast]
  exact Model_loop n hn S hS S.length k 0 _ (by omega) (by simp) (by omega)

/-- does a literal hold in a model? -/
def hv (M : List Bool) (x : Int) : Bool := if x > 0 then M.getD (x.toNat - 1) false else !(M.getD ((-x).toNat - 1) false)
theorem rdb (M : List Bool) (i : Int) : rdOf false M i = M.getD i.toNat false := rfl
theorem Holds_loop (n : Nat) (hn : n ≤ 10) (M : List Bool) (hM : M.length = n) (c : List Int) (hc : ∀ x ∈ c, lit (n + 1) x) (hcl : c.length ≤ 256) : ∀ (d k i : Nat), i + d = c.length → d < k → mancipleref14_HoldsClause.l0 k c M (i : Int) = some ((c.drop i).any (hv M)) := by
  intro d
  induction d with
  | zero =>
    intro k i hi hk
    obtain ⟨k, rfl⟩ : ∃ m, k = m + 1 := ⟨k - 1, by omega⟩
    simp only [mancipleref14_HoldsClause.l0]
    rw [if_neg (by omega), List.drop_of_length_le (by omega)]
    rfl
  | succ d ih =>
    intro k i hi hk
    obtain ⟨k, rfl⟩ : ∃ m, k = m + 1 := ⟨k - 1, by omega⟩
    have ih2 := ih k (i + 1) (by omega) (by omega)
    have hx := hc _ (mem_at c 0 i (by omega))
    rw [drop_at c 0 i (by omega), List.any_cons]
    obtain ⟨x, hxe⟩ : ∃ x, c.getD i 0 = x := ⟨_, rfl⟩
    rw [hxe] at hx ⊢
    have hrd : rd c (i : Int) = x := by rw [rd_nat, hxe]
    obtain ⟨h0, h1, h2⟩ := hx
    have hup := w_up i (by omega)
    have p1 : (i : Int) < (c.length : Int) := by omega
    have p2 : (0 : Int) ≤ (i : Int) := by omega
    have w1 : wrap64 (-(M.length : Int)) = -(n : Int) := by rw [hM]; exact w_in _ (by omega) (by omega)
    have w2 : wrap64 (x - 1) = x - 1 := w_in _ (by omega) (by omega)
    have w3 : wrap64 (wrap64 (-x) - 1) = -x - 1 := by rw [w_in (-x) (by omega) (by omega)]; exact w_in _ (by omega) (by omega)
    simp only [mancipleref14_HoldsClause.l0]
    rw [hrd, hup, w1, w2, w3, hM, if_pos p1, if_pos p2]
    clear ih hrd hup w1 w2 w3 hc hxe p1 p2 hi hk hcl
    by_cases hp : x ≥ 1
    · have hvx : hv M x = M.getD (x.toNat - 1) false := by unfold hv; rw [if_pos (by omega)]
      have e1 : (x - 1).toNat = x.toNat - 1 := by omega
      rw [if_pos hp, if_pos (by omega), if_pos (by omega), if_pos (by omega), rdb, e1, hvx]
      cases M.getD (x.toNat - 1) false with
      | true => simp
      | false => rw [if_neg (by decide), if_neg (by omega), ih2]; simp
    · have hvx : hv M x = !(M.getD ((-x).toNat - 1) false) := by unfold hv; rw [if_neg (by omega)]
      have e1 : (-x - 1).toNat = (-x).toNat - 1 := by omega
      rw [if_neg hp, if_pos (by omega), if_pos (by omega), if_pos (by omega), if_pos (by omega), rdb, e1, hvx]
      cases M.getD ((-x).toNat - 1) false with
      | true => rw [if_pos rfl, ih2]; simp
      | false => rw [if_neg (by decide)]; simp
theorem Holds_eq (n : Nat) (hn : n ≤ 10) (M : List Bool) (hM : M.length = n) (c : List Int) (hc : ∀ x ∈ c, lit (n + 1) x) (hcl : c.length ≤ 256) (k : Nat) (hk : 300 ≤ k) : mancipleref14_HoldsClause.f k c M = some (c.any (hv M)) := by
  unfold mancipleref14_HoldsClause.f
  exact Holds_loop n hn M hM c hc hcl c.length k 0 (by omega) (by omega)
theorem First_loop (n : Nat) (hn : n ≤ 10) (M : List Bool) (hM : M.length = n) (l : List (List Int)) (hl : l.length ≤ 120) (hc : ∀ c ∈ l, c.length ≤ 256 ∧ ∀ x ∈ c, lit (n + 1) x) : ∀ (d k i : Nat), i + d = l.length → d + 400 < k →
    ∃ r, mancipleref14_First.l0 k l M (i : Int) = some r ∧ (r < 0 → ∀ c ∈ l.drop i, c.any (hv M) = true) := by
  intro d
  induction d with
  | zero =>
    intro k i hi hk
    obtain ⟨k, rfl⟩ : ∃ m, k = m + 1 := ⟨k - 1, by omega⟩
    simp only [mancipleref14_First.l0]
    rw [if_neg (by omega)]
    refine ⟨-1, rfl, fun _ c hc => ?_⟩
    rw [List.drop_of_length_le (by omega)] at hc
    cases hc
  | succ d ih =>
    intro k i hi hk
    obtain ⟨k, rfl⟩ : ∃ m, k = m + 1 := ⟨k - 1, by omega⟩
    obtain ⟨r, h1, h2⟩ := ih k (i + 1) (by omega) (by omega)
    have hm := hc _ (mem_at l [] i (by omega))
    have hH := Holds_eq n hn M hM (l.getD i []) hm.2 hm.1 k (by omega)
    simp only [mancipleref14_First.l0]
    rw [if_pos (by omega), if_pos (by omega), rdL_nat, hH, Option.bind_some, w_up _ (by omega)]
    cases hb : (l.getD i []).any (hv M) with
    | true =>
      rw [if_pos rfl]
      refine ⟨r, h1, fun hr c hcc => ?_⟩
      rw [drop_at l [] i (by omega)] at hcc
      rcases List.mem_cons.mp hcc with rfl | hcc
      · exact hb
      · exact h2 hr c hcc
    | false =>
      rw [if_neg (by decide)]
      exact ⟨_, rfl, fun hr => by omega⟩

/-- a model as a row of signs -/
def mrow (n : Nat) (M : List Bool) : List Int := (List.range (n + 1)).map fun i => if i = 0 then 0 else if M.getD (i - 1) false then 1 else -1
theorem mrow_get {n i : Nat} {M : List Bool} (h : i < n + 1) : (mrow n M).getD i 0 = if i = 0 then 0 else if M.getD (i - 1) false then 1 else -1 := by
  simp [mrow, List.getD_eq_getElem?_getD, List.getElem?_map, List.getElem?_range h]
theorem mrow_row (n : Nat) (M : List Bool) : Row (n + 1) (mrow n M) := by
  refine ⟨by simp [mrow], fun i => ?_, ?_⟩
  · by_cases h : i < n + 1
    · rw [mrow_get h]
      split
      · exact .inl rfl
      · split
        · exact .inr (.inl rfl)
        · exact .inr (.inr rfl)
    · exact .inl (by simp [mrow, List.getD_eq_getElem?_getD, List.getElem?_eq_none (l := List.range (n + 1)) (i := i) (by simp; omega)])
  · rw [mrow_get (by omega), if_pos rfl]
theorem vl_mrow {n : Nat} {M : List Bool} {x : Int} (hx : lit (n + 1) x) : vl (mrow n M) x = if hv M x then 1 else -1 := by
  obtain ⟨h0, h1, h2⟩ := hx
  by_cases hn : x < 0
  · obtain ⟨i, rfl⟩ : ∃ i : Nat, x = -(i : Int) := ⟨(-x).toNat, by omega⟩
    rw [vl_neg (by omega), mrow_get (by omega), if_neg (show ¬ i = 0 by omega)]
    unfold hv
    rw [if_neg (show ¬ (-(i : Int) > 0) by omega), show (- -(i : Int)).toNat = i by omega]
    cases M.getD (i - 1) false <;> rfl
  · obtain ⟨i, rfl⟩ : ∃ i : Nat, x = (i : Int) := ⟨x.toNat, by omega⟩
    rw [vl_pos, mrow_get (by omega), if_neg (show ¬ i = 0 by omega)]
    unfold hv
    rw [if_pos (show (i : Int) > 0 by omega), Int.toNat_natCast]
theorem mrow_uF {n : Nat} {M : List Bool} : ∀ (c : List Int) (u : Int), (∀ x ∈ c, lit (n + 1) x) → c.any (hv M) = true → uF (mrow n M) u c = (0, false)
  | [], _, _, h => by simp at h
  | x :: c, u, hc, h => by
    have hx := vl_mrow (M := M) (hc x List.mem_cons_self)
    simp only [uF]
    rw [List.any_cons] at h
    cases hb : hv M x with
    | true => rw [hx, hb, if_pos (by decide)]
    | false =>
      rw [hb, Bool.false_or] at h
      rw [hx, hb, if_neg (by decide), if_pos (.inl (by decide))]
      exact mrow_uF c u (fun y hy => hc y (List.mem_cons_of_mem _ hy)) h
theorem mrow_closed {n : Nat} {M : List Bool} {l : List (List Int)} (hc : ∀ c ∈ l, ∀ x ∈ c, lit (n + 1) x) (h : ∀ c ∈ l, c.any (hv M) = true) : Closed l (mrow n M) := by
  intro c hcc
  have := scan_uF (mrow n M) (mrow_row n M).sg c 0 (.inl rfl) (fun x hx => (hc c hcc x hx).1)
  unfold see
  rw [this, mrow_uF c 0 (hc c hcc) (h c hcc)]
  rfl
/-- what follows holds in each model that has the literals -/
theorem models {n : Nat} {M : List Bool} {l : List (List Int)} {lits : List Int} (hc : ∀ c ∈ l, ∀ x ∈ c, lit (n + 1) x) (hvv : ∀ x ∈ lits, lit (n + 1) x) (h : ∀ c ∈ l, c.any (hv M) = true) (hl : ∀ x ∈ lits, hv M x = true) :
    ∃ m, close n l lits = some m ∧ ∀ y ∈ outF 0 m, hv M y = true := by
  obtain ⟨m, h1, h2⟩ := close_least hc hvv (mrow_row n M) (mrow_closed hc h) (fun x hx => by rw [vl_mrow (hvv x hx), hl x hx]; rfl)
  refine ⟨m, h1, fun y hy => ?_⟩
  have hr := (close_closed hc hvv h1).1
  obtain ⟨h3, h4⟩ := out_vl hr hy
  have := h2.vl (x := y) (by rw [h4]; decide)
  rw [vl_mrow h3, h4] at this
  cases hb : hv M y with
  | true => rfl
  | false => rw [hb] at this; simp at this
theorem again {n : Nat} {l : List (List Int)} {lits m : List Int} (hc : ∀ c ∈ l, ∀ x ∈ c, lit (n + 1) x) (hvv : ∀ x ∈ lits, lit (n + 1) x) (h : close n l lits = some m) : close n l (outF 0 m) = some m := by
  obtain ⟨hr, hcl, _⟩ := close_closed hc hvv h
  have ho : ∀ x ∈ outF 0 m, lit (n + 1) x := fun x hx => (out_vl hr hx).1
  obtain ⟨m', h1, h2⟩ := close_least hc ho hr hcl (fun x hx => (out_vl hr hx).2)
  obtain ⟨hr', _, hl'⟩ := close_closed hc ho h1
  rw [h1]
  congr 1
  apply List.ext_getElem?
  intro i
  have l1 := hr.len
  have l2 := hr'.len
  by_cases hi : i < n + 1
  · have hgoal : m'.getD i 0 = m.getD i 0 := by
      by_cases h0 : m'.getD i 0 = 0
      · rw [h0]
        rcases hr.sg i with e | e | e
        · exact e.symm
        · have hi0 : i ≠ 0 := by rintro rfl; have := hr.z0; omega
          have := hl' (i : Int) (vl_out hr ⟨by omega, by omega, by omega⟩ (by rw [vl_pos, e]))
          rw [vl_pos] at this; omega
        · have hi0 : i ≠ 0 := by rintro rfl; have := hr.z0; omega
          have := hl' (-(i : Int)) (vl_out hr ⟨by omega, by omega, by omega⟩ (by rw [vl_neg (by omega), e]; rfl))
          rw [vl_neg (by omega)] at this; omega
      · exact (h2 i h0).symm
    rw [List.getD_eq_getElem?_getD, List.getD_eq_getElem?_getD, List.getElem?_eq_getElem (by omega), List.getElem?_eq_getElem (by omega)] at hgoal
    rw [List.getElem?_eq_getElem (by omega), List.getElem?_eq_getElem (by omega)]
    simpa using hgoal
  · rw [List.getElem?_eq_none (by omega), List.getElem?_eq_none (by omega)]

theorem one_at (a : List Int) (i : Nat) (h : i < a.length) : (a.take (i + 1)).drop i = [a.getD i 0] := by
  rw [List.drop_take, drop_at a 0 i h]
  simp
theorem hpair (i : Nat) (h : i ≤ 1000) : (wrap64 ((i : Int) + 1)).toNat = i + 1 := by rw [w_up _ (by omega)]; omega

section
variable (n : Nat) (hn : n ≤ 10) (l : List (List Int)) (hl : l.length ≤ 120) (hc : ∀ c ∈ l, c.length ≤ 256 ∧ ∀ x ∈ c, lit (n + 1) x) (lits : List Int) (hll : lits.length ≤ 60) (hvv : ∀ x ∈ lits, lit (n + 1) x)
  (a : List Int) (ag : Bool) (hca : closeTells (close n l lits) = (a, ag))
include hn hl hc hll hvv hca

omit hl hll in
theorem a_facts : a.length ≤ 11 ∧ ∀ x ∈ a, lit (n + 1) x := by
  have hc' : ∀ c ∈ l, ∀ x ∈ c, lit (n + 1) x := fun c hcc => (hc c hcc).2
  cases h : close n l lits with
  | none =>
    rw [h] at hca
    simp only [closeTells, Prod.mk.injEq] at hca
    rw [← hca.1]
    exact ⟨Nat.zero_le _, fun x hx => by cases hx⟩
  | some m =>
    rw [h] at hca
    simp only [closeTells, Prod.mk.injEq] at hca
    have hr := (close_closed hc' hvv h).1
    rw [← hca.1]
    refine ⟨by have := out_len m 0; have := hr.len; omega, fun x hx => (out_vl hr hx).1⟩

omit hl hll in
/-- the look at one model's what follows, where it has all -/
theorem f_l2 (M : List Bool) (hM : M.length = n) (b : Int) (hall : ∀ y ∈ a, hv M y = true) (K : Nat) (hK : 1000 ≤ K) : ∀ (d k i : Nat), i + d = a.length → k = K + d + 1 →
    manciplelaw15_PropFollows.l2 k (n : Int) l lits a ag b M (i : Int) = manciplelaw15_PropFollows.l0 K (n : Int) l lits a ag (wrap64 (b + 1)) := by
  obtain ⟨hal, hav⟩ := a_facts n hn l hc lits hvv a ag hca
  intro d
  induction d with
  | zero =>
    intro k i hi hk
    obtain ⟨k, rfl⟩ : ∃ m, k = m + 1 := ⟨k - 1, by omega⟩
    obtain rfl : k = K := by omega
    simp only [manciplelaw15_PropFollows.l2]
    rw [if_neg (by omega)]
  | succ d ih =>
    intro k i hi hk
    obtain ⟨k, rfl⟩ : ∃ m, k = m + 1 := ⟨k - 1, by omega⟩
    have ih2 := ih k (i + 1) (by omega) (by omega)
    have hia : i < a.length := by omega
    have q1 : (i : Int) < (a.length : Int) := by omega
    have q2 : (i : Int) ≤ ((i + 1 : Nat) : Int) := by omega
    have q3 : ((i + 1 : Nat) : Int) ≤ (a.length : Int) := by omega
    have q0 : (0 : Int) ≤ (i : Int) := by omega
    have hmem := mem_at a 0 i hia
    have hH := Holds_eq n hn M hM [a.getD i 0] (fun x hx => by rw [List.mem_singleton.mp hx]; exact hav _ hmem) (by simp) k (by omega)
    rw [List.any_cons, List.any_nil, Bool.or_false, hall _ hmem] at hH
    have hi1000 : i ≤ 1000 := by omega
    have hp := hpair i hi1000
    have hup := w_up i (Nat.le_trans hi1000 (by decide))
    simp only [manciplelaw15_PropFollows.l2]
    rw [if_pos q1, if_pos q0, hp, hup, if_pos q2, if_pos q3, Int.toNat_natCast, one_at a i hia, hH, Option.bind_some, if_pos rfl]
    exact ih2

omit hl hll in
theorem f_j3 (M : List Bool) (hM : M.length = n) (b : Int) (ok : Bool) (hok : ok = true → (∀ c ∈ l, c.any (hv M) = true) ∧ ∀ x ∈ lits, hv M x = true) (R : Option Bool) (k : Nat) (hk : 2000 ≤ k)
    (hR : ∀ K, k ≤ K + 100 → manciplelaw15_PropFollows.l0 K (n : Int) l lits a ag (wrap64 (b + 1)) = R) : manciplelaw15_PropFollows.j3 k (n : Int) l lits a ag b M ok = R := by
  have hc' : ∀ c ∈ l, ∀ x ∈ c, lit (n + 1) x := fun c hcc => (hc c hcc).2
  have hal := (a_facts n hn l hc lits hvv a ag hca).1
  obtain ⟨k, rfl⟩ : ∃ m, k = m + 1 := ⟨k - 1, by omega⟩
  simp only [manciplelaw15_PropFollows.j3]
  cases ok with
  | false => rw [if_neg (by decide)]; exact hR k (by omega)
  | true =>
    obtain ⟨h1, h2⟩ := hok rfl
    obtain ⟨m, h3, h4⟩ := models hc' hvv h1 h2
    have hca2 := hca
    rw [h3] at hca2
    simp only [closeTells, Prod.mk.injEq] at hca2
    obtain ⟨e1, e2⟩ := hca2
    rw [if_pos rfl, ← e2, if_neg (by decide), e2]
    refine (f_l2 n hn l hc lits hvv a ag hca M hM b (fun y hy => h4 y (by rw [e1]; exact hy)) (k - a.length - 1) (by omega) a.length k 0 (by omega) (by omega)).trans ?_
    exact hR _ (by omega)

omit hl in
theorem f_l1 (M : List Bool) (hM : M.length = n) (b : Int) (R : Option Bool) (hall : Bool) (hcl : hall = true → ∀ c ∈ l, c.any (hv M) = true) : ∀ (d k i : Nat) (ok : Bool), i + d = lits.length → 2100 + d ≤ k →
    (ok = true → hall = true ∧ ∀ j, j < i → hv M (lits.getD j 0) = true) → (∀ K, k ≤ K + 100 + d + 1 → manciplelaw15_PropFollows.l0 K (n : Int) l lits a ag (wrap64 (b + 1)) = R) →
    manciplelaw15_PropFollows.l1 k (n : Int) l lits a ag b M ok (i : Int) = R := by
  intro d
  induction d with
  | zero =>
    intro k i ok hi hk hok hR
    obtain ⟨k, rfl⟩ : ∃ m, k = m + 1 := ⟨k - 1, by omega⟩
    have hj := f_j3 n hn l hc lits hvv a ag hca M hM b ok (fun h => by
      obtain ⟨h1, h2⟩ := hok h
      refine ⟨hcl h1, fun x hx => ?_⟩
      obtain ⟨j, hj, rfl⟩ := List.mem_iff_getElem.mp hx
      have := h2 j (by omega)
      rwa [List.getD_eq_getElem?_getD, List.getElem?_eq_getElem hj] at this) R k (by omega) (fun K hK => hR K (by omega))
    simp only [manciplelaw15_PropFollows.l1]
    rw [if_neg (by omega)]
    exact hj
  | succ d ih =>
    intro k i ok hi hk hok hR
    obtain ⟨k, rfl⟩ : ∃ m, k = m + 1 := ⟨k - 1, by omega⟩
    simp only [manciplelaw15_PropFollows.l1]
    have hia : i < lits.length := by omega
    cases ok with
    | false =>
      have hj := f_j3 n hn l hc lits hvv a ag hca M hM b false (fun h => by cases h) R k (by omega) (fun K hK => hR K (by omega))
      rw [if_pos (by omega), if_neg (by decide)]
      exact hj
    | true =>
      obtain ⟨h1, h2⟩ := hok rfl
      have hmem := mem_at lits 0 i hia
      have hH := Holds_eq n hn M hM [lits.getD i 0] (fun x hx => by rw [List.mem_singleton.mp hx]; exact hvv _ hmem) (by simp) k (by omega)
      rw [List.any_cons, List.any_nil, Bool.or_false] at hH
      have q1 : (i : Int) < (lits.length : Int) := by omega
      have q2 : (i : Int) ≤ ((i + 1 : Nat) : Int) := by omega
      have q3 : ((i + 1 : Nat) : Int) ≤ (lits.length : Int) := by omega
      have q0 : (0 : Int) ≤ (i : Int) := by omega
      have hi1000 : i ≤ 1000 := by omega
      have ih2 := ih k (i + 1) (hv M (lits.getD i 0)) (by omega) (by omega) (fun h => ⟨h1, fun j hj => by
        by_cases e : j = i
        · rw [e]; exact h
        · exact h2 j (by omega)⟩) (fun K hK => hR K (by omega))
      have hp := hpair i hi1000
      have hup := w_up i (Nat.le_trans hi1000 (by decide))
      rw [if_pos q1, if_pos rfl, if_pos q0, hp, hup, if_pos q2, if_pos q3, Int.toNat_natCast, one_at lits i hia, hH, Option.bind_some]
      exact ih2

set_option maxRecDepth 100000 in
theorem f_l0 : ∀ (d k b : Nat), b + d = 2 ^ n → d * 300 + 600000 ≤ k → manciplelaw15_PropFollows.l0 k (n : Int) l lits a ag (b : Int) = some true := by
  have hc' : ∀ c ∈ l, ∀ x ∈ c, lit (n + 1) x := fun c hcc => (hc c hcc).2
  obtain ⟨hal, hav⟩ := a_facts n hn l hc lits hvv a ag hca
  have hp2 : (2 : Nat) ^ n ≤ 2 ^ 10 := Nat.pow_le_pow_right (by omega) hn
  have hun := u_small n (by omega)
  have hun0 : (0 : Int) ≤ (n : Int) := by omega
  have hsh : shl .i64 1 (n : Int) = ((2 ^ n : Nat) : Int) := by
    unfold shl
    have hb : IntKind.bits .i64 = 64 := rfl
    rw [hb, Nat.min_eq_left (by omega), Int.toNat_natCast, Int.one_mul]
    have : (2 : Int) ^ n = ((2 ^ n : Nat) : Int) := by simp
    rw [this]
    generalize (2 : Nat) ^ n = p at hp2
    exact IntWalk.i64_in _ (by omega)
  intro d
  have HUN := Lib.hid hun
  have HSH := Lib.hid hsh
  clear hun hsh
  induction d with
  | zero =>
    intro k b hi hk
    obtain ⟨k, rfl⟩ : ∃ m, k = m + 1 := ⟨k - 1, by omega⟩
    simp only [manciplelaw15_PropFollows.l0]
    rw [HUN.out, if_pos hun0, HSH.out, if_neg (by omega)]
    cases h : close n l lits with
    | none =>
      rw [h] at hca
      simp only [closeTells, Prod.mk.injEq] at hca
      rw [← hca.1, ← hca.2, if_pos rfl]
      rfl
    | some m =>
      have hca2 := hca
      rw [h] at hca2
      simp only [closeTells, Prod.mk.injEq] at hca2
      obtain ⟨e1, e2⟩ := hca2
      have hag := again hc' hvv h
      have hP : prop_Close.f (n : Int) l a = some (a, false) := by
        unfold prop_Close.f
        rw [if_pos ⟨by omega, by omega, by simpa using hc', by simpa using hav⟩, Int.toNat_natCast, ← e1, hag]
        rfl
      rw [← e2, if_neg (by decide), To_eq l k (by omega) (fun c hcc => by have := (hc c hcc).1; omega) (by omega), Option.bind_some, hP, Option.bind_some]
      dsimp only
      rw [if_neg (by decide), Ints_eq a k (by omega) (by omega), Option.bind_some]
  | succ d ih =>
    intro k b hi hk
    obtain ⟨k, rfl⟩ : ∃ m, k = m + 1 := ⟨k - 1, by omega⟩
    have hlt : (b : Int) < ((2 ^ n : Nat) : Int) := by omega
    have hble : b ≤ 4611686018427387904 := by omega
    have hA : b + 1 + d = 2 ^ n := by omega
    have hB : ∀ K, k ≤ K + 100 + lits.length + 1 → d * 300 + 600000 ≤ K := by intro K hK; clear hp2 hlt hi hA hble; omega
    obtain ⟨S, hS, hSl⟩ := SetOf_any n hn (b : Int) n k 0 [] (by omega) (by simp) (by omega)
    obtain ⟨M, hMf, hM⟩ := Model_any n hn S (by omega) k (by omega)
    obtain ⟨r, hr, hrn⟩ := First_loop n hn M hM l hl hc l.length k 0 (by omega) (by omega)
    rw [List.drop_zero] at hrn
    have hl1 := f_l1 n hn l hc lits hll hvv a ag hca M hM (b : Int) (some true) (decide (r < 0)) (fun h => hrn (by simpa using h)) lits.length k 0 (decide (r < 0)) (by omega) (by omega) (fun h => ⟨h, fun j hj => by omega⟩) (fun K hK => by
      rw [w_up b hble]
      exact ih K (b + 1) hA (hB K hK))
    simp only [manciplelaw15_PropFollows.l0]
    unfold mancipleref14_SetOf.f mancipleref14_First.f
    rw [HUN.out, if_pos hun0, HSH.out, if_pos hlt]
    rw [show (0 : Int) = ((0 : Nat) : Int) from rfl] at *
    rw [hS, Option.bind_some, hMf, Option.bind_some, hr, Option.bind_some]
    exact hl1
end

def PropFollowsPure : Prop := ∀ (a0 : Int) (l1 : List (List Int)) (l2 : List Int), ∃ k, manciplelaw15_PropFollows.f k a0 l1 l2 = some true
theorem PropFollows : PropFollowsPure := by
  intro n l lits
  obtain ⟨KK, hKK⟩ : ∃ KK : Nat, KK = 2000000 := ⟨_, rfl⟩
  refine ⟨KK + 1, ?_⟩
  unfold manciplelaw15_PropFollows.f
  rw [known_at _ (by omega), Option.bind_some, if_pos rfl]
  obtain ⟨b1, hb1, hq1⟩ := Small_any n 10 l (KK + 1) (by omega)
  rw [hb1, Option.bind_some]
  cases b1 with
  | false => simp [manciplelaw15_PropFollows.j0]
  | true =>
    obtain ⟨h0, h1, h10, hl, hc⟩ := hq1 rfl
    obtain ⟨b2, hb2, hq2⟩ := Lits_any n lits (KK + 1) (by omega) h0 h1
    rw [if_pos rfl, hb2, Option.bind_some]
    cases b2 with
    | false => simp [manciplelaw15_PropFollows.j0]
    | true =>
      obtain ⟨hll, hv⟩ := hq2 rfl
      obtain ⟨N, rfl⟩ : ∃ N : Nat, n = (N : Int) := ⟨n.toNat, by omega⟩
      have hc' : ∀ c ∈ l, c.length ≤ 256 ∧ ∀ x ∈ c, lit (N + 1) x := fun c hcc => ⟨(hc c hcc).1, fun x hx => by have := lit_of h0 ((hc c hcc).2 x hx); simpa using this⟩
      have hv' : ∀ x ∈ lits, lit (N + 1) x := fun x hx => by have := lit_of h0 (hv x hx); simpa using this
      have hP := Pc_eq (N : Int) l lits h0 h1 hc hv
      rw [Int.toNat_natCast] at hP
      have hN : N ≤ 10 := by omega
      have hp2 : (2 : Nat) ^ N ≤ 2 ^ 10 := Nat.pow_le_pow_right (by omega) hN
      obtain ⟨a, ag, hca⟩ : ∃ a ag, closeTells (close N l lits) = (a, ag) := ⟨_, _, rfl⟩
      have hf := f_l0 N hN l hl hc' lits hll hv' a ag hca (2 ^ N) KK 0 (by omega) (by omega)
      simp only [manciplelaw15_PropFollows.j0, Bool.not_true, Bool.false_eq_true, if_false]
      rw [To_eq l KK (by omega) (fun c hcc => by have := (hc c hcc).1; omega) (by omega), Option.bind_some, hP, hca, Option.bind_some]
      exact hf

end Go.Proofs.Ytjbljblhbmfbpaa.Pure
