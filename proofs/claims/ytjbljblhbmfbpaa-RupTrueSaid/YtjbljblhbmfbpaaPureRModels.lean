/-
  Each model that has the literals has what follows; where all is against itself there is none; what follows of what follows is that. No conditions.
-/
import Derived.Lib.Hide
import Derived.Test.YtjbljblhbmfbpaaPureRTheory
import Derived.Test.YtjbljblhbmfbpaaPRupx7
namespace Go.Proofs.Ytjbljblhbmfbpaa.PureR
open Go.RowKit Go.Proofs.Ytjbljblhbmfbpaa.PRup Go.Proofs.YtjbljblhbmfbpaaW.PrintWords Go.Proofs.YtjbljblhbmfbpaaW.PrintLast Go.Proofs.YtjbljblhbmfbpaaW.PrintMore
open Prop15
set_option linter.unusedVariables false
set_option linter.unusedSimpArgs false

theorem u_small (i : Nat) (h : i ≤ 1000) : IntKind.u64.wrap (i : Int) = (i : Int) := IntWalk.u64_in _ (by omega)
theorem SetOf_any (n : Nat) (hn : n ≤ 10) (b : Int) : ∀ (d k i : Nat) (acc : List Int), i + d = n → acc.length ≤ i → d < k → ∃ S, mancipleref14_SetOf.l0 k (n : Int) b acc (i : Int) = some S ∧ S.length ≤ n := by
  intro d
  induction d with
  | zero =>
    intro k i acc hi ha hk
    obtain ⟨k, rfl⟩ : ∃ m, k = m + 1 := ⟨k - 1, by omega⟩
    simp only [mancipleref14_SetOf.l0]
    rw [if_neg (by omega)]
    exact ⟨acc, rfl, by omega⟩
  | succ d ih =>
    intro k i acc hi ha hk
    obtain ⟨k, rfl⟩ : ∃ m, k = m + 1 := ⟨k - 1, by omega⟩
    simp only [mancipleref14_SetOf.l0]
    rw [if_pos (by omega), u_small i (by omega), if_pos (by omega), w_up _ (by omega)]
    split
    · rw [if_pos (by omega)]
      exact ih k (i + 1) _ (by omega) (by simp; omega) (by omega)
    · exact ih k (i + 1) _ (by omega) (by omega) (by omega)
theorem Model_loop (n : Nat) (hn : n ≤ 10) (S : List Int) (hS : S.length ≤ 10) : ∀ (d k i : Nat) (M : List Bool), i + d = S.length → M.length = n → d < k → ∃ M', mancipleref14_Model.l0 k S (n : Int) M (i : Int) = some M' ∧ M'.length = n := by
  intro d
  induction d with
  | zero =>
    intro k i M hi hM hk
    obtain ⟨k, rfl⟩ : ∃ m, k = m + 1 := ⟨k - 1, by omega⟩
    simp only [mancipleref14_Model.l0]
    rw [if_neg (by omega)]
    exact ⟨M, rfl, hM⟩
  | succ d ih =>
    intro k i M hi hM hk
    obtain ⟨k, rfl⟩ : ∃ m, k = m + 1 := ⟨k - 1, by omega⟩
    simp only [mancipleref14_Model.l0]
    rw [if_pos (by omega), if_pos (by omega), w_up _ (by omega)]
    split
    · rename_i h1
      split
      · rename_i h2
        rw [if_pos (by omega)]
        exact ih k (i + 1) _ (by omega) (by simpa using hM) (by omega)
      · exact ih k (i + 1) _ (by omega) hM (by omega)
    · exact ih k (i + 1) _ (by omega) hM (by omega)
theorem Model_any (n : Nat) (hn : n ≤ 10) (S : List Int) (hS : S.length ≤ 10) (k : Nat) (hk : 20 < k) : ∃ M, mancipleref14_Model.f k S (n : Int) = some M ∧ M.length = n := by
  unfold mancipleref14_Model.f
  rw [if_pos (by omega), if_pos (by omega), Int.toNat_natCast]
  exact Model_loop n hn S hS S.length k 0 _ (by omega) (by simp) (by omega)

/-- does a literal hold in a model? -/
def hv (M : List Bool) (x : Int) : Bool := if x > 0 then M.getD (x.toNat - 1) false else !(M.getD ((-x).toNat - 1) false)
theorem rdb (M : List Bool) (i : Int) : rdOf false M i = M.getD i.toNat false := rfl
theorem Holds_loop (n : Nat) (hn : n ≤ 10) (M : List Bool) (hM : M.length = n) (c : List Int) (hc : ∀ x ∈ c, lit (n + 1) x) (hcl : c.length ≤ 256) : ∀ (d k i : Nat), i + d = c.length → d < k → mancipleref14_HoldsClause.l0 k c M (i : Int) = some ((c.drop i).any (hv M)) := by
  intro d
  induction d with
  | zero =>
    intro k i hi hk
    obtain ⟨k, rfl⟩ : ∃ m, k = m + 1 := ⟨k - 1, by omega⟩
    simp only [mancipleref14_HoldsClause.l0]
    rw [if_neg (by omega), List.drop_of_length_le (by omega)]
    rfl
  | succ d ih =>
    intro k i hi hk
    obtain ⟨k, rfl⟩ : ∃ m, k = m + 1 := ⟨k - 1, by omega⟩
    have ih2 := ih k (i + 1) (by omega) (by omega)
    have hx := hc _ (mem_at c 0 i (by omega))
    rw [drop_at c 0 i (by omega), List.any_cons]
    obtain ⟨x, hxe⟩ : ∃ x, c.getD i 0 = x := ⟨_, rfl⟩
    rw [hxe] at hx ⊢
    have hrd : rd c (i : Int) = x := by rw [rd_nat, hxe]
    obtain ⟨h0, h1, h2⟩ := hx
    have hup := w_up i (by omega)
    have p1 : (i : Int) < (c.length : Int) := by omega
    have p2 : (0 : Int) ≤ (i : Int) := by omega
    have w1 : wrap64 (-(M.length : Int)) = -(n : Int) := by rw [hM]; exact w_in _ (by omega) (by omega)
    have w2 : wrap64 (x - 1) = x - 1 := w_in _ (by omega) (by omega)
    have w3 : wrap64 (wrap64 (-x) - 1) = -x - 1 := by rw [w_in (-x) (by omega) (by omega)]; exact w_in _ (by omega) (by omega)
    simp only [mancipleref14_HoldsClause.l0]
    rw [hrd, hup, w1, w2, w3, hM, if_pos p1, if_pos p2]
    clear ih hrd hup w1 w2 w3 hc hxe p1 p2 hi hk hcl
    by_cases hp : x ≥ 1
    · have hvx : hv M x = M.getD (x.toNat - 1) false := by unfold hv; rw [if_pos (by omega)]
      have e1 : (x - 1).toNat = x.toNat - 1 := by omega
      rw [if_pos hp, if_pos (by omega), if_pos (by omega), if_pos (by omega), rdb, e1, hvx]
      cases M.getD (x.toNat - 1) false with
      | true => simp
      | false => rw [if_neg (by decide), if_neg (by omega), ih2]; simp
    · have hvx : hv M x = !(M.getD ((-x).toNat - 1) false) := by unfold hv; rw [if_neg (by omega)]
      have e1 : (-x - 1).toNat = (-x).toNat - 1 := by omega
      rw [if_neg hp, if_pos (by omega), if_pos (by omega), if_pos (by omega), if_pos (by omega), rdb, e1, hvx]
      cases M.getD ((-x).toNat - 1) false with
      | true => rw [if_pos rfl, ih2]; simp
      | false => rw [if_neg (by decide)]; simp
theorem Holds_eq (n : Nat) (hn : n ≤ 10) (M : List Bool) (hM : M.length = n) (c : List Int) (hc : ∀ x ∈ c, lit (n + 1) x) (hcl : c.length ≤ 256) (k : Nat) (hk : 300 ≤ k) : mancipleref14_HoldsClause.f k c M = some (c.any (hv M)) := by
  unfold mancipleref14_HoldsClause.f
  exact Holds_loop n hn M hM c hc hcl c.length k 0 (by omega) (by omega)
theorem First_loop (n : Nat) (hn : n ≤ 10) (M : List Bool) (hM : M.length = n) (l : List (List Int)) (hl : l.length ≤ 120) (hc : ∀ c ∈ l, c.length ≤ 256 ∧ ∀ x ∈ c, lit (n + 1) x) : ∀ (d k i : Nat), i + d = l.length → d + 400 < k →
    ∃ r, mancipleref14_First.l0 k l M (i : Int) = some r ∧ (r < 0 → ∀ c ∈ l.drop i, c.any (hv M) = true) := by
  intro d
  induction d with
  | zero =>
    intro k i hi hk
    obtain ⟨k, rfl⟩ : ∃ m, k = m + 1 := ⟨k - 1, by omega⟩
    simp only [mancipleref14_First.l0]
    rw [if_neg (by omega)]
    refine ⟨-1, rfl, fun _ c hc => ?_⟩
    rw [List.drop_of_length_le (by omega)] at hc
    cases hc
  | succ d ih =>
    intro k i hi hk
    obtain ⟨k, rfl⟩ : ∃ m, k = m + 1 := ⟨k - 1, by omega⟩
    obtain ⟨r, h1, h2⟩ := ih k (i + 1) (by omega) (by omega)
    have hm := hc _ (mem_at l [] i (by omega))
    have hH := Holds_eq n hn M hM (l.getD i []) hm.2 hm.1 k (by omega)
    simp only [mancipleref14_First.l0]
    rw [if_pos (by omega), if_pos (by omega), rdL_nat, hH, Option.bind_some, w_up _ (by omega)]
    cases hb : (l.getD i []).any (hv M) with
    | true =>
      rw [if_pos rfl]
      refine ⟨r, h1, fun hr c hcc => ?_⟩
      rw [drop_at l [] i (by omega)] at hcc
      rcases List.mem_cons.mp hcc with rfl | hcc
      · exact hb
      · exact h2 hr c hcc
    | false =>
      rw [if_neg (by decide)]
      exact ⟨_, rfl, fun hr => by omega⟩

/-- a model as a row of signs -/
def mrow (n : Nat) (M : List Bool) : List Int := (List.range (n + 1)).map fun i => if i = 0 then 0 else if M.getD (i - 1) false then 1 else -1
theorem mrow_get {n i : Nat} {M : List Bool} (h : i < n + 1) : (mrow n M).getD i 0 = if i = 0 then 0 else if M.getD (i - 1) false then 1 else -1 := by
  simp [mrow, List.getD_eq_getElem?_getD, List.getElem?_map, List.getElem?_range h]
theorem mrow_row (n : Nat) (M : List Bool) : Row (n + 1) (mrow n M) := by
  refine ⟨by simp [mrow], fun i => ?_, ?_⟩
  · by_cases h : i < n + 1
    · rw [mrow_get h]
      split
      · exact .inl rfl
      · split
        · exact .inr (.inl rfl)
        · exact .inr (.inr rfl)
    · exact .inl (by simp [mrow, List.getD_eq_getElem?_getD, List.getElem?_eq_none (l := List.range (n + 1)) (i := i) (by simp; omega)])
  · rw [mrow_get (by omega), if_pos rfl]
theorem vl_mrow {n : Nat} {M : List Bool} {x : Int} (hx : lit (n + 1) x) : vl (mrow n M) x = if hv M x then 1 else -1 := by
  obtain ⟨h0, h1, h2⟩ := hx
  by_cases hn : x < 0
  · obtain ⟨i, rfl⟩ : ∃ i : Nat, x = -(i : Int) := ⟨(-x).toNat, by omega⟩
    rw [vl_neg (by omega), mrow_get (by omega), if_neg (show ¬ i = 0 by omega)]
    unfold hv
    rw [if_neg (show ¬ (-(i : Int) > 0) by omega), show (- -(i : Int)).toNat = i by omega]
    cases M.getD (i - 1) false <;> rfl
  · obtain ⟨i, rfl⟩ : ∃ i : Nat, x = (i : Int) := ⟨x.toNat, by omega⟩
    rw [vl_pos, mrow_get (by omega), if_neg (show ¬ i = 0 by omega)]
    unfold hv
    rw [if_pos (show (i : Int) > 0 by omega), Int.toNat_natCast]
theorem mrow_uF {n : Nat} {M : List Bool} : ∀ (c : List Int) (u : Int), (∀ x ∈ c, lit (n + 1) x) → c.any (hv M) = true → uF (mrow n M) u c = (0, false)
  | [], _, _, h => by simp at h
  | x :: c, u, hc, h => by
    have hx := vl_mrow (M := M) (hc x List.mem_cons_self)
    simp only [uF]
    rw [List.any_cons] at h
    cases hb : hv M x with
    | true => rw [hx, hb, if_pos (by decide)]
    | false =>
      rw [hb, Bool.false_or] at h
      rw [hx, hb, if_neg (by decide), if_pos (.inl (by decide))]
      exact mrow_uF c u (fun y hy => hc y (List.mem_cons_of_mem _ hy)) h
theorem mrow_closed {n : Nat} {M : List Bool} {l : List (List Int)} (hc : ∀ c ∈ l, ∀ x ∈ c, lit (n + 1) x) (h : ∀ c ∈ l, c.any (hv M) = true) : Closed l (mrow n M) := by
  intro c hcc
  have := scan_uF (mrow n M) (mrow_row n M).sg c 0 (.inl rfl) (fun x hx => (hc c hcc x hx).1)
  unfold see
  rw [this, mrow_uF c 0 (hc c hcc) (h c hcc)]
  rfl
/-- what follows holds in each model that has the literals -/
theorem models {n : Nat} {M : List Bool} {l : List (List Int)} {lits : List Int} (hc : ∀ c ∈ l, ∀ x ∈ c, lit (n + 1) x) (hvv : ∀ x ∈ lits, lit (n + 1) x) (h : ∀ c ∈ l, c.any (hv M) = true) (hl : ∀ x ∈ lits, hv M x = true) :
    ∃ m, close n l lits = some m ∧ ∀ y ∈ outF 0 m, hv M y = true := by
  obtain ⟨m, h1, h2⟩ := close_least hc hvv (mrow_row n M) (mrow_closed hc h) (fun x hx => by rw [vl_mrow (hvv x hx), hl x hx]; rfl)
  refine ⟨m, h1, fun y hy => ?_⟩
  have hr := (close_closed hc hvv h1).1
  obtain ⟨h3, h4⟩ := out_vl hr hy
  have := h2.vl (x := y) (by rw [h4]; decide)
  rw [vl_mrow h3, h4] at this
  cases hb : hv M y with
  | true => rfl
  | false => rw [hb] at this; simp at this

end Go.Proofs.Ytjbljblhbmfbpaa.PureR
