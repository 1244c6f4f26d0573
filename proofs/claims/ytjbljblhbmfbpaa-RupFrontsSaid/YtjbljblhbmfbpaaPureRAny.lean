/-
  Any clauses, any steps: the program tells what the reference tells.
-/
import Derived.Test.YtjbljblhbmfbpaaPureRClose
namespace Go.Proofs.Ytjbljblhbmfbpaa.PureR
open Go.RowKit Go.Proofs.Ytjbljblhbmfbpaa.PRup Go.Proofs.YtjbljblhbmfbpaaW.PrintWords Go.Proofs.YtjbljblhbmfbpaaW.PrintLast Go.Proofs.YtjbljblhbmfbpaaW.PrintMore
open Prop15

theorem CCx_loop (n : Int) (c : List Int) (h0 : 0 ≤ n) (hn : n ≤ 256) (hc : c.length ≤ 256) : ∀ (d k i : Nat), i + d = c.length → d < k →
    mancipleref14_CheckClause.l0 k n c (i : Int) = some (if (c.drop i).any (bad n) then 11 else 0) := by
  intro d
  induction d with
  | zero =>
    intro k i hi hk
    obtain ⟨k, rfl⟩ : ∃ m, k = m + 1 := ⟨k - 1, by omega⟩
    simp only [mancipleref14_CheckClause.l0]
    rw [if_neg (by omega), List.drop_of_length_le (by omega)]
    rfl
  | succ d ih =>
    intro k i hi hk
    obtain ⟨k, rfl⟩ : ∃ m, k = m + 1 := ⟨k - 1, by omega⟩
    simp only [mancipleref14_CheckClause.l0]
    rw [if_pos (by omega), if_pos (by omega), rd_nat, w_neg n (by omega) (by omega), w_up _ (by omega), ih k (i + 1) (by omega) (by omega), drop_at c 0 i (by omega), List.any_cons]
    generalize c.getD i 0 = x
    by_cases h1 : x = 0
    · have hb : bad n x = true := by unfold bad; rw [decide_eq_false (fun h => h.1 h1)]; rfl
      rw [if_pos h1, hb]; rfl
    · rw [if_neg h1]
      by_cases h2 : x > n
      · have hb : bad n x = true := by unfold bad; rw [decide_eq_false (fun h => by have := h.2.2; omega)]; rfl
        rw [if_pos h2, hb]; rfl
      · rw [if_neg h2]
        by_cases h3 : x < -n
        · have hb : bad n x = true := by unfold bad; rw [decide_eq_false (fun h => by have := h.2.1; omega)]; rfl
          rw [if_pos h3, hb]; rfl
        · have hb : bad n x = false := by unfold bad; rw [decide_eq_true ⟨h1, by omega, by omega⟩]; rfl
          rw [if_neg h3, hb, Bool.false_or]
theorem CC_eq (n : Int) (c : List Int) (k : Nat) (hk : 300 ≤ k) : mancipleref14_CheckClause.f k n c = some (chk n c) := by
  obtain ⟨k, rfl⟩ : ∃ m, k = m + 1 := ⟨k - 1, by omega⟩
  unfold mancipleref14_CheckClause.f chk
  simp only [mancipleref14_CheckClause.j0]
  by_cases h0 : n < 0
  · rw [if_pos h0, if_pos trivial, if_pos (.inl h0)]
  · rw [if_neg h0]
    by_cases h1 : n > 256
    · rw [if_pos (by simpa using h1), if_pos (.inr h1)]
    · have hor : ¬(n < 0 ∨ n > 256) := by omega
      rw [if_neg (by simpa using h1), if_neg hor]
      by_cases h2 : (c.length : Int) > 256
      · rw [if_pos h2, if_pos h2]
      · rw [if_neg h2, if_neg h2]
        have := CCx_loop n c (by omega) (by omega) (by omega) c.length k 0 (by omega) (by omega)
        rw [List.drop_zero] at this
        exact this
theorem CAx_loop (n : Int) (l : List (List Int)) (hl : l.length ≤ 131072) : ∀ (d k i : Nat), i + d = l.length → d + 300 < k →
    mancipleref14_CheckAll.l0 k n l (i : Int) = some (chkFrom n (l.drop i) i) := by
  intro d
  induction d with
  | zero =>
    intro k i hi hk
    obtain ⟨k, rfl⟩ : ∃ m, k = m + 1 := ⟨k - 1, by omega⟩
    simp only [mancipleref14_CheckAll.l0]
    rw [if_neg (by omega), List.drop_of_length_le (by omega)]
    rfl
  | succ d ih =>
    intro k i hi hk
    obtain ⟨k, rfl⟩ : ∃ m, k = m + 1 := ⟨k - 1, by omega⟩
    simp only [mancipleref14_CheckAll.l0]
    rw [if_pos (by omega), if_pos (by omega), rdL_nat, CC_eq n _ k (by omega), Option.bind_some, w_up _ (by omega), ih k (i + 1) (by omega) (by omega), drop_at l [] i (by omega)]
    simp only [chkFrom]
    split <;> rfl
theorem CA_eq (n : Int) (l : List (List Int)) (k : Nat) (hk : 140000 ≤ k) : mancipleref14_CheckAll.f k n l = some (chkAll n l) := by
  obtain ⟨k, rfl⟩ : ∃ m, k = m + 1 := ⟨k - 1, by omega⟩
  unfold mancipleref14_CheckAll.f chkAll
  simp only [mancipleref14_CheckAll.j0]
  by_cases h0 : n < 0
  · rw [if_pos h0, if_pos trivial, if_pos (.inl h0)]
  · rw [if_neg h0]
    by_cases h1 : n > 256
    · rw [if_pos (by simpa using h1), if_pos (.inr h1)]
    · have hor : ¬(n < 0 ∨ n > 256) := by omega
      rw [if_neg (by simpa using h1), if_neg hor]
      by_cases h2 : (l.length : Int) > 131072
      · rw [if_pos h2, if_pos h2]
      · rw [if_neg h2, if_neg h2]
        have := CAx_loop n l (by omega) l.length k 0 (by omega) (by omega)
        rw [List.drop_zero] at this
        exact this
theorem con_loop (c : List Int) (hc : c.length ≤ 1000) (hx : ∀ x ∈ c, -1000 ≤ x ∧ x ≤ 1000) : ∀ (d k i : Nat), i + d = c.length → d < k →
    mancipleref20_contraries.l0 k c ((c.take i).map (fun x => -x)) (i : Int) = some (c.map (fun x => -x)) := by
  intro d
  induction d with
  | zero =>
    intro k i hi hk
    obtain ⟨k, rfl⟩ : ∃ m, k = m + 1 := ⟨k - 1, by omega⟩
    simp only [mancipleref20_contraries.l0]
    rw [if_neg (by omega), List.take_of_length_le (by omega)]
  | succ d ih =>
    intro k i hi hk
    obtain ⟨k, rfl⟩ : ∃ m, k = m + 1 := ⟨k - 1, by omega⟩
    simp only [mancipleref20_contraries.l0]
    have hm := hx _ (mem_at c 0 i (by omega))
    have ht : (c.take (i + 1)).map (fun x => -x) = (c.take i).map (fun x => -x) ++ [-(c.getD i 0)] := by
      rw [List.take_succ_eq_append_getElem (by omega), List.map_append, List.getD_eq_getElem?_getD, List.getElem?_eq_getElem (by omega)]; simp
    rw [if_pos (by omega), if_pos (by omega), if_pos (by rw [List.length_map, List.length_take]; omega), rd_nat, w_neg _ (by omega) (by omega), w_up _ (by omega), ← ht]
    exact ih k (i + 1) (by omega) (by omega)
theorem con_eq (c : List Int) (hc : c.length ≤ 1000) (hx : ∀ x ∈ c, -1000 ≤ x ∧ x ≤ 1000) (k : Nat) (hk : 1001 ≤ k) : mancipleref20_contraries.f k c = some (c.map (fun x => -x)) := by
  unfold mancipleref20_contraries.f
  exact con_loop c hc hx c.length k 0 (by omega) (by omega)
theorem fol_eq (n : Nat) (hn : n ≤ 256) (l : List (List Int)) (hl : l.length ≤ 1000) (hc : ∀ c ∈ l, c.length ≤ 256 ∧ ∀ x ∈ c, lit (n + 1) x) (c : List Int) (hcl : c.length ≤ 256) (hx : ∀ x ∈ c, lit (n + 1) x) (k : Nat) (hk : 400000 ≤ k) :
    mancipleref20_Follows.f k n l c = some (fol n l c) := by
  unfold mancipleref20_Follows.f
  rw [con_eq c (by omega) (fun x hx' => by obtain ⟨_, h1, h2⟩ := hx x hx'; exact ⟨by omega, by omega⟩) k (by omega), Option.bind_some,
    Close_eq (n := n) hn l hl hc (c.map (fun x => -x)) (by rw [List.length_map]; omega) (fun y hy => by obtain ⟨x, hx', rfl⟩ := List.mem_map.1 hy; exact lit_neg (hx x hx')) k hk, Option.bind_some]
  unfold fol
  cases close n l (c.map (fun x => -x)) <;> rfl
theorem rupFrom_lit {n : Int} {c : List Int} (h : chk n c = 0) : c.length ≤ 256 ∧ ∀ x ∈ c, lit (n.toNat + 1) x := ⟨(chk_ok h).2.2.1, (chk_ok h).2.2.2⟩
theorem CP_loop (n : Nat) (hn : n ≤ 256) (p : List (List Int)) (hp : p.length ≤ 100) : ∀ (d k i : Nat) (all : List (List Int)), i + d = p.length → d + 400001 < k → all.length ≤ 500 + i → (∀ c ∈ all, c.length ≤ 256 ∧ ∀ x ∈ c, lit (n + 1) x) →
    mancipleref20_CheckProof.l0 k n p all (i : Int) = some (rupFrom n all (p.drop i) i) := by
  intro d
  induction d with
  | zero =>
    intro k i all hi hk ha hc
    obtain ⟨k, rfl⟩ : ∃ m, k = m + 1 := ⟨k - 1, by omega⟩
    simp only [mancipleref20_CheckProof.l0]
    rw [if_neg (by omega), List.drop_of_length_le (by omega)]
    rfl
  | succ d ih =>
    intro k i all hi hk ha hc
    obtain ⟨k, rfl⟩ : ∃ m, k = m + 1 := ⟨k - 1, by omega⟩
    simp only [mancipleref20_CheckProof.l0]
    rw [if_pos (by omega), if_pos (by omega), rdL_nat, CC_eq n _ k (by omega), Option.bind_some, drop_at p [] i (by omega)]
    simp only [rupFrom]
    obtain ⟨c, hcc⟩ : ∃ c, p.getD i [] = c := ⟨_, rfl⟩
    rw [hcc]
    by_cases h1 : chk n c = 0
    · have hl := rupFrom_lit h1
      rw [Int.toNat_natCast] at hl
      rw [if_pos h1, if_pos h1, fol_eq n hn all (by omega) hc c hl.1 hl.2 k (by omega), Option.bind_some, Int.toNat_natCast]
      by_cases h2 : fol n all c = true
      · rw [if_pos h2, if_pos h2, if_pos (by omega), w_up _ (by omega)]
        exact ih k (i + 1) (all ++ [c]) (by omega) (by omega) (by simp only [List.length_append, List.length_singleton]; omega) (fun x hx => by
          rcases List.mem_append.1 hx with hx | hx
          · exact hc x hx
          · rw [List.mem_singleton.1 hx]; exact hl)
      · rw [if_neg h2, if_neg h2]
    · rw [if_neg h1, if_neg h1]
theorem chkAll_len {n : Int} {l : List (List Int)} (h : (chkAll n l).2 = 0) : ∀ c ∈ l, chk n c = 0 := by
  unfold chkAll at h
  split at h
  · cases h
  · split at h
    · cases h
    · exact chkFrom_ok l 0 h
theorem CP_eq (n : Int) (l p : List (List Int)) (hl : l.length ≤ 500) (hp : p.length ≤ 100) (k : Nat) (hk : 400200 ≤ k) : mancipleref20_CheckProof.f k n l p = some (rupChk n l p) := by
  unfold mancipleref20_CheckProof.f rupChk
  rw [CA_eq n l k (by omega), Option.bind_some]
  by_cases h0 : (chkAll n l).2 = 0
  · obtain ⟨hn0, hn1, _, _⟩ := chkAll_ok h0
    obtain ⟨m, rfl⟩ : ∃ m : Nat, n = (m : Int) := ⟨n.toNat, by omega⟩
    rw [if_pos h0, if_pos h0, Option.bind_some, if_pos (by simp only [List.length_nil]; omega), List.nil_append]
    have := CP_loop m (by omega) p hp p.length k 0 l (by omega) (by omega) (by omega) (fun c hc => by have := rupFrom_lit (chkAll_len h0 c hc); rwa [Int.toNat_natCast] at this)
    rw [List.drop_zero] at this
    exact this
  · rw [if_neg h0, if_neg h0]
theorem SC_loop (a b : List Int) (hab : a.length = b.length) (ha : a.length ≤ 100000) : ∀ (d k i : Nat), i + d = a.length → d < k →
    mancipleref14_SameClause.l0 k a b (i : Int) = some (a.drop i == b.drop i) := by
  intro d
  induction d with
  | zero =>
    intro k i hi hk
    obtain ⟨k, rfl⟩ : ∃ m, k = m + 1 := ⟨k - 1, by omega⟩
    simp only [mancipleref14_SameClause.l0]
    rw [if_neg (by omega), List.drop_of_length_le (by omega), List.drop_of_length_le (by omega)]
    rfl
  | succ d ih =>
    intro k i hi hk
    obtain ⟨k, rfl⟩ : ∃ m, k = m + 1 := ⟨k - 1, by omega⟩
    simp only [mancipleref14_SameClause.l0]
    rw [if_pos (by omega), if_pos (by omega), if_pos (by omega), rd_nat, rd_nat, w_up _ (by omega), drop_at a 0 i (by omega), drop_at b 0 i (by omega), List.cons_beq_cons]
    by_cases h : a.getD i 0 = b.getD i 0
    · rw [if_pos h, ih k (i + 1) (by omega) (by omega), beq_iff_eq.mpr h, Bool.true_and]
    · rw [if_neg h, beq_eq_false_iff_ne.mpr h, Bool.false_and]
theorem SC_eq (a b : List Int) (ha : a.length ≤ 100000) (k : Nat) (hk : 100001 ≤ k) : mancipleref14_SameClause.f k a b = some (a == b) := by
  unfold mancipleref14_SameClause.f
  by_cases h : a.length = b.length
  · rw [if_pos (by omega)]
    have := SC_loop a b h ha a.length k 0 (by omega) (by omega)
    simpa using this
  · rw [if_neg (by omega), beq_eq_false_iff_ne.mpr (fun e => h (by rw [e]))]
theorem Few_loop (l : List (List Int)) (hl : l.length ≤ 1000) : ∀ (d k i : Nat), i + d = l.length → d < k →
    ∃ b, manciplelaw13_Few.l0 k l (i : Int) = some b ∧ (b = true → ∀ c ∈ l.drop i, c.length ≤ 300) := by
  intro d
  induction d with
  | zero =>
    intro k i hi hk
    obtain ⟨k, rfl⟩ : ∃ m, k = m + 1 := ⟨k - 1, by omega⟩
    simp only [manciplelaw13_Few.l0]
    rw [if_neg (by omega)]
    refine ⟨true, rfl, fun _ x hx => ?_⟩
    rw [List.drop_of_length_le (by omega)] at hx
    cases hx
  | succ d ih =>
    intro k i hi hk
    obtain ⟨k, rfl⟩ : ∃ m, k = m + 1 := ⟨k - 1, by omega⟩
    simp only [manciplelaw13_Few.l0]
    rw [if_pos (by omega), if_pos (by omega), rdL_nat, w_up _ (by omega)]
    by_cases h : ((l.getD i []).length : Int) > 300
    · rw [if_pos h]; exact ⟨false, rfl, fun h => by cases h⟩
    · rw [if_neg h]
      obtain ⟨b, hb, hq⟩ := ih k (i + 1) (by omega) (by omega)
      refine ⟨b, hb, fun h0 x hx => ?_⟩
      rw [drop_at l [] i (by omega)] at hx
      rcases List.mem_cons.mp hx with rfl | hx
      · omega
      · exact hq h0 x hx
theorem Few_any (l : List (List Int)) (k : Nat) (hk : 300 ≤ k) : ∃ b, manciplelaw13_Few.f k l = some b ∧ (b = true → l.length ≤ 200 ∧ ∀ c ∈ l, c.length ≤ 300) := by
  unfold manciplelaw13_Few.f
  by_cases h : (l.length : Int) > 200
  · rw [if_pos h]; exact ⟨false, rfl, fun h => by cases h⟩
  · rw [if_neg h]
    obtain ⟨b, hb, hq⟩ := Few_loop l (by omega) l.length k 0 (by omega) (by omega)
    exact ⟨b, hb, fun h0 => ⟨by omega, by simpa using hq h0⟩⟩
theorem EndsA (n : Int) (l p : List (List Int)) (c : List Int) (hp : p.length ≤ 100) : rup_Ends.f n l p c = some (if (rupChk n l p).2 = 0 then (if p = [] then false else p.getD (p.length - 1) [] == c) else false) := by
  unfold rup_Ends.f rup_Check.f
  rw [if_pos (by omega), Option.bind_some]
  by_cases h0 : (rupChk n l p).2 = 0
  · rw [if_pos h0, if_pos h0]
    by_cases h1 : p = []
    · subst h1; rfl
    · have hpos : 0 < p.length := List.length_pos_iff.mpr h1
      rw [if_neg (by omega), if_neg h1, show wrap64 ((p.length : Int) - 1) = ((p.length - 1 : Nat) : Int) by unfold wrap64; omega, if_pos (by omega), if_pos (by omega), Int.toNat_natCast]
      unfold cnf_Same.f
      rw [Option.bind_some, drop_at p [] (p.length - 1) (by omega), List.drop_of_length_le (by omega), List.cons_beq_cons]
      simp
  · rw [if_neg h0, if_neg h0]
theorem EndsB (n : Int) (l p : List (List Int)) (c : List Int) (hl : l.length ≤ 500) (hp : p.length ≤ 100) (hpl : ∀ c ∈ p, c.length ≤ 300) (k : Nat) (hk : 400200 ≤ k) : mancipleref20_Ends.f k n l p c = some (if (rupChk n l p).2 = 0 then (if p = [] then false else p.getD (p.length - 1) [] == c) else false) := by
  unfold mancipleref20_Ends.f
  rw [CP_eq n l p hl hp k hk, Option.bind_some]
  by_cases h0 : (rupChk n l p).2 = 0
  · rw [if_pos h0, if_pos h0]
    by_cases h1 : p = []
    · subst h1; rfl
    · have hpos : 0 < p.length := List.length_pos_iff.mpr h1
      rw [if_pos (by omega), if_neg h1, show wrap64 ((p.length : Int) - 1) = ((p.length - 1 : Nat) : Int) by unfold wrap64; omega, if_pos (by omega), if_pos (by omega), rdL_nat, SC_eq _ _ (by have := hpl _ (mem_at p [] (p.length - 1) (by omega)); omega) k (by omega), Option.bind_some]
  · rw [if_neg h0, if_neg h0]
end Go.Proofs.Ytjbljblhbmfbpaa.PureR
