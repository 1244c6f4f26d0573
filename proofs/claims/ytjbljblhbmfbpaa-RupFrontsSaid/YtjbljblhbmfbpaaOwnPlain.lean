/-
  RupOwn, plainly: each of the clauses follows, so does what has more literals; what holds both ways does; a literal alone does not. Conditions: as each statement has them.
-/
import Derived.Test.YtjbljblhbmfbpaaPureRTheory
import Derived.Test.YtjbljblhbmfbpaaPureRAny
namespace Go.Proofs.Ytjbljblhbmfbpaa.PureR
open Go.RowKit Go.Proofs.Ytjbljblhbmfbpaa.PRup Go.Proofs.YtjbljblhbmfbpaaW.PrintWords Go.Proofs.YtjbljblhbmfbpaaW.PrintLast Go.Proofs.YtjbljblhbmfbpaaW.PrintMore
open Prop15

theorem vl_flip (m : List Int) {x : Int} (h : x ≠ 0) : vl m (-x) = -(vl m x) := by
  unfold vl
  by_cases hx : x < 0
  · rw [if_pos hx, if_neg (by omega), Int.neg_neg]
  · rw [if_neg hx, if_pos (by omega), Int.neg_neg]
theorem neg_lits {n : Nat} {c : List Int} (h : ∀ x ∈ c, lit (n + 1) x) : ∀ y ∈ c.map (fun x => -x), lit (n + 1) y := fun y hy => by
  obtain ⟨x, hx, rfl⟩ := List.mem_map.1 hy
  exact lit_neg (h x hx)
/-- what has all literals of one of the clauses follows -/
theorem fol_sup {n : Nat} {l : List (List Int)} {c d : List Int} (hc : ∀ c ∈ l, ∀ x ∈ c, lit (n + 1) x) (hd : ∀ x ∈ d, lit (n + 1) x) (hm : c ∈ l) (hs : ∀ x ∈ c, x ∈ d) : fol n l d = true := by
  unfold fol
  cases h : close n l (d.map (fun x => -x)) with
  | none => rfl
  | some m =>
    obtain ⟨_, h2, h3⟩ := close_closed hc (neg_lits hd) h
    have h4 := h2 c hm
    have h5 : scan m 0 c = none := scan_neg m c (fun x hx => by
      have h6 := h3 (-x) (List.mem_map.2 ⟨x, hs x hx, rfl⟩)
      rw [vl_flip m (hc c hm x hx).1] at h6
      omega)
    unfold see at h4
    rw [h5] at h4
    cases h4
/-- what holds both ways follows -/
theorem fol_both {n : Nat} {x : Int} (hx : lit (n + 1) x) : fol n [] [x, -x] = true := by
  unfold fol
  cases h : close n [] ([x, -x].map (fun x => -x)) with
  | none => rfl
  | some m =>
    obtain ⟨_, _, h3⟩ := close_closed (l := []) (fun c hc => by cases hc) (neg_lits (c := [x, -x]) (fun y hy => by
      rcases List.mem_cons.1 hy with rfl | hy
      · exact hx
      · rw [List.mem_singleton.1 hy]; exact lit_neg hx)) h
    have h4 := h3 (-x) (by simp)
    have h5 := h3 x (by simp)
    rw [vl_flip m hx.1] at h4
    omega
/-- a literal alone does not -/
theorem fol_one {n : Nat} {x : Int} (hx : lit (n + 1) x) : fol n [] [x] = false := by
  unfold fol
  have hl := lit_neg hx
  obtain ⟨m, h, _⟩ := close_least (n := n) (l := []) (lits := [-x]) (M := st (List.replicate (n + 1) 0) (-x)) (fun c hc => by cases hc) (fun y hy => by rw [List.mem_singleton.1 hy]; exact hl) ((Row.zero n).st hl) (fun c hc => by cases hc)
    (fun y hy => by rw [List.mem_singleton.1 hy]; exact vl_st (Row.zero n).len hl)
  show (close n [] [-x]).isNone = false
  rw [h]; rfl
theorem chk_zero {n : Nat} {c : List Int} (hn : n ≤ 256) (hl : c.length ≤ 256) (h : ∀ x ∈ c, lit (n + 1) x) : chk (n : Int) c = 0 := by
  unfold chk
  rw [if_neg (by omega), if_neg (by omega), if_neg (fun hb => by
    obtain ⟨x, hx, hb⟩ := List.any_eq_true.1 hb
    obtain ⟨a, b, d⟩ := h x hx
    unfold bad at hb
    simp at hb
    omega)]
theorem chkFrom_zero {n : Nat} (hn : n ≤ 256) : ∀ (l : List (List Int)) (i : Nat), (∀ c ∈ l, c.length ≤ 256 ∧ ∀ x ∈ c, lit (n + 1) x) → (chkFrom (n : Int) l i).2 = 0
  | [], _, _ => rfl
  | c :: l, i, h => by
    unfold chkFrom
    rw [if_pos (chk_zero hn (h c (by simp)).1 (h c (by simp)).2)]
    exact chkFrom_zero hn l (i + 1) (fun d hd => h d (by simp [hd]))
theorem chkAll_zero {n : Nat} (hn : n ≤ 256) {l : List (List Int)} (hl : l.length ≤ 1000) (h : ∀ c ∈ l, c.length ≤ 256 ∧ ∀ x ∈ c, lit (n + 1) x) : (chkAll (n : Int) l).2 = 0 := by
  unfold chkAll
  rw [if_neg (by omega), if_neg (by omega)]
  exact chkFrom_zero hn l 0 h
theorem Ends_own {n : Nat} (hn : n ≤ 256) {l : List (List Int)} (hl : l.length ≤ 1000) {c : List Int} {x : Int} (h : ∀ c ∈ l, c.length ≤ 256 ∧ ∀ x ∈ c, lit (n + 1) x) (hm : c ∈ l) (hcl : c.length ≤ 200) (hx : lit (n + 1) x) :
    rup_Ends.f (n : Int) l [c ++ [x], c] c = some true := by
  have hc := (h c hm).2
  have hd : ∀ y ∈ c ++ [x], lit (n + 1) y := fun y hy => by
    rcases List.mem_append.1 hy with hy | hy
    · exact hc y hy
    · rw [List.mem_singleton.1 hy]; exact hx
  have hlits : ∀ c ∈ l, ∀ x ∈ c, lit (n + 1) x := fun c hc => (h c hc).2
  have hr : (rupChk (n : Int) l [c ++ [x], c]).2 = 0 := by
    unfold rupChk
    rw [if_pos (chkAll_zero hn hl h)]
    simp only [rupFrom, Int.toNat_natCast]
    rw [if_pos (chk_zero hn (by simp; omega) hd), if_pos (fol_sup hlits hd hm (fun y hy => List.mem_append_left _ hy)), if_pos (chk_zero hn (by omega) hc),
      if_pos (fol_sup (l := l ++ [c ++ [x]]) (c := c) (fun e he => by
        rcases List.mem_append.1 he with he | he
        · exact hlits e he
        · rw [List.mem_singleton.1 he]; exact hd) hc (List.mem_append_left _ hm) (fun y hy => hy))]
  rw [EndsA (n : Int) l _ c (by simp), if_pos hr, if_neg (by simp)]
  simp
theorem fol_f {n : Nat} (hn : n ≤ 256) {l : List (List Int)} {c : List Int} (h : ∀ c ∈ l, ∀ x ∈ c, lit (n + 1) x) (hcl : c.length ≤ 1000) (hx : ∀ x ∈ c, lit (n + 1) x) : rup_Follows.f (n : Int) l c = some (fol n l c) := by
  unfold rup_Follows.f
  rw [if_pos ⟨by omega, by omega, by omega, by rw [Int.toNat_natCast]; exact h, by rw [Int.toNat_natCast]; exact hx⟩, Int.toNat_natCast]
/-- all that RupOwn asks -/
theorem own_facts {n : Int} (h0 : 0 ≤ n) (h30 : n ≤ 30) {l : List (List Int)} (hl : l.length ≤ 120) (hok : ∀ c ∈ l, okClause n c) {c : List Int} (hm : c ∈ l) (hcl : c.length ≤ 200) {x : Int} (hx : x ≠ 0 ∧ x ≤ n ∧ -n ≤ x) :
    manciplelaw13_To.f 2000 l = some l ∧ rup_Follows.f n l c = some true ∧ rup_Follows.f n l (c ++ [x]) = some true ∧ rup_Follows.f n [] [x, -x] = some true ∧ rup_Follows.f n [] [x] = some false ∧ rup_Ends.f n l [c ++ [x], c] c = some true := by
  obtain ⟨m, rfl⟩ : ∃ m : Nat, n = (m : Int) := ⟨n.toNat, by omega⟩
  have h : ∀ c ∈ l, c.length ≤ 256 ∧ ∀ x ∈ c, lit (m + 1) x := fun c hc => ⟨(hok c hc).1, fun y hy => by
    obtain ⟨a, b, d⟩ := (hok c hc).2 y hy
    exact ⟨a, by omega, by omega⟩⟩
  have hlits : ∀ c ∈ l, ∀ x ∈ c, lit (m + 1) x := fun c hc => (h c hc).2
  have hxl : lit (m + 1) x := ⟨hx.1, by omega, by omega⟩
  have hd : ∀ y ∈ c ++ [x], lit (m + 1) y := fun y hy => by
    rcases List.mem_append.1 hy with hy | hy
    · exact (h c hm).2 y hy
    · rw [List.mem_singleton.1 hy]; exact hxl
  have h2 : ∀ y ∈ [x, -x], lit (m + 1) y := fun y hy => by
    rcases List.mem_cons.1 hy with rfl | hy
    · exact hxl
    · rw [List.mem_singleton.1 hy]; exact lit_neg hxl
  refine ⟨To_eq l 2000 (by omega) (fun c hc => by have := (h c hc).1; omega) (by omega), ?_, ?_, ?_, ?_, Ends_own (by omega) (by omega) h hm hcl hxl⟩
  · rw [fol_f (by omega) hlits (by omega) (h c hm).2, fol_sup hlits (h c hm).2 hm (fun y hy => hy)]
  · rw [fol_f (by omega) hlits (by simp; omega) hd, fol_sup hlits hd hm (fun y hy => List.mem_append_left _ hy)]
  · rw [fol_f (by omega) (fun c hc => by cases hc) (by simp) h2, fol_both hxl]
  · rw [fol_f (by omega) (fun c hc => by cases hc) (by simp) (fun y hy => by rw [List.mem_singleton.1 hy]; exact hxl), fol_one hxl]
end Go.Proofs.Ytjbljblhbmfbpaa.PureR
