/-
  In a chain all follow from the first, in whatever order the clauses stand; with the last one against it nothing holds. No conditions but that the three numbers are bytes.
-/
import Derived.Test.YtjbljblhbmfbpaaTheory
namespace Go.Proofs.Ytjbljblhbmfbpaa.Pure
set_option linter.unusedVariables false
set_option linter.unusedSimpArgs false
open Go.RowKit Go.Proofs.Ytjbljblhbmfbpaa.PProp Go.Proofs.YtjbljblhbmfbpaaW.PrintWords Go.Proofs.YtjbljblhbmfbpaaW.PrintLast Go.Proofs.YtjbljblhbmfbpaaW.PrintMore
open Prop15

/-- the clause that lets j + 1 bring j + 2 -/
def link (j : Nat) : List Int := [-((j : Int) + 1), (j : Int) + 2]
def chain (K t : Nat) (c : Nat) : List (List Int) := (List.range c).map fun i => link ((i + t) % (K - 1))
theorem chain_mem {K t : Nat} (hK : 2 ≤ K) {j : Nat} (hj : j < K - 1) : link j ∈ chain K t (K - 1) := by
  refine List.mem_map.mpr ⟨(j + (K - 1) - t % (K - 1)) % (K - 1), List.mem_range.mpr (Nat.mod_lt _ (by omega)), ?_⟩
  congr 1
  have h1 := Nat.mod_lt t (show K - 1 > 0 by omega)
  rw [Nat.mod_add_mod]
  have h2 := Nat.div_add_mod t (K - 1)
  obtain ⟨q, hq⟩ : ∃ q, (K - 1) * (t / (K - 1)) = q := ⟨_, rfl⟩
  rw [show j + (K - 1) - t % (K - 1) + t = j + ((K - 1) + (K - 1) * (t / (K - 1))) by omega, ← Nat.add_assoc, Nat.add_mul_mod_self_left, Nat.add_mod_right, Nat.mod_eq_of_lt hj]
theorem chain_of {K t : Nat} (hK : 2 ≤ K) {c : List Int} {n : Nat} (h : c ∈ chain K t n) : ∃ j, j < K - 1 ∧ c = link j := by
  obtain ⟨i, _, rfl⟩ := List.mem_map.mp h
  exact ⟨_, Nat.mod_lt _ (by omega), rfl⟩
theorem link_lit {K j : Nat} (hj : j < K - 1) : ∀ x ∈ link j, lit (K + 1) x := by
  intro x hx
  simp only [link, List.mem_cons, List.mem_singleton, List.not_mem_nil, or_false] at hx
  rcases hx with rfl | rfl <;> exact ⟨by omega, by omega, by omega⟩

theorem vlp (m : List Int) (i : Nat) : vl m ((i : Int) + 2) = m.getD (i + 2) 0 := by
  have := vl_pos (m := m) (i := i + 2); simpa using this
theorem vln (m : List Int) (i : Nat) : vl m (-((i : Int) + 1)) = -(m.getD (i + 1) 0) := by
  have := vl_neg (m := m) (i := i + 1) (by omega); simpa using this
/-- a closed row in which j + 1 is there has j + 2, one in which j + 2 is not has not j + 1 -/
theorem link_up {N : Nat} {m : List Int} (hm : Row N m) {j : Nat} (h : see m (link j) = some (m, false)) (h1 : m.getD (j + 1) 0 = 1) : m.getD (j + 2) 0 = 1 := by
  unfold see link at h
  simp only [scan] at h
  rw [if_pos (.inl (by rw [vln, h1]; decide))] at h
  rcases hm.sg (j + 2) with e | e | e
  · rw [if_neg (by rw [vlp, e]; omega), if_neg (by decide), if_neg (by omega)] at h
    unfold put at h
    rw [vlp, e] at h
    simp at h
  · exact e
  · rw [if_pos (.inl (by rw [vlp, e]; decide)), if_pos trivial] at h
    cases h
theorem link_down {N : Nat} {m : List Int} (hm : Row N m) {j : Nat} (h : see m (link j) = some (m, false)) (h1 : m.getD (j + 2) 0 = -1) : m.getD (j + 1) 0 = -1 := by
  unfold see link at h
  simp only [scan] at h
  rcases hm.sg (j + 1) with e | e | e
  · rw [if_neg (by rw [vln, e]; omega), if_neg (by decide), if_pos (.inl (by rw [vlp, h1]; decide)), if_neg (by omega)] at h
    unfold put at h
    rw [vln, e] at h
    simp at h
  · rw [if_pos (.inl (by rw [vln, e]; decide)), if_pos (.inl (by rw [vlp, h1]; decide)), if_pos trivial] at h
    cases h
  · exact e

/-- neither up to a, s behind it -/
def stair (K a : Nat) (s : Int) : List Int := (List.range (K + 1)).map fun i => if a ≤ i then s else 0
theorem stair_get {K a i : Nat} {s : Int} (h : i < K + 1) : (stair K a s).getD i 0 = if a ≤ i then s else 0 := by
  simp [stair, List.getD_eq_getElem?_getD, List.getElem?_map, List.getElem?_range h]
theorem stair_out {K a i : Nat} {s : Int} (h : ¬ i < K + 1) : (stair K a s).getD i 0 = 0 := by
  simp [stair, List.getD_eq_getElem?_getD, List.getElem?_eq_none (l := List.range (K + 1)) (i := i) (by simp; omega)]
theorem stair_row {K a : Nat} {s : Int} (ha : 1 ≤ a) (hs : s = 1 ∨ s = -1) : Row (K + 1) (stair K a s) := by
  refine ⟨by simp [stair], fun i => ?_, ?_⟩
  · by_cases h : i < K + 1
    · rw [stair_get h]
      split
      · exact .inr hs
      · exact .inl rfl
    · exact .inl (stair_out h)
  · rw [stair_get (by omega), if_neg (by omega)]
theorem stair_up {K a j : Nat} (ha : 1 ≤ a) (hj : j < K - 1) : see (stair K a 1) (link j) = some (stair K a 1, false) := by
  have e1 : (stair K a 1).getD (j + 1) 0 = if a ≤ j + 1 then 1 else 0 := stair_get (by omega)
  have e2 : (stair K a 1).getD (j + 2) 0 = if a ≤ j + 2 then 1 else 0 := stair_get (by omega)
  unfold see link
  simp only [scan]
  by_cases h1 : a ≤ j + 1
  · rw [if_pos h1] at e1
    rw [if_pos (by omega)] at e2
    rw [if_pos (.inl (by rw [vln, e1]; decide)), if_neg (by rw [vlp, e2]; omega), if_neg (by decide), if_neg (by omega)]
    unfold put
    rw [vlp, e2]; rfl
  · rw [if_neg h1] at e1
    rw [if_neg (by rw [vln, e1]; omega), if_neg (by decide)]
    by_cases h2 : a ≤ j + 2
    · rw [if_pos h2] at e2
      rw [if_neg (by rw [vlp, e2]; omega), if_pos (by omega)]
    · rw [if_neg h2] at e2
      rw [if_neg (by rw [vlp, e2]; omega), if_pos (by omega)]
theorem stair_down {K j : Nat} (hj : j < K - 1) : see (stair K 1 (-1)) (link j) = some (stair K 1 (-1), false) := by
  have e1 : (stair K 1 (-1)).getD (j + 1) 0 = -1 := by rw [stair_get (by omega), if_pos (by omega)]
  have e2 : (stair K 1 (-1)).getD (j + 2) 0 = -1 := by rw [stair_get (by omega), if_pos (by omega)]
  unfold see link
  simp only [scan]
  rw [if_neg (by rw [vln, e1]; omega), if_neg (by decide), if_pos (.inl (by rw [vlp, e2]; decide)), if_neg (by omega)]
  unfold put
  rw [vln, e1]; rfl
theorem row_ext {N : Nat} {m M : List Int} (hm : Row N m) (hM : Row N M) (h : ∀ i, i < N → m.getD i 0 = M.getD i 0) : m = M := by
  apply List.ext_getElem?
  intro i
  have l1 := hm.len
  have l2 := hM.len
  by_cases hi : i < N
  · have := h i hi
    rw [List.getD_eq_getElem?_getD, List.getD_eq_getElem?_getD, List.getElem?_eq_getElem (by omega), List.getElem?_eq_getElem (by omega)] at this
    rw [List.getElem?_eq_getElem (by omega), List.getElem?_eq_getElem (by omega)]
    simpa using this
  · rw [List.getElem?_eq_none (by omega), List.getElem?_eq_none (by omega)]

theorem chain_up {K : Nat} {m : List Int} (hm : Row (K + 1) m) (hcl : ∀ j, j < K - 1 → see m (link j) = some (m, false)) {a : Nat} (h1 : m.getD a 0 = 1) (ha : 1 ≤ a) : ∀ d, a + d ≤ K → m.getD (a + d) 0 = 1
  | 0, _ => h1
  | d + 1, h => by
    have ih := chain_up hm hcl h1 ha d (by omega)
    have := link_up hm (hcl (a + d - 1) (by omega)) (by rw [show a + d - 1 + 1 = a + d by omega]; exact ih)
    rw [show a + d - 1 + 2 = a + (d + 1) by omega] at this
    exact this
theorem chain_down {K : Nat} {m : List Int} (hm : Row (K + 1) m) (hcl : ∀ j, j < K - 1 → see m (link j) = some (m, false)) (h1 : m.getD K 0 = -1) : ∀ d, d < K → m.getD (K - d) 0 = -1
  | 0, _ => h1
  | d + 1, h => by
    have ih := chain_down hm hcl h1 d (by omega)
    have := link_down hm (hcl (K - d - 2) (by omega)) (by rw [show K - d - 2 + 2 = K - d by omega]; exact ih)
    rw [show K - d - 2 + 1 = K - (d + 1) by omega] at this
    exact this

/-- what is reached of the links, whichever list bears just them -/
theorem reach_up {K a : Nat} {l : List (List Int)} (ha : 1 ≤ a) (haK : a ≤ K) (h1 : ∀ c ∈ l, ∃ j, j < K - 1 ∧ c = link j) (h2 : ∀ j, j < K - 1 → link j ∈ l) : close K l [(a : Int)] = some (stair K a 1) := by
  have hc : ∀ c ∈ l, ∀ x ∈ c, lit (K + 1) x := fun c hc => by obtain ⟨j, hj, rfl⟩ := h1 c hc; exact link_lit hj
  have hv : ∀ x ∈ [(a : Int)], lit (K + 1) x := fun x hx => by rw [List.mem_singleton.mp hx]; exact ⟨by omega, by omega, by omega⟩
  have hM := stair_row (K := K) (s := 1) ha (.inl rfl)
  obtain ⟨m, hm, hle⟩ := close_least hc hv hM (fun c hcc => by obtain ⟨j, hj, rfl⟩ := h1 c hcc; exact stair_up ha hj) (fun x hx => by
    rw [List.mem_singleton.mp hx, vl_pos, stair_get (by omega), if_pos (Nat.le_refl _)])
  obtain ⟨hr, hcl, hl⟩ := close_closed hc hv hm
  have h3 := hl a (List.mem_singleton.mpr rfl)
  rw [vl_pos] at h3
  have hup := chain_up hr (fun j hj => hcl _ (h2 j hj)) h3 ha
  rw [hm]
  congr 1
  refine row_ext hr hM (fun i hi => ?_)
  rw [stair_get hi]
  split
  · rename_i h
    have := hup (i - a) (by omega)
    rwa [show a + (i - a) = i by omega] at this
  · rename_i h
    apply Classical.byContradiction
    intro hne
    have := hle i hne
    rw [stair_get hi, if_neg h] at this
    exact hne this.symm
theorem reach_down {K : Nat} {l : List (List Int)} (hK : 1 ≤ K) (h1 : ∀ c ∈ l, ∃ j, j < K - 1 ∧ c = link j) (h2 : ∀ j, j < K - 1 → link j ∈ l) : close K l [-(K : Int)] = some (stair K 1 (-1)) := by
  have hc : ∀ c ∈ l, ∀ x ∈ c, lit (K + 1) x := fun c hc => by obtain ⟨j, hj, rfl⟩ := h1 c hc; exact link_lit hj
  have hv : ∀ x ∈ [-(K : Int)], lit (K + 1) x := fun x hx => by rw [List.mem_singleton.mp hx]; exact ⟨by omega, by omega, by omega⟩
  have hM := stair_row (K := K) (a := 1) (s := -1) (Nat.le_refl _) (.inr rfl)
  obtain ⟨m, hm, _⟩ := close_least hc hv hM (fun c hcc => by obtain ⟨j, hj, rfl⟩ := h1 c hcc; exact stair_down hj) (fun x hx => by
    rw [List.mem_singleton.mp hx, vl_neg hK, stair_get (by omega), if_pos hK]; rfl)
  obtain ⟨hr, hcl, hl⟩ := close_closed hc hv hm
  have h3 := hl _ (List.mem_singleton.mpr rfl)
  rw [vl_neg hK] at h3
  have hdn := chain_down hr (fun j hj => hcl _ (h2 j hj)) (by omega)
  rw [hm]
  congr 1
  refine row_ext hr hM (fun i hi => ?_)
  rw [stair_get hi]
  split
  · rename_i h
    have := hdn (K - i) (by omega)
    rwa [show K - (K - i) = i by omega] at this
  · rename_i h
    obtain rfl : i = 0 := by omega
    exact hr.z0
theorem reach_none {K a : Nat} {l : List (List Int)} (ha : 1 ≤ a) (haK : a ≤ K) (h1 : ∀ c ∈ l, ∃ j, j < K - 1 ∧ c = link j) (h2 : ∀ j, j < K - 1 → link j ∈ l) : close K (l ++ [[-(K : Int)]]) [(a : Int)] = none := by
  have hc : ∀ c ∈ l ++ [[-(K : Int)]], ∀ x ∈ c, lit (K + 1) x := fun c hc => by
    rcases List.mem_append.mp hc with hc | hc
    · obtain ⟨j, hj, rfl⟩ := h1 c hc; exact link_lit hj
    · rw [List.mem_singleton.mp hc]
      intro x hx
      rw [List.mem_singleton.mp hx]; exact ⟨by omega, by omega, by omega⟩
  have hv : ∀ x ∈ [(a : Int)], lit (K + 1) x := fun x hx => by rw [List.mem_singleton.mp hx]; exact ⟨by omega, by omega, by omega⟩
  cases hm : close K (l ++ [[-(K : Int)]]) [(a : Int)] with
  | none => rfl
  | some m =>
    exfalso
    obtain ⟨hr, hcl, hl⟩ := close_closed hc hv hm
    have h3 := hl a (List.mem_singleton.mpr rfl)
    rw [vl_pos] at h3
    have hup := chain_up hr (fun j hj => hcl _ (List.mem_append_left _ (h2 j hj))) h3 ha (K - a) (by omega)
    rw [show a + (K - a) = K by omega] at hup
    have hk := hcl [-(K : Int)] (List.mem_append_right _ (List.mem_singleton.mpr rfl))
    unfold see at hk
    rw [scan_neg m _ (fun x hx => by rw [List.mem_singleton.mp hx, vl_neg (by omega), hup]; decide)] at hk
    cases hk

theorem outF_zeros : ∀ (n i : Nat) (r : List Int), outF i (List.replicate n 0 ++ r) = outF (i + n) r
  | 0, i, r => by simp
  | n + 1, i, r => by
    rw [List.replicate_succ, List.cons_append]
    simp only [outF, if_true]
    rw [outF_zeros n (i + 1) r, show i + 1 + n = i + (n + 1) by omega]
theorem outF_ones (s : Int) (hs : s ≠ 0) : ∀ (n i : Nat), outF i (List.replicate n s) = (List.range n).map fun j => ((i + j : Nat) : Int) * s
  | 0, i => rfl
  | n + 1, i => by
    rw [List.replicate_succ]
    simp only [outF]
    rw [if_neg hs, outF_ones s hs n (i + 1), List.range_succ_eq_map, List.map_cons, List.map_map]
    congr 1
    apply List.map_congr_left
    intro j _
    simp only [Function.comp_apply]
    congr 2
    omega
theorem stair_split {K a : Nat} {s : Int} (ha : a ≤ K + 1) : stair K a s = List.replicate a 0 ++ List.replicate (K + 1 - a) s := by
  apply List.ext_getElem?
  intro i
  by_cases hi : i < K + 1
  · rw [show stair K a s = (List.range (K + 1)).map fun i => if a ≤ i then s else 0 from rfl, List.getElem?_map, List.getElem?_range hi, Option.map_some]
    by_cases h : a ≤ i
    · rw [if_pos h, List.getElem?_append_right (by simpa using h), List.getElem?_replicate, if_pos (by simp; omega)]
    · rw [if_neg h, List.getElem?_append_left (by simp; omega), List.getElem?_replicate, if_pos (by omega)]
  · rw [List.getElem?_eq_none (by simp [stair]; omega), List.getElem?_eq_none (by simp; omega)]
theorem out_stair {K a : Nat} {s : Int} (hs : s ≠ 0) (ha : a ≤ K + 1) : outF 0 (stair K a s) = (List.range (K + 1 - a)).map fun j => ((a + j : Nat) : Int) * s := by
  rw [stair_split ha, outF_zeros, outF_ones s hs, Nat.zero_add]

theorem pc {K : Nat} (hK : K ≤ 1000) {l : List (List Int)} {lits : List Int} (hc : ∀ c ∈ l, ∀ x ∈ c, lit (K + 1) x) (hv : ∀ x ∈ lits, lit (K + 1) x) : prop_Close.f (K : Int) l lits = some (closeTells (close K l lits)) := by
  unfold prop_Close.f
  rw [if_pos ⟨by omega, by omega, by simpa using hc, by simpa using hv⟩, Int.toNat_natCast]

theorem ch_l1 (K a : Nat) (hK : 2 ≤ K) (hK2 : K ≤ 201) (ha : 1 ≤ a) (haK : a ≤ K) (t : Nat) : ∀ (d k i : Nat), i + d = K + 1 - a → d < k →
    manciplelaw15_PropChains.l1 k (K : Int) (chain K t (K - 1)) (a : Int) (outF 0 (stair K a 1)) (i : Int) = some true := by
  have hlen : (outF 0 (stair K a 1)).length = K + 1 - a := by rw [out_stair (by decide) (by omega)]; simp
  have hcl : (chain K t (K - 1)).length = K - 1 := by simp [chain]
  intro d
  induction d with
  | zero =>
    intro k i hi hk
    obtain ⟨k, rfl⟩ : ∃ m, k = m + 1 := ⟨k - 1, by omega⟩
    have h1 : ∀ c ∈ chain K t (K - 1), ∃ j, j < K - 1 ∧ c = link j := fun c hc => chain_of hK hc
    have h2 : ∀ j, j < K - 1 → link j ∈ chain K t (K - 1) := fun j hj => chain_mem hK hj
    have hc : ∀ c ∈ chain K t (K - 1), ∀ x ∈ c, lit (K + 1) x := fun c hc => by obtain ⟨j, hj, rfl⟩ := h1 c hc; exact link_lit hj
    have hc2 : ∀ c ∈ chain K t (K - 1) ++ [[-(K : Int)]], ∀ x ∈ c, lit (K + 1) x := fun c hcc => by
      rcases List.mem_append.mp hcc with hcc | hcc
      · exact hc c hcc
      · rw [List.mem_singleton.mp hcc]
        intro x hx
        rw [List.mem_singleton.mp hx]; exact ⟨by omega, by omega, by omega⟩
    have hv : ∀ x ∈ [(a : Int)], lit (K + 1) x := fun x hx => by rw [List.mem_singleton.mp hx]; exact ⟨by omega, by omega, by omega⟩
    have hv2 : ∀ x ∈ [-(K : Int)], lit (K + 1) x := fun x hx => by rw [List.mem_singleton.mp hx]; exact ⟨by omega, by omega, by omega⟩
    have hdl : (outF 0 (stair K 1 (-1))).length = K := by rw [out_stair (by decide) (by omega)]; simp
    have hd0 : (outF 0 (stair K 1 (-1))).getD 0 0 = -1 := by
      rw [out_stair (by decide) (by omega), List.getD_eq_getElem?_getD, List.getElem?_map, List.getElem?_range (by omega)]
      rfl
    have p1 : prop_Close.f (K : Int) (chain K t (K - 1) ++ [[-(K : Int)]]) [(a : Int)] = some ([], true) := by rw [pc (by omega) hc2 hv, reach_none ha haK h1 h2]; rfl
    have p2 : prop_Close.f (K : Int) (chain K t (K - 1)) [-(K : Int)] = some (outF 0 (stair K 1 (-1)), false) := by rw [pc (by omega) hc hv2, reach_down (by omega) h1 h2]; rfl
    obtain ⟨D, hD⟩ : ∃ D, outF 0 (stair K 1 (-1)) = D := ⟨_, rfl⟩
    rw [hD] at p2 hdl hd0
    have hrd : rd D 0 = -1 := hd0
    simp only [manciplelaw15_PropChains.l1]
    rw [if_neg (by omega), Option.bind_some, if_pos (by simp [hcl]; omega), List.nil_append, Option.bind_some, if_pos (by omega), w_neg _ (by omega) (by omega), p1, Option.bind_some, p2, Option.bind_some]
    dsimp only
    rw [if_pos rfl, if_pos (by decide), if_neg (by decide), if_pos (by omega), if_pos (by omega), hrd]
    rfl
  | succ d ih =>
    intro k i hi hk
    obtain ⟨k, rfl⟩ : ∃ m, k = m + 1 := ⟨k - 1, by omega⟩
    have ih2 := ih k (i + 1) (by omega) (by omega)
    have hup := w_up i (by omega)
    rw [← hup] at ih2
    have hg : (outF 0 (stair K a 1)).getD i 0 = ((a + i : Nat) : Int) := by
      rw [out_stair (by decide) (by omega), List.getD_eq_getElem?_getD, List.getElem?_map, List.getElem?_range (by omega)]
      simp
    have hw : wrap64 ((a : Int) + (i : Int)) = ((a + i : Nat) : Int) := by unfold wrap64; omega
    have hr : rd (outF 0 (stair K a 1)) (i : Int) = wrap64 ((a : Int) + (i : Int)) := by rw [rd_nat, hg, hw]
    clear ih hg hw hup
    obtain ⟨D, hD⟩ : ∃ D, outF 0 (stair K a 1) = D := ⟨_, rfl⟩
    rw [hD] at hr hlen ih2 ⊢
    simp only [manciplelaw15_PropChains.l1]
    rw [if_pos (by omega), if_pos (by omega), if_pos hr]
    exact ih2

theorem ar1 (K a : Nat) (h : a ≤ K) (hK : K ≤ 201) : wrap64 (wrap64 ((K : Int) - (a : Int)) + 1) = ((K + 1 - a : Nat) : Int) := by unfold wrap64; omega
theorem ar2 (b K : Nat) (hb : b ≤ 255) : 1 + Int.tmod (wrap64 (b : Int)) (K : Int) = ((1 + b % K : Nat) : Int) := by
  rw [w_in (b : Int) (by omega) (by omega), Int.tmod_eq_emod_of_nonneg (by omega), ← Int.natCast_emod]
  generalize b % K = r
  omega
theorem ar3 (a : Nat) (h : a ≤ 201) : wrap64 (a : Int) = (a : Int) := by unfold wrap64; omega
theorem ar4 (i t K j : Nat) (hi : i ≤ 1000) (ht : t ≤ 255) (hK : 2 ≤ K) (hK2 : K ≤ 201) (hj : (i + t) % (K - 1) = j) : Int.tmod (wrap64 ((i : Int) + wrap64 (t : Int))) (wrap64 ((K : Int) - 1)) = (j : Int) := by
  have hw1 : wrap64 ((K : Int) - 1) = ((K - 1 : Nat) : Int) := by unfold wrap64; omega
  have hw2 : wrap64 ((i : Int) + wrap64 (t : Int)) = ((i + t : Nat) : Int) := by unfold wrap64; omega
  rw [hw1, hw2, Int.tmod_eq_emod_of_nonneg (Int.natCast_nonneg _), ← Int.natCast_emod, hj]
theorem ar5 (j : Nat) (h : j ≤ 1000) : wrap64 (-(wrap64 ((j : Int) + 1))) = -((j : Int) + 1) := by unfold wrap64; omega
theorem ar6 (j : Nat) (h : j ≤ 1000) : wrap64 ((j : Int) + 2) = (j : Int) + 2 := by unfold wrap64; omega
theorem ar7 (K : Nat) (hK : 2 ≤ K) (hK2 : K ≤ 201) : wrap64 ((K : Int) - 1) = ((K - 1 : Nat) : Int) := by unfold wrap64; omega
theorem ch_l0 (K a b t : Nat) (hK : 2 ≤ K) (hK2 : K ≤ 201) (hab : a = 1 + b % K) (hb : b ≤ 255) (ht : t ≤ 255) : ∀ (d k i : Nat), i + d = K - 1 → d + 500 < k →
    manciplelaw15_PropChains.l0 k (t : Int) (b : Int) (K : Int) (chain K t i) (i : Int) = some true := by
  intro d
  induction d with
  | zero =>
    intro k i hi hk
    obtain ⟨k, rfl⟩ : ∃ m, k = m + 2 := ⟨k - 2, by omega⟩
    obtain rfl : i = K - 1 := by omega
    have q1 : ¬ (((K - 1 + 1 : Nat) : Int) < (K : Int)) := by omega
    have q2 : ¬ ((K : Int) = 0) := by omega
    have q3 : (b : Int) ≤ 255 := by omega
    have hw := w_up (K - 1) (by omega)
    have hmod := Nat.mod_lt b (show K > 0 by omega)
    have ha : 1 ≤ a := by omega
    have haK : a ≤ K := by omega
    have hq0 : 0 + (K + 1 - a) = K + 1 - a := by omega
    have hq4 : K + 1 - a < k := by omega
    have ea2 : 1 + Int.tmod (wrap64 (b : Int)) (K : Int) = (a : Int) := by rw [hab]; exact ar2 b K hb
    have ea : wrap64 (1 + Int.tmod (wrap64 (b : Int)) (K : Int)) = (a : Int) := by
      rw [ea2]; exact ar3 a (Nat.le_trans haK hK2)
    have eb := ar1 K a haK hK2
    clear hab ea2
    have h1 : ∀ c ∈ chain K t (K - 1), ∃ j, j < K - 1 ∧ c = link j := fun c hc => chain_of hK hc
    have h2 : ∀ j, j < K - 1 → link j ∈ chain K t (K - 1) := fun j hj => chain_mem hK hj
    have hc : ∀ c ∈ chain K t (K - 1), ∀ x ∈ c, lit (K + 1) x := fun c hc => by obtain ⟨j, hj, rfl⟩ := h1 c hc; exact link_lit hj
    have hv : ∀ x ∈ [(a : Int)], lit (K + 1) x := fun x hx => by rw [List.mem_singleton.mp hx]; exact ⟨by omega, by omega, by omega⟩
    have p1 : prop_Close.f (K : Int) (chain K t (K - 1)) [(a : Int)] = some (outF 0 (stair K a 1), false) := by rw [pc (by omega) hc hv, reach_up ha haK h1 h2]; rfl
    have hlen : (outF 0 (stair K a 1)).length = K + 1 - a := by rw [out_stair (by decide) (Nat.le_succ_of_le haK)]; simp
    have hl1 := ch_l1 K a hK hK2 ha haK t (K + 1 - a) k 0 hq0 hq4
    obtain ⟨C, hC⟩ : ∃ C, chain K t (K - 1) = C := ⟨_, rfl⟩
    obtain ⟨D, hD⟩ : ∃ D, outF 0 (stair K a 1) = D := ⟨_, rfl⟩
    rw [hC] at p1 hl1 ⊢
    rw [hD] at p1 hlen hl1
    simp only [manciplelaw15_PropChains.l0]
    rw [hw, if_neg q1, if_neg q2, ea, p1, Option.bind_some]
    dsimp only
    rw [if_neg (by decide), eb]
    have hbe : ((D.length : Int) != ((K + 1 - a : Nat) : Int)) = false := by rw [hlen]; simp
    rw [hbe]
    simp only [manciplelaw15_PropChains.j1]
    rw [if_neg (by decide)]
    exact hl1
  | succ d ih =>
    intro k i hi hk
    obtain ⟨k, rfl⟩ : ∃ m, k = m + 1 := ⟨k - 1, by omega⟩
    have ih2 := ih k (i + 1) (by omega) (by omega)
    have hw := w_up i (by omega)
    have q1 : ((i + 1 : Nat) : Int) < (K : Int) := by omega
    have q2 : ¬ (((K - 1 : Nat) : Int) = 0) := by omega
    have q3 : i < 5864062014805 := by omega
    have hw1 := ar7 K hK hK2
    have hi1 : i ≤ 1000 := by omega
    have hlen : (chain K t i).length = i := by simp [chain]
    have hK1 : K - 1 > 0 := by omega
    have hK3 : K - 1 ≤ 1000 := by omega
    have hj := Nat.mod_lt (i + t) hK1
    obtain ⟨j, hjd⟩ : ∃ j, (i + t) % (K - 1) = j := ⟨_, rfl⟩
    rw [hjd] at hj
    have hj1 : j ≤ 1000 := Nat.le_trans (Nat.le_of_lt hj) hK3
    have e1 := ar4 i t K j hi1 ht hK hK2 hjd
    have e2 := ar5 j hj1
    have e3 := ar6 j hj1
    have hch : chain K t (i + 1) = chain K t i ++ [[-((j : Int) + 1), (j : Int) + 2]] := by
      unfold chain
      rw [List.range_succ, List.map_append, List.map_singleton, hjd]
      rfl
    rw [hch] at ih2
    simp only [manciplelaw15_PropChains.l0]
    rw [e1, e2, e3, hw, if_pos q1, hw1, if_neg q2, if_pos (by rw [hlen]; exact q3)]
    exact ih2

theorem known_c (k : Nat) (h : 20 ≤ k) : manciplelaw15_known.f k = some true := known_at k h
theorem PropChains : manciplelaw15_PropChains.Pure := by
  intro a0 a1 a2 h0 h1 h2
  refine ⟨1000, ?_⟩
  have b0 : 0 ≤ a0 ∧ a0 ≤ 255 := by simpa [Lit.wf, IntKind.min, IntKind.max, IntKind.signed, IntKind.bits] using h0
  have b1 : 0 ≤ a1 ∧ a1 ≤ 255 := by simpa [Lit.wf, IntKind.min, IntKind.max, IntKind.signed, IntKind.bits] using h1
  have b2 : 0 ≤ a2 ∧ a2 ≤ 255 := by simpa [Lit.wf, IntKind.min, IntKind.max, IntKind.signed, IntKind.bits] using h2
  obtain ⟨t, rfl⟩ : ∃ n : Nat, a1 = (n : Int) := ⟨a1.toNat, by omega⟩
  obtain ⟨b, rfl⟩ : ∃ n : Nat, a2 = (n : Int) := ⟨a2.toNat, by omega⟩
  obtain ⟨n, hn⟩ : ∃ n : Nat, Int.tmod a0 200 = (n : Int) := ⟨(Int.tmod a0 200).toNat, by rw [Int.tmod_eq_emod_of_nonneg b0.1]; omega⟩
  have hn2 : n < 200 := by rw [Int.tmod_eq_emod_of_nonneg b0.1] at hn; omega
  have e : wrap64 (2 + wrap64 (Int.tmod a0 200)) = ((n + 2 : Nat) : Int) := by rw [hn]; unfold wrap64; omega
  unfold manciplelaw15_PropChains.f
  rw [known_c _ (by omega), Option.bind_some, if_pos rfl, e]
  exact ch_l0 (n + 2) (1 + b % (n + 2)) b t (by omega) (by omega) rfl (by omega) (by omega) (n + 1) 1000 0 (by omega) (by omega)

end Go.Proofs.Ytjbljblhbmfbpaa.Pure
