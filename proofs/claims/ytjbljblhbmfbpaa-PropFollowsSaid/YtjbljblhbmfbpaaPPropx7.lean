/- Printed by this session's program pp.py: the functions that the law uses as plain functions, and that each call comes to just what its plain function tells; in the last text the row itself. No conditions but those that stand in each statement. -/
import Derived.Test.YtjbljblhbmfbpaaPPropx0
import Derived.Test.YtjbljblhbmfbpaaPPropx6
namespace Go.Proofs.Ytjbljblhbmfbpaa.PProp
open Go.RowKit Go.Proofs.YtjbljblhbmfbpaaW.PrintWords Go.Proofs.YtjbljblhbmfbpaaW.PrintLast Go.Proofs.YtjbljblhbmfbpaaW.PrintMore
attribute [local go_sem] max2_int min2_int max_two min_two max_three min_three max_four min_four   -- for this text's walks alone
set_option linter.unusedVariables false
set_option linter.unusedSimpArgs false

/-! ### mancipleref14_First: function 23 -/
def mancipleref14_First.l0 : Nat → List (List Int) → List Bool → Int → Option (Int)
  | 0, _, _, _ => none
  | k + 1, x0, x1, x5 => if x5 < (x0.length : Int) then (if 0 ≤ x5 then ((mancipleref14_HoldsClause.f k (rd_L1 x0 x5) x1).bind fun t325 => (if t325 = true then (mancipleref14_First.l0 k x0 x1 (wrap64 (x5 + 1))) else (some x5))) else (none)) else (some (-1))
def mancipleref14_First.f (k : Nat) (l0 : List (List Int)) (l1 : List Bool) : Option (Int) := mancipleref14_First.l0 k l0 l1 0
theorem mancipleref14_First.mono_l : ∀ k, (∀ y0 y1 y2, LeO (mancipleref14_First.l0 k y0 y1 y2) (mancipleref14_First.l0 (k + 1) y0 y1 y2))
  | 0 => fun _ _ _ r h => by simp [mancipleref14_First.l0] at h
  | k + 1 => by
    have ih0 := mancipleref14_First.mono_l k
    · intro y0 y1 y2
      unfold mancipleref14_First.l0
      repeat' first
      | (with_reducible exact ih0 _ _ _)
      | (with_reducible exact mancipleref14_HoldsClause.mono _ _ _)
      | (with_reducible exact LeO.refl _)
      | (with_reducible exact LeO.none _)
      | (with_reducible refine LeO.ite ?_ ?_)
      | (with_reducible refine LeO.bind ?_ (fun _ => ?_))
      | exact ih0 _ _ _
      | exact mancipleref14_HoldsClause.mono _ _ _
      | exact LeO.none _
      | refine LeO.ite ?_ ?_
      | refine LeO.bind ?_ (fun _ => ?_)
theorem mancipleref14_First.mono : ∀ a0 a1 k, LeO (mancipleref14_First.f k a0 a1) (mancipleref14_First.f (k + 1) a0 a1) := by
  intro a0 a1 k
  have ih0 := mancipleref14_First.mono_l k
  unfold mancipleref14_First.f
  repeat' first
      | (with_reducible exact ih0 _ _ _)
      | (with_reducible exact mancipleref14_HoldsClause.mono _ _ _)
      | (with_reducible exact LeO.refl _)
      | (with_reducible exact LeO.none _)
      | (with_reducible refine LeO.ite ?_ ?_)
      | (with_reducible refine LeO.bind ?_ (fun _ => ?_))
      | exact ih0 _ _ _
      | exact mancipleref14_HoldsClause.mono _ _ _
      | exact LeO.none _
      | refine LeO.ite ?_ ?_
      | refine LeO.bind ?_ (fun _ => ?_)
set_option maxHeartbeats 8000000 in
set_option maxRecDepth 100000 in
theorem mancipleref14_First.calls (k : Nat) (A0 : Option Addr) (c0 : Nat) (l0 : List (List Int)) (A1 : Option Addr) (c1 : Nat) (l1 : List Bool) (r : Int) (w : World) (hr0 : Kd.C (Kd.slice 3 (Kd.int .i64)) w A0 l0.length l0) (hc0 : l0.length ≤ c0) (hr1 : Kd.C Kd.bool w A1 l1.length l1) (hc1 : l1.length ≤ c1) (h : mancipleref14_First.f k l0 l1 = some r) :
    Calls Try.prog 23 #[.slice A0 l0.length c0, .slice A1 l1.length c1] w fun e w' => e = .returned (.int .i64 r) ∧ Drawn0 w w' := by
  have HR0 := Aside0.mk hr0
  have HC0 := Aside0.mk hc0
  clear hr0 hc0
  have HR1 := Aside0.mk hr1
  have HC1 := Aside0.mk hc1
  clear hr1 hc1
  have H : (mancipleref14_First.l0 k l0 l1 0) = some r := h
  clear h
  have H' := Aside0.mk H
  clear H
  go_enter Try.func23, Try.ntmps23
  go_wp2
  go_loopg [5] k (fun kq v5 w' => ∃ (x5_1 : Int), v5 = .int .i64 x5_1 ∧ Aside0 (mancipleref14_First.l0 kq l0 l1 x5_1 = some r) ∧ Aside0 (kq ≤ k) ∧ Drawn0 w w')
  case atStart => exact ⟨(0), (by first | rfl | (simp; done) | (simp [*]; done)), H', ⟨Nat.le_refl _⟩, by repeat (first | exact Drawn0.refl _ | apply Drawn0.step)⟩
  case round =>
    clear H'
    try clear c1
    try clear c2
    try clear p2
    obtain ⟨x5_1, rfl, HA, HK1, ⟨m1, rfl⟩⟩ := hrel
    cases gk with
    | zero => exact absurd HA.out (by simp [mancipleref14_First.l0])
    | succ k1 =>
      have H := HA.out
      clear HA
      simp only [mancipleref14_First.l0] at H
      by_cases c3 : x5_1 < (l0.length : Int)
      · rw [if_pos c3] at H
        have c3b0 : decide (x5_1 < (l0.length : Int)) = true := decide_eq_true c3
        clear c3
        by_cases c4 : 0 ≤ x5_1
        · rw [if_pos c4] at H
          have c4b0 : decide (0 ≤ x5_1) = true := decide_eq_true c4
          clear c4
          replace H := Option.bind_eq_some_iff.mp H
          obtain ⟨t325, A50, H⟩ := H
          replace H : (if t325 = true then (mancipleref14_First.l0 k1 l0 l1 (wrap64 (x5_1 + 1))) else (some x5_1)) = some r := H
          have A5 := Aside0.mk A50
          clear A50
          by_cases c6 : t325 = true
          · subst c6
            have H1 : (mancipleref14_First.l0 k1 l0 l1 (wrap64 (x5_1 + 1))) = some r := by rw [if_pos rfl] at H; exact H
            clear H
            have H := H1
            clear H1
            have H' := Aside0.mk H
            clear H
            have p324 : 0 ≤ (x5_1 : Int) := of_decide_eq_true (by first | (with_reducible assumption) | assumption)
            have q324 : x5_1 < (l0.length : Int) := of_decide_eq_true (by first | (with_reducible assumption) | assumption)
            obtain ⟨ad324, A324_0, c324_0, e324, hx324_0, hl324_0, hi324_0⟩ := at_L1 HR0.out x5_1 p324 q324
            cases e324
            have HR324_0 := Aside0.mk hi324_0
            have HC324_0 := Aside0.mk hl324_0
            clear hi324_0 hl324_0
            replace p324 := eq_true p324
            replace q324 := eq_true q324
            go_wp2_with (first | ((with_reducible refine gate_callee (f := 24) rfl ?_); refine goesL_ (some 17) rfl rfl Try.func24 (by kernel_rfl) rfl #[.slice A324_0 (rd_L1 l0 x5_1).length c324_0, .slice A1 l1.length c1] rfl (by (try simp only [List.map_toArray, List.map_cons, List.map_nil]); first | done | rfl | (simp only [List.length_drop, List.length_take]; rfl)) ?_; (with_reducible refine (mancipleref14_HoldsClause.calls k1 _ _ (rd_L1 l0 x5_1) _ _ l1 true _ ?side1 ?side2 ?side3 ?side4 A5.out).mono ?_); (case side1 => repeat (first | exact HR324_0.out | (with_reducible refine Kd.C_alloc ?_ _) | (with_reducible refine Kd.C_drewN ?_ _) | (with_reducible refine Kd.C_drew ?_))); (case side2 => exact HC324_0.out); (case side3 => repeat (first | exact HR1.out | (with_reducible refine Kd.C_alloc ?_ _) | (with_reducible refine Kd.C_drewN ?_ _) | (with_reducible refine Kd.C_drew ?_))); (case side4 => exact HC1.out); rintro e w' ⟨rfl, ⟨nd, rfl⟩⟩; refine ⟨_, rfl, ?_⟩))
            go_roundg k1
            case measure => have := HK1.out; omega
            case rel => exact ⟨(wrap64 (x5_1 + 1)), (by first | rfl | (simp; done) | (simp [*]; done)), H', ⟨by have := HK1.out; omega⟩, by repeat (first | exact Drawn0.refl _ | apply Drawn0.step)⟩
          · replace c6 := Bool.eq_false_iff.mpr c6
            subst c6
            have H1 : (some x5_1) = some r := by rw [if_neg (show ¬ (false = true) by decide)] at H; exact H
            clear H
            have H := H1
            clear H1
            obtain rfl := Option.some.inj H
            have p324 : 0 ≤ (x5_1 : Int) := of_decide_eq_true (by first | (with_reducible assumption) | assumption)
            have q324 : x5_1 < (l0.length : Int) := of_decide_eq_true (by first | (with_reducible assumption) | assumption)
            obtain ⟨ad324, A324_0, c324_0, e324, hx324_0, hl324_0, hi324_0⟩ := at_L1 HR0.out x5_1 p324 q324
            cases e324
            have HR324_0 := Aside0.mk hi324_0
            have HC324_0 := Aside0.mk hl324_0
            clear hi324_0 hl324_0
            replace p324 := eq_true p324
            replace q324 := eq_true q324
            go_wp2_with (first | ((with_reducible refine gate_callee (f := 24) rfl ?_); refine goesL_ (some 17) rfl rfl Try.func24 (by kernel_rfl) rfl #[.slice A324_0 (rd_L1 l0 x5_1).length c324_0, .slice A1 l1.length c1] rfl (by (try simp only [List.map_toArray, List.map_cons, List.map_nil]); first | done | rfl | (simp only [List.length_drop, List.length_take]; rfl)) ?_; (with_reducible refine (mancipleref14_HoldsClause.calls k1 _ _ (rd_L1 l0 x5_1) _ _ l1 false _ ?side1 ?side2 ?side3 ?side4 A5.out).mono ?_); (case side1 => repeat (first | exact HR324_0.out | (with_reducible refine Kd.C_alloc ?_ _) | (with_reducible refine Kd.C_drewN ?_ _) | (with_reducible refine Kd.C_drew ?_))); (case side2 => exact HC324_0.out); (case side3 => repeat (first | exact HR1.out | (with_reducible refine Kd.C_alloc ?_ _) | (with_reducible refine Kd.C_drewN ?_ _) | (with_reducible refine Kd.C_drew ?_))); (case side4 => exact HC1.out); rintro e w' ⟨rfl, ⟨nd, rfl⟩⟩; refine ⟨_, rfl, ?_⟩))
            go_ret
            exact ⟨by first | rfl | (simp; done) | (simp [*]; done), by repeat (first | exact Drawn0.refl _ | apply Drawn0.step)⟩
        · rw [if_neg c4] at H
          exact absurd H (by simp)
      · rw [if_neg c3] at H
        have c3b0 : decide (x5_1 < (l0.length : Int)) = false := decide_eq_false c3
        clear c3
        obtain rfl := Option.some.inj H
        go_wp2
        go_ret
        exact ⟨by first | rfl | (simp; done) | (simp [*]; done), by repeat (first | exact Drawn0.refl _ | apply Drawn0.step)⟩

end Go.Proofs.Ytjbljblhbmfbpaa.PProp
