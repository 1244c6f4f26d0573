/- Printed by this session's program pp.py: the functions that the law uses as plain functions, and that each call comes to just what its plain function tells; in the last text the row itself. No conditions but those that stand in each statement. -/
import Derived.Test.YtjbljblhbmfbpaaPRupx0
namespace Go.Proofs.Ytjbljblhbmfbpaa.PRup
open Go.RowKit Go.Proofs.YtjbljblhbmfbpaaW.PrintWords Go.Proofs.YtjbljblhbmfbpaaW.PrintLast Go.Proofs.YtjbljblhbmfbpaaW.PrintMore
attribute [local go_sem] max2_int min2_int max_two min_two max_three min_three max_four min_four   -- for this text's walks alone
set_option linter.unusedVariables false
set_option linter.unusedSimpArgs false

/-! ### mancipleref14_HoldsClause: function 24 -/
def mancipleref14_HoldsClause.l0 : Nat → List Int → List Bool → Int → Option (Bool)
  | 0, _, _, _ => none
  | k + 1, x0, x1, x5 => if x5 < (x0.length : Int) then (if 0 ≤ x5 then (if (rd x0 x5) ≥ 1 then (if (rd x0 x5) ≤ (x1.length : Int) then (if 0 ≤ (wrap64 ((rd x0 x5) - 1)) then (if (wrap64 ((rd x0 x5) - 1)) < (x1.length : Int) then (if rdOf false x1 (wrap64 ((rd x0 x5) - 1)) = true then (some true) else (if (rd x0 x5) ≤ (-1) then (if (rd x0 x5) ≥ (wrap64 (-(x1.length : Int))) then (if 0 ≤ (wrap64 ((wrap64 (-(rd x0 x5))) - 1)) then (if (wrap64 ((wrap64 (-(rd x0 x5))) - 1)) < (x1.length : Int) then (if (rdOf false x1 (wrap64 ((wrap64 (-(rd x0 x5))) - 1)) = true) then (mancipleref14_HoldsClause.l0 k x0 x1 (wrap64 (x5 + 1))) else (some true)) else (none)) else (none)) else (mancipleref14_HoldsClause.l0 k x0 x1 (wrap64 (x5 + 1)))) else (mancipleref14_HoldsClause.l0 k x0 x1 (wrap64 (x5 + 1))))) else (none)) else (none)) else (if (rd x0 x5) ≤ (-1) then (if (rd x0 x5) ≥ (wrap64 (-(x1.length : Int))) then (if 0 ≤ (wrap64 ((wrap64 (-(rd x0 x5))) - 1)) then (if (wrap64 ((wrap64 (-(rd x0 x5))) - 1)) < (x1.length : Int) then (if (rdOf false x1 (wrap64 ((wrap64 (-(rd x0 x5))) - 1)) = true) then (mancipleref14_HoldsClause.l0 k x0 x1 (wrap64 (x5 + 1))) else (some true)) else (none)) else (none)) else (mancipleref14_HoldsClause.l0 k x0 x1 (wrap64 (x5 + 1)))) else (mancipleref14_HoldsClause.l0 k x0 x1 (wrap64 (x5 + 1))))) else (if (rd x0 x5) ≤ (-1) then (if (rd x0 x5) ≥ (wrap64 (-(x1.length : Int))) then (if 0 ≤ (wrap64 ((wrap64 (-(rd x0 x5))) - 1)) then (if (wrap64 ((wrap64 (-(rd x0 x5))) - 1)) < (x1.length : Int) then (if (rdOf false x1 (wrap64 ((wrap64 (-(rd x0 x5))) - 1)) = true) then (mancipleref14_HoldsClause.l0 k x0 x1 (wrap64 (x5 + 1))) else (some true)) else (none)) else (none)) else (mancipleref14_HoldsClause.l0 k x0 x1 (wrap64 (x5 + 1)))) else (mancipleref14_HoldsClause.l0 k x0 x1 (wrap64 (x5 + 1))))) else (none)) else (some false)
def mancipleref14_HoldsClause.f (k : Nat) (l0 : List Int) (l1 : List Bool) : Option (Bool) := mancipleref14_HoldsClause.l0 k l0 l1 0
theorem mancipleref14_HoldsClause.mono_l : ∀ k, (∀ y0 y1 y2, LeO (mancipleref14_HoldsClause.l0 k y0 y1 y2) (mancipleref14_HoldsClause.l0 (k + 1) y0 y1 y2))
  | 0 => fun _ _ _ r h => by simp [mancipleref14_HoldsClause.l0] at h
  | k + 1 => by
    have ih0 := mancipleref14_HoldsClause.mono_l k
    · intro y0 y1 y2
      unfold mancipleref14_HoldsClause.l0
      repeat' first
      | (with_reducible exact ih0 _ _ _)
      | (with_reducible exact LeO.refl _)
      | (with_reducible exact LeO.none _)
      | (with_reducible refine LeO.ite ?_ ?_)
      | (with_reducible refine LeO.bind ?_ (fun _ => ?_))
      | exact ih0 _ _ _
      | exact LeO.none _
      | refine LeO.ite ?_ ?_
      | refine LeO.bind ?_ (fun _ => ?_)
theorem mancipleref14_HoldsClause.mono : ∀ a0 a1 k, LeO (mancipleref14_HoldsClause.f k a0 a1) (mancipleref14_HoldsClause.f (k + 1) a0 a1) := by
  intro a0 a1 k
  have ih0 := mancipleref14_HoldsClause.mono_l k
  unfold mancipleref14_HoldsClause.f
  repeat' first
      | (with_reducible exact ih0 _ _ _)
      | (with_reducible exact LeO.refl _)
      | (with_reducible exact LeO.none _)
      | (with_reducible refine LeO.ite ?_ ?_)
      | (with_reducible refine LeO.bind ?_ (fun _ => ?_))
      | exact ih0 _ _ _
      | exact LeO.none _
      | refine LeO.ite ?_ ?_
      | refine LeO.bind ?_ (fun _ => ?_)
set_option maxHeartbeats 8000000 in
set_option maxRecDepth 100000 in
theorem mancipleref14_HoldsClause.calls (k : Nat) (A0 : Option Addr) (c0 : Nat) (l0 : List Int) (A1 : Option Addr) (c1 : Nat) (l1 : List Bool) (r : Bool) (w : World) (hr0 : Kd.C (Kd.int .i64) w A0 l0.length l0) (hc0 : l0.length ≤ c0) (hr1 : Kd.C Kd.bool w A1 l1.length l1) (hc1 : l1.length ≤ c1) (h : mancipleref14_HoldsClause.f k l0 l1 = some r) :
    Calls Try.prog 24 #[.slice A0 l0.length c0, .slice A1 l1.length c1] w fun e w' => e = .returned (.bool r) ∧ Drawn0 w w' := by
  have HR0 := Aside0.mk hr0
  have HC0 := Aside0.mk hc0
  clear hr0 hc0
  have HR1 := Aside0.mk hr1
  have HC1 := Aside0.mk hc1
  clear hr1 hc1
  have H : (mancipleref14_HoldsClause.l0 k l0 l1 0) = some r := h
  clear h
  have H' := Aside0.mk H
  clear H
  go_enter Try.func24, Try.ntmps24
  go_wp2
  go_loopg [5] k (fun kq v5 w' => ∃ (x5_1 : Int), v5 = .int .i64 x5_1 ∧ Aside0 (mancipleref14_HoldsClause.l0 kq l0 l1 x5_1 = some r) ∧ Aside0 (kq ≤ k) ∧ Drawn0 w w')
  case atStart => exact ⟨(0), (by first | rfl | (simp; done) | (simp [*]; done)), H', ⟨Nat.le_refl _⟩, by repeat (first | exact Drawn0.refl _ | apply Drawn0.step)⟩
  case round =>
    clear H'
    try clear c1
    try clear c2
    try clear p2
    obtain ⟨x5_1, rfl, HA, HK1, ⟨m1, rfl⟩⟩ := hrel
    cases gk with
    | zero => exact absurd HA.out (by simp [mancipleref14_HoldsClause.l0])
    | succ k1 =>
      have H := HA.out
      clear HA
      simp only [mancipleref14_HoldsClause.l0] at H
      by_cases c3 : x5_1 < (l0.length : Int)
      · rw [if_pos c3] at H
        have c3b0 : decide (x5_1 < (l0.length : Int)) = true := decide_eq_true c3
        clear c3
        by_cases c4 : 0 ≤ x5_1
        · rw [if_pos c4] at H
          have c4b0 : decide (0 ≤ x5_1) = true := decide_eq_true c4
          clear c4
          by_cases c5 : (rd l0 x5_1) ≥ 1
          · rw [if_pos c5] at H
            have c5b0 : decide (1 ≤ (rd l0 x5_1)) = true := decide_eq_true c5
            clear c5
            by_cases c6 : (rd l0 x5_1) ≤ (l1.length : Int)
            · rw [if_pos c6] at H
              have c6b0 : decide ((rd l0 x5_1) ≤ (l1.length : Int)) = true := decide_eq_true c6
              clear c6
              obtain ⟨ji7, hji7⟩ : ∃ j_ : Int, (wrap64 ((rd l0 x5_1) - 1)) = j_ := ⟨_, rfl⟩
              replace H : (if 0 ≤ (ji7) then (if (ji7) < (l1.length : Int) then (if rdOf false l1 (ji7) = true then (some true) else (if (rd l0 x5_1) ≤ (-1) then (if (rd l0 x5_1) ≥ (wrap64 (-(l1.length : Int))) then (if 0 ≤ (wrap64 ((wrap64 (-(rd l0 x5_1))) - 1)) then (if (wrap64 ((wrap64 (-(rd l0 x5_1))) - 1)) < (l1.length : Int) then (if (rdOf false l1 (wrap64 ((wrap64 (-(rd l0 x5_1))) - 1)) = true) then (mancipleref14_HoldsClause.l0 k1 l0 l1 (wrap64 (x5_1 + 1))) else (some true)) else (none)) else (none)) else (mancipleref14_HoldsClause.l0 k1 l0 l1 (wrap64 (x5_1 + 1)))) else (mancipleref14_HoldsClause.l0 k1 l0 l1 (wrap64 (x5_1 + 1))))) else (none)) else (none)) = some r := by first | (rw [hji7] at H; exact H) | (simp only [hji7] at H ⊢; exact H)
              have hji7w : (IntKind.i64.wrap ((rd l0 x5_1) - 1)) = ji7 := (i64_w _).trans hji7
              by_cases c8 : 0 ≤ (ji7)
              · rw [if_pos c8] at H
                have c8b0 : decide (0 ≤ (ji7)) = true := decide_eq_true c8
                clear c8
                by_cases c9 : (ji7) < (l1.length : Int)
                · rw [if_pos c9] at H
                  have c9b0 : decide ((ji7) < (l1.length : Int)) = true := decide_eq_true c9
                  clear c9
                  obtain ⟨bq10, hbq10⟩ : ∃ b_ : Bool, b_ = (rdOf false l1 (ji7)) := ⟨_, rfl⟩
                  replace H : (if bq10 = true then (some true) else (if (rd l0 x5_1) ≤ (-1) then (if (rd l0 x5_1) ≥ (wrap64 (-(l1.length : Int))) then (if 0 ≤ (wrap64 ((wrap64 (-(rd l0 x5_1))) - 1)) then (if (wrap64 ((wrap64 (-(rd l0 x5_1))) - 1)) < (l1.length : Int) then (if (rdOf false l1 (wrap64 ((wrap64 (-(rd l0 x5_1))) - 1)) = true) then (mancipleref14_HoldsClause.l0 k1 l0 l1 (wrap64 (x5_1 + 1))) else (some true)) else (none)) else (none)) else (mancipleref14_HoldsClause.l0 k1 l0 l1 (wrap64 (x5_1 + 1)))) else (mancipleref14_HoldsClause.l0 k1 l0 l1 (wrap64 (x5_1 + 1))))) = some r := by rw [← hbq10] at H; exact H
                  have Nbq10 := Aside0.mk hbq10
                  clear hbq10
                  by_cases c11 : bq10 = true
                  · subst c11
                    have H1 : (some true) = some r := by rw [if_pos rfl] at H; exact H
                    clear H
                    have H := H1
                    clear H1
                    obtain rfl := Option.some.inj H
                    have p287 : 0 ≤ (x5_1 : Int) := of_decide_eq_true (by first | (with_reducible assumption) | assumption)
                    have q287 : x5_1 < (l0.length : Int) := of_decide_eq_true (by first | (with_reducible assumption) | assumption)
                    obtain ⟨ad287, e287, hx287_0⟩ := Kd.at_int HR0.out x5_1 p287 q287
                    cases e287
                    replace p287 := eq_true p287
                    replace q287 := eq_true q287
                    have p288 : 0 ≤ ((ji7) : Int) := of_decide_eq_true (by first | (with_reducible assumption) | assumption)
                    have q288 : (ji7) < (l1.length : Int) := of_decide_eq_true (by first | (with_reducible assumption) | assumption)
                    obtain ⟨ad288, e288, hx288_0⟩ := Kd.at_bool HR1.out (ji7) p288 q288
                    (try rw [← Nbq10.out] at hx288_0)
                    cases e288
                    replace p288 := eq_true p288
                    replace q288 := eq_true q288
                    go_wp2
                    go_ret
                    exact ⟨by first | rfl | (simp; done) | (simp only [← hji7] <;> (first | rfl | simp)) | (simp [*]; done), by repeat (first | exact Drawn0.refl _ | apply Drawn0.step)⟩
                  · replace c11 := Bool.eq_false_iff.mpr c11
                    subst c11
                    have H1 : (if (rd l0 x5_1) ≤ (-1) then (if (rd l0 x5_1) ≥ (wrap64 (-(l1.length : Int))) then (if 0 ≤ (wrap64 ((wrap64 (-(rd l0 x5_1))) - 1)) then (if (wrap64 ((wrap64 (-(rd l0 x5_1))) - 1)) < (l1.length : Int) then (if (rdOf false l1 (wrap64 ((wrap64 (-(rd l0 x5_1))) - 1)) = true) then (mancipleref14_HoldsClause.l0 k1 l0 l1 (wrap64 (x5_1 + 1))) else (some true)) else (none)) else (none)) else (mancipleref14_HoldsClause.l0 k1 l0 l1 (wrap64 (x5_1 + 1)))) else (mancipleref14_HoldsClause.l0 k1 l0 l1 (wrap64 (x5_1 + 1)))) = some r := by rw [if_neg (show ¬ (false = true) by decide)] at H; exact H
                    clear H
                    have H := H1
                    clear H1
                    by_cases c12 : (rd l0 x5_1) ≤ (-1)
                    · rw [if_pos c12] at H
                      have c12b0 : decide ((rd l0 x5_1) ≤ (-1)) = true := decide_eq_true c12
                      clear c12
                      by_cases c13 : (rd l0 x5_1) ≥ (wrap64 (-(l1.length : Int)))
                      · rw [if_pos c13] at H
                        have c13b0 : decide ((wrap64 (-(l1.length : Int))) ≤ (rd l0 x5_1)) = true := decide_eq_true c13
                        clear c13
                        obtain ⟨ji14, hji14⟩ : ∃ j_ : Int, (wrap64 ((wrap64 (-(rd l0 x5_1))) - 1)) = j_ := ⟨_, rfl⟩
                        replace H : (if 0 ≤ (ji14) then (if (ji14) < (l1.length : Int) then (if (rdOf false l1 (ji14) = true) then (mancipleref14_HoldsClause.l0 k1 l0 l1 (wrap64 (x5_1 + 1))) else (some true)) else (none)) else (none)) = some r := by first | (rw [hji14] at H; exact H) | (simp only [hji14] at H ⊢; exact H)
                        have hji14w : (IntKind.i64.wrap ((wrap64 (-(rd l0 x5_1))) - 1)) = ji14 := (i64_w _).trans hji14
                        by_cases c15 : 0 ≤ (ji14)
                        · rw [if_pos c15] at H
                          have c15b0 : decide (0 ≤ (ji14)) = true := decide_eq_true c15
                          clear c15
                          by_cases c16 : (ji14) < (l1.length : Int)
                          · rw [if_pos c16] at H
                            have c16b0 : decide ((ji14) < (l1.length : Int)) = true := decide_eq_true c16
                            clear c16
                            obtain ⟨bq17, hbq17⟩ : ∃ b_ : Bool, b_ = (rdOf false l1 (ji14)) := ⟨_, rfl⟩
                            replace H : (if (bq17 = true) then (mancipleref14_HoldsClause.l0 k1 l0 l1 (wrap64 (x5_1 + 1))) else (some true)) = some r := by rw [← hbq17] at H; exact H
                            have Nbq17 := Aside0.mk hbq17
                            clear hbq17
                            by_cases c18 : (bq17 = true)
                            · subst c18
                              have H1 : (mancipleref14_HoldsClause.l0 k1 l0 l1 (wrap64 (x5_1 + 1))) = some r := by rw [if_pos rfl] at H; exact H
                              clear H
                              have H := H1
                              clear H1
                              have H' := Aside0.mk H
                              clear H
                              have p287 : 0 ≤ (x5_1 : Int) := of_decide_eq_true (by first | (with_reducible assumption) | assumption)
                              have q287 : x5_1 < (l0.length : Int) := of_decide_eq_true (by first | (with_reducible assumption) | assumption)
                              obtain ⟨ad287, e287, hx287_0⟩ := Kd.at_int HR0.out x5_1 p287 q287
                              cases e287
                              replace p287 := eq_true p287
                              replace q287 := eq_true q287
                              have p288 : 0 ≤ ((ji7) : Int) := of_decide_eq_true (by first | (with_reducible assumption) | assumption)
                              have q288 : (ji7) < (l1.length : Int) := of_decide_eq_true (by first | (with_reducible assumption) | assumption)
                              obtain ⟨ad288, e288, hx288_0⟩ := Kd.at_bool HR1.out (ji7) p288 q288
                              (try rw [← Nbq10.out] at hx288_0)
                              (try rw [← Nbq17.out] at hx288_0)
                              cases e288
                              replace p288 := eq_true p288
                              replace q288 := eq_true q288
                              have p289 : 0 ≤ ((ji14) : Int) := of_decide_eq_true (by first | (with_reducible assumption) | assumption)
                              have q289 : (ji14) < (l1.length : Int) := of_decide_eq_true (by first | (with_reducible assumption) | assumption)
                              obtain ⟨ad289, e289, hx289_0⟩ := Kd.at_bool HR1.out (ji14) p289 q289
                              (try rw [← Nbq10.out] at hx289_0)
                              (try rw [← Nbq17.out] at hx289_0)
                              obtain rfl : ad288 = ad289 := (by injection e289)
                              replace p289 := eq_true p289
                              replace q289 := eq_true q289
                              go_wp2
                              go_roundg k1
                              case measure => have := HK1.out; omega
                              case rel => exact ⟨(wrap64 (x5_1 + 1)), (by first | rfl | (simp; done) | (simp [*]; done)), H', ⟨by have := HK1.out; omega⟩, by repeat (first | exact Drawn0.refl _ | apply Drawn0.step)⟩
                            · replace c18 := Bool.eq_false_iff.mpr c18
                              subst c18
                              have H1 : (some true) = some r := by rw [if_neg (show ¬ (false = true) by decide)] at H; exact H
                              clear H
                              have H := H1
                              clear H1
                              obtain rfl := Option.some.inj H
                              have p287 : 0 ≤ (x5_1 : Int) := of_decide_eq_true (by first | (with_reducible assumption) | assumption)
                              have q287 : x5_1 < (l0.length : Int) := of_decide_eq_true (by first | (with_reducible assumption) | assumption)
                              obtain ⟨ad287, e287, hx287_0⟩ := Kd.at_int HR0.out x5_1 p287 q287
                              cases e287
                              replace p287 := eq_true p287
                              replace q287 := eq_true q287
                              have p288 : 0 ≤ ((ji7) : Int) := of_decide_eq_true (by first | (with_reducible assumption) | assumption)
                              have q288 : (ji7) < (l1.length : Int) := of_decide_eq_true (by first | (with_reducible assumption) | assumption)
                              obtain ⟨ad288, e288, hx288_0⟩ := Kd.at_bool HR1.out (ji7) p288 q288
                              (try rw [← Nbq10.out] at hx288_0)
                              (try rw [← Nbq17.out] at hx288_0)
                              cases e288
                              replace p288 := eq_true p288
                              replace q288 := eq_true q288
                              have p289 : 0 ≤ ((ji14) : Int) := of_decide_eq_true (by first | (with_reducible assumption) | assumption)
                              have q289 : (ji14) < (l1.length : Int) := of_decide_eq_true (by first | (with_reducible assumption) | assumption)
                              obtain ⟨ad289, e289, hx289_0⟩ := Kd.at_bool HR1.out (ji14) p289 q289
                              (try rw [← Nbq10.out] at hx289_0)
                              (try rw [← Nbq17.out] at hx289_0)
                              obtain rfl : ad288 = ad289 := (by injection e289)
                              replace p289 := eq_true p289
                              replace q289 := eq_true q289
                              go_wp2
                              go_ret
                              exact ⟨by first | rfl | (simp; done) | (simp only [← hji7, ← hji14] <;> (first | rfl | simp)) | (simp [*]; done), by repeat (first | exact Drawn0.refl _ | apply Drawn0.step)⟩
                          · rw [if_neg c16] at H
                            exact absurd H (by simp)
                        · rw [if_neg c15] at H
                          exact absurd H (by simp)
                      · rw [if_neg c13] at H
                        have c13b0 : decide ((wrap64 (-(l1.length : Int))) ≤ (rd l0 x5_1)) = false := decide_eq_false c13
                        clear c13
                        have H' := Aside0.mk H
                        clear H
                        have p287 : 0 ≤ (x5_1 : Int) := of_decide_eq_true (by first | (with_reducible assumption) | assumption)
                        have q287 : x5_1 < (l0.length : Int) := of_decide_eq_true (by first | (with_reducible assumption) | assumption)
                        obtain ⟨ad287, e287, hx287_0⟩ := Kd.at_int HR0.out x5_1 p287 q287
                        cases e287
                        replace p287 := eq_true p287
                        replace q287 := eq_true q287
                        have p288 : 0 ≤ ((ji7) : Int) := of_decide_eq_true (by first | (with_reducible assumption) | assumption)
                        have q288 : (ji7) < (l1.length : Int) := of_decide_eq_true (by first | (with_reducible assumption) | assumption)
                        obtain ⟨ad288, e288, hx288_0⟩ := Kd.at_bool HR1.out (ji7) p288 q288
                        (try rw [← Nbq10.out] at hx288_0)
                        cases e288
                        replace p288 := eq_true p288
                        replace q288 := eq_true q288
                        go_wp2
                        go_roundg k1
                        case measure => have := HK1.out; omega
                        case rel => exact ⟨(wrap64 (x5_1 + 1)), (by first | rfl | (simp; done) | (simp [*]; done)), H', ⟨by have := HK1.out; omega⟩, by repeat (first | exact Drawn0.refl _ | apply Drawn0.step)⟩
                    · rw [if_neg c12] at H
                      have c12b0 : decide ((rd l0 x5_1) ≤ (-1)) = false := decide_eq_false c12
                      clear c12
                      have H' := Aside0.mk H
                      clear H
                      have p287 : 0 ≤ (x5_1 : Int) := of_decide_eq_true (by first | (with_reducible assumption) | assumption)
                      have q287 : x5_1 < (l0.length : Int) := of_decide_eq_true (by first | (with_reducible assumption) | assumption)
                      obtain ⟨ad287, e287, hx287_0⟩ := Kd.at_int HR0.out x5_1 p287 q287
                      cases e287
                      replace p287 := eq_true p287
                      replace q287 := eq_true q287
                      have p288 : 0 ≤ ((ji7) : Int) := of_decide_eq_true (by first | (with_reducible assumption) | assumption)
                      have q288 : (ji7) < (l1.length : Int) := of_decide_eq_true (by first | (with_reducible assumption) | assumption)
                      obtain ⟨ad288, e288, hx288_0⟩ := Kd.at_bool HR1.out (ji7) p288 q288
                      (try rw [← Nbq10.out] at hx288_0)
                      cases e288
                      replace p288 := eq_true p288
                      replace q288 := eq_true q288
                      go_wp2
                      go_roundg k1
                      case measure => have := HK1.out; omega
                      case rel => exact ⟨(wrap64 (x5_1 + 1)), (by first | rfl | (simp; done) | (simp [*]; done)), H', ⟨by have := HK1.out; omega⟩, by repeat (first | exact Drawn0.refl _ | apply Drawn0.step)⟩
                · rw [if_neg c9] at H
                  exact absurd H (by simp)
              · rw [if_neg c8] at H
                exact absurd H (by simp)
            · rw [if_neg c6] at H
              have c6b0 : decide ((rd l0 x5_1) ≤ (l1.length : Int)) = false := decide_eq_false c6
              clear c6
              by_cases c19 : (rd l0 x5_1) ≤ (-1)
              · rw [if_pos c19] at H
                have c19b0 : decide ((rd l0 x5_1) ≤ (-1)) = true := decide_eq_true c19
                clear c19
                by_cases c20 : (rd l0 x5_1) ≥ (wrap64 (-(l1.length : Int)))
                · rw [if_pos c20] at H
                  have c20b0 : decide ((wrap64 (-(l1.length : Int))) ≤ (rd l0 x5_1)) = true := decide_eq_true c20
                  clear c20
                  obtain ⟨ji21, hji21⟩ : ∃ j_ : Int, (wrap64 ((wrap64 (-(rd l0 x5_1))) - 1)) = j_ := ⟨_, rfl⟩
                  replace H : (if 0 ≤ (ji21) then (if (ji21) < (l1.length : Int) then (if (rdOf false l1 (ji21) = true) then (mancipleref14_HoldsClause.l0 k1 l0 l1 (wrap64 (x5_1 + 1))) else (some true)) else (none)) else (none)) = some r := by first | (rw [hji21] at H; exact H) | (simp only [hji21] at H ⊢; exact H)
                  have hji21w : (IntKind.i64.wrap ((wrap64 (-(rd l0 x5_1))) - 1)) = ji21 := (i64_w _).trans hji21
                  by_cases c22 : 0 ≤ (ji21)
                  · rw [if_pos c22] at H
                    have c22b0 : decide (0 ≤ (ji21)) = true := decide_eq_true c22
                    clear c22
                    by_cases c23 : (ji21) < (l1.length : Int)
                    · rw [if_pos c23] at H
                      have c23b0 : decide ((ji21) < (l1.length : Int)) = true := decide_eq_true c23
                      clear c23
                      obtain ⟨bq24, hbq24⟩ : ∃ b_ : Bool, b_ = (rdOf false l1 (ji21)) := ⟨_, rfl⟩
                      replace H : (if (bq24 = true) then (mancipleref14_HoldsClause.l0 k1 l0 l1 (wrap64 (x5_1 + 1))) else (some true)) = some r := by rw [← hbq24] at H; exact H
                      have Nbq24 := Aside0.mk hbq24
                      clear hbq24
                      by_cases c25 : (bq24 = true)
                      · subst c25
                        have H1 : (mancipleref14_HoldsClause.l0 k1 l0 l1 (wrap64 (x5_1 + 1))) = some r := by rw [if_pos rfl] at H; exact H
                        clear H
                        have H := H1
                        clear H1
                        have H' := Aside0.mk H
                        clear H
                        have p287 : 0 ≤ (x5_1 : Int) := of_decide_eq_true (by first | (with_reducible assumption) | assumption)
                        have q287 : x5_1 < (l0.length : Int) := of_decide_eq_true (by first | (with_reducible assumption) | assumption)
                        obtain ⟨ad287, e287, hx287_0⟩ := Kd.at_int HR0.out x5_1 p287 q287
                        cases e287
                        replace p287 := eq_true p287
                        replace q287 := eq_true q287
                        have p290 : 0 ≤ ((ji21) : Int) := of_decide_eq_true (by first | (with_reducible assumption) | assumption)
                        have q290 : (ji21) < (l1.length : Int) := of_decide_eq_true (by first | (with_reducible assumption) | assumption)
                        obtain ⟨ad290, e290, hx290_0⟩ := Kd.at_bool HR1.out (ji21) p290 q290
                        (try rw [← Nbq24.out] at hx290_0)
                        cases e290
                        replace p290 := eq_true p290
                        replace q290 := eq_true q290
                        go_wp2
                        go_roundg k1
                        case measure => have := HK1.out; omega
                        case rel => exact ⟨(wrap64 (x5_1 + 1)), (by first | rfl | (simp; done) | (simp [*]; done)), H', ⟨by have := HK1.out; omega⟩, by repeat (first | exact Drawn0.refl _ | apply Drawn0.step)⟩
                      · replace c25 := Bool.eq_false_iff.mpr c25
                        subst c25
                        have H1 : (some true) = some r := by rw [if_neg (show ¬ (false = true) by decide)] at H; exact H
                        clear H
                        have H := H1
                        clear H1
                        obtain rfl := Option.some.inj H
                        have p287 : 0 ≤ (x5_1 : Int) := of_decide_eq_true (by first | (with_reducible assumption) | assumption)
                        have q287 : x5_1 < (l0.length : Int) := of_decide_eq_true (by first | (with_reducible assumption) | assumption)
                        obtain ⟨ad287, e287, hx287_0⟩ := Kd.at_int HR0.out x5_1 p287 q287
                        cases e287
                        replace p287 := eq_true p287
                        replace q287 := eq_true q287
                        have p290 : 0 ≤ ((ji21) : Int) := of_decide_eq_true (by first | (with_reducible assumption) | assumption)
                        have q290 : (ji21) < (l1.length : Int) := of_decide_eq_true (by first | (with_reducible assumption) | assumption)
                        obtain ⟨ad290, e290, hx290_0⟩ := Kd.at_bool HR1.out (ji21) p290 q290
                        (try rw [← Nbq24.out] at hx290_0)
                        cases e290
                        replace p290 := eq_true p290
                        replace q290 := eq_true q290
                        go_wp2
                        go_ret
                        exact ⟨by first | rfl | (simp; done) | (simp only [← hji21] <;> (first | rfl | simp)) | (simp [*]; done), by repeat (first | exact Drawn0.refl _ | apply Drawn0.step)⟩
                    · rw [if_neg c23] at H
                      exact absurd H (by simp)
                  · rw [if_neg c22] at H
                    exact absurd H (by simp)
                · rw [if_neg c20] at H
                  have c20b0 : decide ((wrap64 (-(l1.length : Int))) ≤ (rd l0 x5_1)) = false := decide_eq_false c20
                  clear c20
                  have H' := Aside0.mk H
                  clear H
                  have p287 : 0 ≤ (x5_1 : Int) := of_decide_eq_true (by first | (with_reducible assumption) | assumption)
                  have q287 : x5_1 < (l0.length : Int) := of_decide_eq_true (by first | (with_reducible assumption) | assumption)
                  obtain ⟨ad287, e287, hx287_0⟩ := Kd.at_int HR0.out x5_1 p287 q287
                  cases e287
                  replace p287 := eq_true p287
                  replace q287 := eq_true q287
                  go_wp2
                  go_roundg k1
                  case measure => have := HK1.out; omega
                  case rel => exact ⟨(wrap64 (x5_1 + 1)), (by first | rfl | (simp; done) | (simp [*]; done)), H', ⟨by have := HK1.out; omega⟩, by repeat (first | exact Drawn0.refl _ | apply Drawn0.step)⟩
              · rw [if_neg c19] at H
                have c19b0 : decide ((rd l0 x5_1) ≤ (-1)) = false := decide_eq_false c19
                clear c19
                have H' := Aside0.mk H
                clear H
                have p287 : 0 ≤ (x5_1 : Int) := of_decide_eq_true (by first | (with_reducible assumption) | assumption)
                have q287 : x5_1 < (l0.length : Int) := of_decide_eq_true (by first | (with_reducible assumption) | assumption)
                obtain ⟨ad287, e287, hx287_0⟩ := Kd.at_int HR0.out x5_1 p287 q287
                cases e287
                replace p287 := eq_true p287
                replace q287 := eq_true q287
                go_wp2
                go_roundg k1
                case measure => have := HK1.out; omega
                case rel => exact ⟨(wrap64 (x5_1 + 1)), (by first | rfl | (simp; done) | (simp [*]; done)), H', ⟨by have := HK1.out; omega⟩, by repeat (first | exact Drawn0.refl _ | apply Drawn0.step)⟩
          · rw [if_neg c5] at H
            have c5b0 : decide (1 ≤ (rd l0 x5_1)) = false := decide_eq_false c5
            clear c5
            by_cases c26 : (rd l0 x5_1) ≤ (-1)
            · rw [if_pos c26] at H
              have c26b0 : decide ((rd l0 x5_1) ≤ (-1)) = true := decide_eq_true c26
              clear c26
              by_cases c27 : (rd l0 x5_1) ≥ (wrap64 (-(l1.length : Int)))
              · rw [if_pos c27] at H
                have c27b0 : decide ((wrap64 (-(l1.length : Int))) ≤ (rd l0 x5_1)) = true := decide_eq_true c27
                clear c27
                obtain ⟨ji28, hji28⟩ : ∃ j_ : Int, (wrap64 ((wrap64 (-(rd l0 x5_1))) - 1)) = j_ := ⟨_, rfl⟩
                replace H : (if 0 ≤ (ji28) then (if (ji28) < (l1.length : Int) then (if (rdOf false l1 (ji28) = true) then (mancipleref14_HoldsClause.l0 k1 l0 l1 (wrap64 (x5_1 + 1))) else (some true)) else (none)) else (none)) = some r := by first | (rw [hji28] at H; exact H) | (simp only [hji28] at H ⊢; exact H)
                have hji28w : (IntKind.i64.wrap ((wrap64 (-(rd l0 x5_1))) - 1)) = ji28 := (i64_w _).trans hji28
                by_cases c29 : 0 ≤ (ji28)
                · rw [if_pos c29] at H
                  have c29b0 : decide (0 ≤ (ji28)) = true := decide_eq_true c29
                  clear c29
                  by_cases c30 : (ji28) < (l1.length : Int)
                  · rw [if_pos c30] at H
                    have c30b0 : decide ((ji28) < (l1.length : Int)) = true := decide_eq_true c30
                    clear c30
                    obtain ⟨bq31, hbq31⟩ : ∃ b_ : Bool, b_ = (rdOf false l1 (ji28)) := ⟨_, rfl⟩
                    replace H : (if (bq31 = true) then (mancipleref14_HoldsClause.l0 k1 l0 l1 (wrap64 (x5_1 + 1))) else (some true)) = some r := by rw [← hbq31] at H; exact H
                    have Nbq31 := Aside0.mk hbq31
                    clear hbq31
                    by_cases c32 : (bq31 = true)
                    · subst c32
                      have H1 : (mancipleref14_HoldsClause.l0 k1 l0 l1 (wrap64 (x5_1 + 1))) = some r := by rw [if_pos rfl] at H; exact H
                      clear H
                      have H := H1
                      clear H1
                      have H' := Aside0.mk H
                      clear H
                      have p287 : 0 ≤ (x5_1 : Int) := of_decide_eq_true (by first | (with_reducible assumption) | assumption)
                      have q287 : x5_1 < (l0.length : Int) := of_decide_eq_true (by first | (with_reducible assumption) | assumption)
                      obtain ⟨ad287, e287, hx287_0⟩ := Kd.at_int HR0.out x5_1 p287 q287
                      cases e287
                      replace p287 := eq_true p287
                      replace q287 := eq_true q287
                      have p291 : 0 ≤ ((ji28) : Int) := of_decide_eq_true (by first | (with_reducible assumption) | assumption)
                      have q291 : (ji28) < (l1.length : Int) := of_decide_eq_true (by first | (with_reducible assumption) | assumption)
                      obtain ⟨ad291, e291, hx291_0⟩ := Kd.at_bool HR1.out (ji28) p291 q291
                      (try rw [← Nbq31.out] at hx291_0)
                      cases e291
                      replace p291 := eq_true p291
                      replace q291 := eq_true q291
                      go_wp2
                      go_roundg k1
                      case measure => have := HK1.out; omega
                      case rel => exact ⟨(wrap64 (x5_1 + 1)), (by first | rfl | (simp; done) | (simp [*]; done)), H', ⟨by have := HK1.out; omega⟩, by repeat (first | exact Drawn0.refl _ | apply Drawn0.step)⟩
                    · replace c32 := Bool.eq_false_iff.mpr c32
                      subst c32
                      have H1 : (some true) = some r := by rw [if_neg (show ¬ (false = true) by decide)] at H; exact H
                      clear H
                      have H := H1
                      clear H1
                      obtain rfl := Option.some.inj H
                      have p287 : 0 ≤ (x5_1 : Int) := of_decide_eq_true (by first | (with_reducible assumption) | assumption)
                      have q287 : x5_1 < (l0.length : Int) := of_decide_eq_true (by first | (with_reducible assumption) | assumption)
                      obtain ⟨ad287, e287, hx287_0⟩ := Kd.at_int HR0.out x5_1 p287 q287
                      cases e287
                      replace p287 := eq_true p287
                      replace q287 := eq_true q287
                      have p291 : 0 ≤ ((ji28) : Int) := of_decide_eq_true (by first | (with_reducible assumption) | assumption)
                      have q291 : (ji28) < (l1.length : Int) := of_decide_eq_true (by first | (with_reducible assumption) | assumption)
                      obtain ⟨ad291, e291, hx291_0⟩ := Kd.at_bool HR1.out (ji28) p291 q291
                      (try rw [← Nbq31.out] at hx291_0)
                      cases e291
                      replace p291 := eq_true p291
                      replace q291 := eq_true q291
                      go_wp2
                      go_ret
                      exact ⟨by first | rfl | (simp; done) | (simp only [← hji28] <;> (first | rfl | simp)) | (simp [*]; done), by repeat (first | exact Drawn0.refl _ | apply Drawn0.step)⟩
                  · rw [if_neg c30] at H
                    exact absurd H (by simp)
                · rw [if_neg c29] at H
                  exact absurd H (by simp)
              · rw [if_neg c27] at H
                have c27b0 : decide ((wrap64 (-(l1.length : Int))) ≤ (rd l0 x5_1)) = false := decide_eq_false c27
                clear c27
                have H' := Aside0.mk H
                clear H
                have p287 : 0 ≤ (x5_1 : Int) := of_decide_eq_true (by first | (with_reducible assumption) | assumption)
                have q287 : x5_1 < (l0.length : Int) := of_decide_eq_true (by first | (with_reducible assumption) | assumption)
                obtain ⟨ad287, e287, hx287_0⟩ := Kd.at_int HR0.out x5_1 p287 q287
                cases e287
                replace p287 := eq_true p287
                replace q287 := eq_true q287
                go_wp2
                go_roundg k1
                case measure => have := HK1.out; omega
                case rel => exact ⟨(wrap64 (x5_1 + 1)), (by first | rfl | (simp; done) | (simp [*]; done)), H', ⟨by have := HK1.out; omega⟩, by repeat (first | exact Drawn0.refl _ | apply Drawn0.step)⟩
            · rw [if_neg c26] at H
              have c26b0 : decide ((rd l0 x5_1) ≤ (-1)) = false := decide_eq_false c26
              clear c26
              have H' := Aside0.mk H
              clear H
              have p287 : 0 ≤ (x5_1 : Int) := of_decide_eq_true (by first | (with_reducible assumption) | assumption)
              have q287 : x5_1 < (l0.length : Int) := of_decide_eq_true (by first | (with_reducible assumption) | assumption)
              obtain ⟨ad287, e287, hx287_0⟩ := Kd.at_int HR0.out x5_1 p287 q287
              cases e287
              replace p287 := eq_true p287
              replace q287 := eq_true q287
              go_wp2
              go_roundg k1
              case measure => have := HK1.out; omega
              case rel => exact ⟨(wrap64 (x5_1 + 1)), (by first | rfl | (simp; done) | (simp [*]; done)), H', ⟨by have := HK1.out; omega⟩, by repeat (first | exact Drawn0.refl _ | apply Drawn0.step)⟩
        · rw [if_neg c4] at H
          exact absurd H (by simp)
      · rw [if_neg c3] at H
        have c3b0 : decide (x5_1 < (l0.length : Int)) = false := decide_eq_false c3
        clear c3
        obtain rfl := Option.some.inj H
        go_wp2
        go_ret
        exact ⟨by first | rfl | (simp; done) | (simp [*]; done), by repeat (first | exact Drawn0.refl _ | apply Drawn0.step)⟩

/-! ### mancipleref14_First: function 23 -/
def mancipleref14_First.l0 : Nat → List (List Int) → List Bool → Int → Option (Int)
  | 0, _, _, _ => none
  | k + 1, x0, x1, x5 => if x5 < (x0.length : Int) then (if 0 ≤ x5 then ((mancipleref14_HoldsClause.f k (rd_L1 x0 x5) x1).bind fun t293 => (if t293 = true then (mancipleref14_First.l0 k x0 x1 (wrap64 (x5 + 1))) else (some x5))) else (none)) else (some (-1))
def mancipleref14_First.f (k : Nat) (l0 : List (List Int)) (l1 : List Bool) : Option (Int) := mancipleref14_First.l0 k l0 l1 0
theorem mancipleref14_First.mono_l : ∀ k, (∀ y0 y1 y2, LeO (mancipleref14_First.l0 k y0 y1 y2) (mancipleref14_First.l0 (k + 1) y0 y1 y2))
  | 0 => fun _ _ _ r h => by simp [mancipleref14_First.l0] at h
  | k + 1 => by
    have ih0 := mancipleref14_First.mono_l k
    · intro y0 y1 y2
      unfold mancipleref14_First.l0
      repeat' first
      | (with_reducible exact ih0 _ _ _)
      | (with_reducible exact mancipleref14_HoldsClause.mono _ _ _)
      | (with_reducible exact LeO.refl _)
      | (with_reducible exact LeO.none _)
      | (with_reducible refine LeO.ite ?_ ?_)
      | (with_reducible refine LeO.bind ?_ (fun _ => ?_))
      | exact ih0 _ _ _
      | exact mancipleref14_HoldsClause.mono _ _ _
      | exact LeO.none _
      | refine LeO.ite ?_ ?_
      | refine LeO.bind ?_ (fun _ => ?_)
theorem mancipleref14_First.mono : ∀ a0 a1 k, LeO (mancipleref14_First.f k a0 a1) (mancipleref14_First.f (k + 1) a0 a1) := by
  intro a0 a1 k
  have ih0 := mancipleref14_First.mono_l k
  unfold mancipleref14_First.f
  repeat' first
      | (with_reducible exact ih0 _ _ _)
      | (with_reducible exact mancipleref14_HoldsClause.mono _ _ _)
      | (with_reducible exact LeO.refl _)
      | (with_reducible exact LeO.none _)
      | (with_reducible refine LeO.ite ?_ ?_)
      | (with_reducible refine LeO.bind ?_ (fun _ => ?_))
      | exact ih0 _ _ _
      | exact mancipleref14_HoldsClause.mono _ _ _
      | exact LeO.none _
      | refine LeO.ite ?_ ?_
      | refine LeO.bind ?_ (fun _ => ?_)
set_option maxHeartbeats 8000000 in
set_option maxRecDepth 100000 in
theorem mancipleref14_First.calls (k : Nat) (A0 : Option Addr) (c0 : Nat) (l0 : List (List Int)) (A1 : Option Addr) (c1 : Nat) (l1 : List Bool) (r : Int) (w : World) (hr0 : Kd.C (Kd.slice 3 (Kd.int .i64)) w A0 l0.length l0) (hc0 : l0.length ≤ c0) (hr1 : Kd.C Kd.bool w A1 l1.length l1) (hc1 : l1.length ≤ c1) (h : mancipleref14_First.f k l0 l1 = some r) :
    Calls Try.prog 23 #[.slice A0 l0.length c0, .slice A1 l1.length c1] w fun e w' => e = .returned (.int .i64 r) ∧ Drawn0 w w' := by
  have HR0 := Aside0.mk hr0
  have HC0 := Aside0.mk hc0
  clear hr0 hc0
  have HR1 := Aside0.mk hr1
  have HC1 := Aside0.mk hc1
  clear hr1 hc1
  have H : (mancipleref14_First.l0 k l0 l1 0) = some r := h
  clear h
  have H' := Aside0.mk H
  clear H
  go_enter Try.func23, Try.ntmps23
  go_wp2
  go_loopg [5] k (fun kq v5 w' => ∃ (x5_1 : Int), v5 = .int .i64 x5_1 ∧ Aside0 (mancipleref14_First.l0 kq l0 l1 x5_1 = some r) ∧ Aside0 (kq ≤ k) ∧ Drawn0 w w')
  case atStart => exact ⟨(0), (by first | rfl | (simp; done) | (simp [*]; done)), H', ⟨Nat.le_refl _⟩, by repeat (first | exact Drawn0.refl _ | apply Drawn0.step)⟩
  case round =>
    clear H'
    try clear c1
    try clear c2
    try clear p2
    obtain ⟨x5_1, rfl, HA, HK1, ⟨m1, rfl⟩⟩ := hrel
    cases gk with
    | zero => exact absurd HA.out (by simp [mancipleref14_First.l0])
    | succ k1 =>
      have H := HA.out
      clear HA
      simp only [mancipleref14_First.l0] at H
      by_cases c3 : x5_1 < (l0.length : Int)
      · rw [if_pos c3] at H
        have c3b0 : decide (x5_1 < (l0.length : Int)) = true := decide_eq_true c3
        clear c3
        by_cases c4 : 0 ≤ x5_1
        · rw [if_pos c4] at H
          have c4b0 : decide (0 ≤ x5_1) = true := decide_eq_true c4
          clear c4
          replace H := Option.bind_eq_some_iff.mp H
          obtain ⟨t293, A50, H⟩ := H
          replace H : (if t293 = true then (mancipleref14_First.l0 k1 l0 l1 (wrap64 (x5_1 + 1))) else (some x5_1)) = some r := H
          have A5 := Aside0.mk A50
          clear A50
          by_cases c6 : t293 = true
          · subst c6
            have H1 : (mancipleref14_First.l0 k1 l0 l1 (wrap64 (x5_1 + 1))) = some r := by rw [if_pos rfl] at H; exact H
            clear H
            have H := H1
            clear H1
            have H' := Aside0.mk H
            clear H
            have p292 : 0 ≤ (x5_1 : Int) := of_decide_eq_true (by first | (with_reducible assumption) | assumption)
            have q292 : x5_1 < (l0.length : Int) := of_decide_eq_true (by first | (with_reducible assumption) | assumption)
            obtain ⟨ad292, A292_0, c292_0, e292, hx292_0, hl292_0, hi292_0⟩ := at_L1 HR0.out x5_1 p292 q292
            cases e292
            have HR292_0 := Aside0.mk hi292_0
            have HC292_0 := Aside0.mk hl292_0
            clear hi292_0 hl292_0
            replace p292 := eq_true p292
            replace q292 := eq_true q292
            go_wp2_with (first | ((with_reducible refine gate_callee (f := 24) rfl ?_); refine goesL_ (some 17) rfl rfl Try.func24 (by kernel_rfl) rfl #[.slice A292_0 (rd_L1 l0 x5_1).length c292_0, .slice A1 l1.length c1] rfl (by (try simp only [List.map_toArray, List.map_cons, List.map_nil]); first | done | rfl | (simp only [List.length_drop, List.length_take]; rfl)) ?_; (with_reducible refine (mancipleref14_HoldsClause.calls k1 _ _ (rd_L1 l0 x5_1) _ _ l1 true _ ?side1 ?side2 ?side3 ?side4 A5.out).mono ?_); (case side1 => repeat (first | exact HR292_0.out | (with_reducible refine Kd.C_alloc ?_ _) | (with_reducible refine Kd.C_drewN ?_ _) | (with_reducible refine Kd.C_drew ?_))); (case side2 => exact HC292_0.out); (case side3 => repeat (first | exact HR1.out | (with_reducible refine Kd.C_alloc ?_ _) | (with_reducible refine Kd.C_drewN ?_ _) | (with_reducible refine Kd.C_drew ?_))); (case side4 => exact HC1.out); rintro e w' ⟨rfl, ⟨nd, rfl⟩⟩; refine ⟨_, rfl, ?_⟩))
            go_roundg k1
            case measure => have := HK1.out; omega
            case rel => exact ⟨(wrap64 (x5_1 + 1)), (by first | rfl | (simp; done) | (simp [*]; done)), H', ⟨by have := HK1.out; omega⟩, by repeat (first | exact Drawn0.refl _ | apply Drawn0.step)⟩
          · replace c6 := Bool.eq_false_iff.mpr c6
            subst c6
            have H1 : (some x5_1) = some r := by rw [if_neg (show ¬ (false = true) by decide)] at H; exact H
            clear H
            have H := H1
            clear H1
            obtain rfl := Option.some.inj H
            have p292 : 0 ≤ (x5_1 : Int) := of_decide_eq_true (by first | (with_reducible assumption) | assumption)
            have q292 : x5_1 < (l0.length : Int) := of_decide_eq_true (by first | (with_reducible assumption) | assumption)
            obtain ⟨ad292, A292_0, c292_0, e292, hx292_0, hl292_0, hi292_0⟩ := at_L1 HR0.out x5_1 p292 q292
            cases e292
            have HR292_0 := Aside0.mk hi292_0
            have HC292_0 := Aside0.mk hl292_0
            clear hi292_0 hl292_0
            replace p292 := eq_true p292
            replace q292 := eq_true q292
            go_wp2_with (first | ((with_reducible refine gate_callee (f := 24) rfl ?_); refine goesL_ (some 17) rfl rfl Try.func24 (by kernel_rfl) rfl #[.slice A292_0 (rd_L1 l0 x5_1).length c292_0, .slice A1 l1.length c1] rfl (by (try simp only [List.map_toArray, List.map_cons, List.map_nil]); first | done | rfl | (simp only [List.length_drop, List.length_take]; rfl)) ?_; (with_reducible refine (mancipleref14_HoldsClause.calls k1 _ _ (rd_L1 l0 x5_1) _ _ l1 false _ ?side1 ?side2 ?side3 ?side4 A5.out).mono ?_); (case side1 => repeat (first | exact HR292_0.out | (with_reducible refine Kd.C_alloc ?_ _) | (with_reducible refine Kd.C_drewN ?_ _) | (with_reducible refine Kd.C_drew ?_))); (case side2 => exact HC292_0.out); (case side3 => repeat (first | exact HR1.out | (with_reducible refine Kd.C_alloc ?_ _) | (with_reducible refine Kd.C_drewN ?_ _) | (with_reducible refine Kd.C_drew ?_))); (case side4 => exact HC1.out); rintro e w' ⟨rfl, ⟨nd, rfl⟩⟩; refine ⟨_, rfl, ?_⟩))
            go_ret
            exact ⟨by first | rfl | (simp; done) | (simp [*]; done), by repeat (first | exact Drawn0.refl _ | apply Drawn0.step)⟩
        · rw [if_neg c4] at H
          exact absurd H (by simp)
      · rw [if_neg c3] at H
        have c3b0 : decide (x5_1 < (l0.length : Int)) = false := decide_eq_false c3
        clear c3
        obtain rfl := Option.some.inj H
        go_wp2
        go_ret
        exact ⟨by first | rfl | (simp; done) | (simp [*]; done), by repeat (first | exact Drawn0.refl _ | apply Drawn0.step)⟩

end Go.Proofs.Ytjbljblhbmfbpaa.PRup
