/- Printed by this session's program pp.py: the functions that the law uses as plain functions, and that each call comes to just what its plain function tells; in the last text the row itself. No conditions but those that stand in each statement. -/
import Derived.Test.YtjbljblhbmfbpaaPPropx0
namespace Go.Proofs.Ytjbljblhbmfbpaa.PProp
open Go.RowKit Go.Proofs.YtjbljblhbmfbpaaW.PrintWords Go.Proofs.YtjbljblhbmfbpaaW.PrintLast Go.Proofs.YtjbljblhbmfbpaaW.PrintMore
attribute [local go_sem] max2_int min2_int max_two min_two max_three min_three max_four min_four   -- for this text's walks alone
set_option linter.unusedVariables false
set_option linter.unusedSimpArgs false

/-! ### mancipleref14_Model: function 21 -/
def mancipleref14_Model.l0 : Nat → List Int → Int → List Bool → Int → Option (List Bool)
  | 0, _, _, _, _ => none
  | k + 1, x0, x1, x5, x6 => if x6 < (x0.length : Int) then (if 0 ≤ x6 then (if (rd x0 x6) ≥ 0 then (if (rd x0 x6) < x1 then (if 0 ≤ (rd x0 x6) then (if (rd x0 x6) < (x5.length : Int) then (mancipleref14_Model.l0 k x0 x1 (x5.set ((rd x0 x6) : Int).toNat true) (wrap64 (x6 + 1))) else (none)) else (none)) else (mancipleref14_Model.l0 k x0 x1 x5 (wrap64 (x6 + 1)))) else (mancipleref14_Model.l0 k x0 x1 x5 (wrap64 (x6 + 1)))) else (none)) else (some x5)
def mancipleref14_Model.f (k : Nat) (l0 : List Int) (a1 : Int) : Option (List Bool) := if 0 ≤ a1 then (if (a1 : Int).toNat ≤ 281474976710656 then (mancipleref14_Model.l0 k l0 a1 (List.replicate (a1 : Int).toNat false) 0) else (none)) else (none)
theorem mancipleref14_Model.mono_l : ∀ k, (∀ y0 y1 y2 y3, LeO (mancipleref14_Model.l0 k y0 y1 y2 y3) (mancipleref14_Model.l0 (k + 1) y0 y1 y2 y3))
  | 0 => fun _ _ _ _ r h => by simp [mancipleref14_Model.l0] at h
  | k + 1 => by
    have ih0 := mancipleref14_Model.mono_l k
    · intro y0 y1 y2 y3
      unfold mancipleref14_Model.l0
      repeat' first
      | (with_reducible exact ih0 _ _ _ _)
      | (with_reducible exact LeO.refl _)
      | (with_reducible exact LeO.none _)
      | (with_reducible refine LeO.ite ?_ ?_)
      | (with_reducible refine LeO.bind ?_ (fun _ => ?_))
      | exact ih0 _ _ _ _
      | exact LeO.none _
      | refine LeO.ite ?_ ?_
      | refine LeO.bind ?_ (fun _ => ?_)
theorem mancipleref14_Model.mono : ∀ a0 a1 k, LeO (mancipleref14_Model.f k a0 a1) (mancipleref14_Model.f (k + 1) a0 a1) := by
  intro a0 a1 k
  have ih0 := mancipleref14_Model.mono_l k
  unfold mancipleref14_Model.f
  repeat' first
      | (with_reducible exact ih0 _ _ _ _)
      | (with_reducible exact LeO.refl _)
      | (with_reducible exact LeO.none _)
      | (with_reducible refine LeO.ite ?_ ?_)
      | (with_reducible refine LeO.bind ?_ (fun _ => ?_))
      | exact ih0 _ _ _ _
      | exact LeO.none _
      | refine LeO.ite ?_ ?_
      | refine LeO.bind ?_ (fun _ => ?_)
set_option maxHeartbeats 8000000 in
set_option maxRecDepth 100000 in
theorem mancipleref14_Model.calls (k : Nat) (A0 : Option Addr) (c0 : Nat) (l0 : List Int) (a1 : Int) (r : List Bool) (w : World) (hr0 : Kd.C (Kd.int .i64) w A0 l0.length l0) (hc0 : l0.length ≤ c0) (h : mancipleref14_Model.f k l0 a1 = some r) :
    Calls Try.prog 21 #[.slice A0 l0.length c0, .int .i64 a1] w fun e w' => ∃ v0_ : Value, e = .returned (v0_) ∧ Kd.R Kd.bool 4 w' w.heap.size (fun _ => True) v0_ r ∧ Below w.heap.size w w' := by
  have HR0 := Aside0.mk hr0
  have HC0 := Aside0.mk hc0
  clear hr0 hc0
  have HB := Aside0.mk (Below.refl w.heap.size w)
  have H : (if 0 ≤ a1 then (if (a1 : Int).toNat ≤ 281474976710656 then (mancipleref14_Model.l0 k l0 a1 (List.replicate (a1 : Int).toNat false) 0) else (none)) else (none)) = some r := h
  clear h
  by_cases c3 : 0 ≤ a1
  · rw [if_pos c3] at H
    have c3b0 := eq_true c3
    have c3b1 : decide (0 ≤ a1) = true := decide_eq_true c3
    clear c3
    by_cases c4 : (a1 : Int).toNat ≤ 281474976710656
    · rw [if_pos c4] at H
      have c4b0 := eq_true c4
      have c4b1 : decide ((a1 : Int).toNat ≤ 281474976710656) = true := decide_eq_true c4
      clear c4
      obtain ⟨y309, hy309⟩ : ∃ y_ : List Bool, y_ = (List.replicate (a1 : Int).toNat false) := ⟨_, rfl⟩
      replace H : (mancipleref14_Model.l0 k l0 a1 y309 0) = some r := by first | (rw [hy309]; with_reducible exact H) | (have H2_ := (Option.bind_some _ _).symm.trans H; rw [hy309]; with_reducible exact H2_) | (have H2_ := (Option.bind_some _ _).symm.trans H; with_reducible exact H2_) | with_reducible exact H | (rw [hy309]; exact H) | exact H
      have Ny309 := Aside0.mk hy309
      clear hy309
      have H' := Aside0.mk H
      clear H
      go_enter Try.func21, Try.ntmps21
      go_wp2_with (first | ((with_reducible refine gate_dst (N := 8) rfl ?_); refine Kd.R_make Kd.bool _ 4 rfl (N := 8) rfl 37 _ _ rfl a1 rfl rfl Try.underlying37 (.bool false) 1 info4 rfl (by decide) (by omega) false (ok := fun _ => True) (okp := fun _ => True) rfl (fun _ hk => hk) trivial (of_decide_eq_true (by first | (with_reducible assumption) | assumption)) (Nat.le_trans (Nat.mul_le_mul_right _ (of_decide_eq_true (by first | (with_reducible assumption) | assumption) : a1.toNat ≤ 281474976710656)) (by omega)) (Below.refl _ _) (Nat.le_refl _) ?_; intro v310 w5 ho6 hb hg_ hnew_; clear hg_ hnew_; (first | rw [← Ny309.out] at ho6 | (simp only [Int.reduceToNat] at ho6; rw [← Ny309.out] at ho6)); have n0_ := Aside0.mk (Kd.R_lower ho6 (below_size (by repeat (first | (with_reducible first | exact HB.out | apply below_alloc | apply pw_below_drewN | apply below_drew1) | exact HB.out)))); have n1_ := Aside0.mk (below_step (by repeat (first | (with_reducible first | exact HB.out | apply below_alloc | apply pw_below_drewN | apply below_drew1) | exact HB.out)) hb); clear HB; have HO311 := n0_; have HB := n1_; clear n0_ n1_; clear hb ho6))
      go_loopg [6] k (fun kq v6 w' => ∃ (x5_1 : List Bool) (x6_1 : Int), v6 = .int .i64 x6_1 ∧ Aside0 (mancipleref14_Model.l0 kq l0 a1 x5_1 x6_1 = some r) ∧ Aside0 (kq ≤ k) ∧ Aside0 (Kd.R Kd.bool 4 w' w.heap.size (fun _ => True) v310 x5_1) ∧ Aside0 (Below w.heap.size w w'))
      case atStart => exact ⟨(y309), (0), (by first | rfl | (simp; done) | (simp [*]; done)), H', ⟨Nat.le_refl _⟩, ⟨by (with_reducible repeat (first | apply Kd.R_alloc | apply Kd.R_drewN | apply Kd.R_drew)); exact HO311.out⟩, ⟨by repeat (first | (with_reducible first | exact HB.out | apply below_alloc | apply pw_below_drewN | apply below_drew1) | exact HB.out)⟩⟩
      case round =>
        clear H'
        try clear c2
        try clear p2
        try clear c3
        try clear c3b0
        try clear c3b1
        try clear c4
        try clear c4b0
        try clear c4b1
        obtain ⟨x5_1, x6_1, rfl, HA, HK1, HO_5, HB⟩ := hrel
        cases gk with
        | zero => exact absurd HA.out (by simp [mancipleref14_Model.l0])
        | succ k1 =>
          have H := HA.out
          clear HA
          simp only [mancipleref14_Model.l0] at H
          by_cases c7 : x6_1 < (l0.length : Int)
          · rw [if_pos c7] at H
            have c7b0 : decide (x6_1 < (l0.length : Int)) = true := decide_eq_true c7
            clear c7
            by_cases c8 : 0 ≤ x6_1
            · rw [if_pos c8] at H
              have c8b0 : decide (0 ≤ x6_1) = true := decide_eq_true c8
              clear c8
              by_cases c9 : (rd l0 x6_1) ≥ 0
              · rw [if_pos c9] at H
                have c9b0 : decide (0 ≤ (rd l0 x6_1)) = true := decide_eq_true c9
                clear c9
                by_cases c10 : (rd l0 x6_1) < a1
                · rw [if_pos c10] at H
                  have c10b0 : decide ((rd l0 x6_1) < a1) = true := decide_eq_true c10
                  clear c10
                  by_cases c11 : 0 ≤ (rd l0 x6_1)
                  · rw [if_pos c11] at H
                    have c11b0 : decide (0 ≤ (rd l0 x6_1)) = true := decide_eq_true c11
                    clear c11
                    by_cases c12 : (rd l0 x6_1) < (x5_1.length : Int)
                    · rw [if_pos c12] at H
                      have c12b0 : decide ((rd l0 x6_1) < (x5_1.length : Int)) = true := decide_eq_true c12
                      clear c12
                      obtain ⟨y315, hy315⟩ : ∃ y_ : List Bool, y_ = (x5_1.set ((rd l0 x6_1) : Int).toNat true) := ⟨_, rfl⟩
                      replace H : (mancipleref14_Model.l0 k1 l0 a1 y315 (wrap64 (x6_1 + 1))) = some r := by first | (rw [hy315]; with_reducible exact H) | (have H2_ := (Option.bind_some _ _).symm.trans H; rw [hy315]; with_reducible exact H2_) | (have H2_ := (Option.bind_some _ _).symm.trans H; with_reducible exact H2_) | with_reducible exact H | (rw [hy315]; exact H) | exact H
                      have Ny315 := Aside0.mk hy315
                      clear hy315
                      have H' := Aside0.mk H
                      clear H
                      have p312 : 0 ≤ (x6_1 : Int) := of_decide_eq_true (by first | (with_reducible assumption) | assumption)
                      have q312 : x6_1 < (l0.length : Int) := of_decide_eq_true (by first | (with_reducible assumption) | assumption)
                      obtain ⟨ad312, e312, hx312_0⟩ := Kd.at_int HR0.out x6_1 p312 q312
                      cases e312
                      replace hx312_0 := (HB.out.cell (World.block_lt_of_cell? w _ hx312_0)).trans hx312_0
                      replace p312 := eq_true p312
                      replace q312 := eq_true q312
                      have p313 : 0 ≤ (x6_1 : Int) := of_decide_eq_true (by first | (with_reducible assumption) | assumption)
                      have q313 : x6_1 < (l0.length : Int) := of_decide_eq_true (by first | (with_reducible assumption) | assumption)
                      obtain ⟨ad313, e313, hx313_0⟩ := Kd.at_int HR0.out x6_1 p313 q313
                      obtain rfl : ad312 = ad313 := (by injection e313)
                      replace hx313_0 := (HB.out.cell (World.block_lt_of_cell? w _ hx313_0)).trans hx313_0
                      replace p313 := eq_true p313
                      replace q313 := eq_true q313
                      have p314 : 0 ≤ (x6_1 : Int) := of_decide_eq_true (by first | (with_reducible assumption) | assumption)
                      have q314 : x6_1 < (l0.length : Int) := of_decide_eq_true (by first | (with_reducible assumption) | assumption)
                      obtain ⟨ad314, e314, hx314_0⟩ := Kd.at_int HR0.out x6_1 p314 q314
                      obtain rfl : ad312 = ad314 := (by injection e314)
                      replace hx314_0 := (HB.out.cell (World.block_lt_of_cell? w _ hx314_0)).trans hx314_0
                      replace p314 := eq_true p314
                      replace q314 := eq_true q314
                      have p13 : 0 ≤ ((rd l0 x6_1) : Int) := of_decide_eq_true (by first | (with_reducible assumption) | assumption)
                      have q13 : ((rd l0 x6_1) : Int) < ((x5_1.length : Int) : Int) := of_decide_eq_true (by first | (with_reducible assumption) | assumption)
                      obtain ⟨go13, co13, eo13, gb13, gl13, cl13, HG13⟩ := Kd.R_form HO_5.out (by omega)
                      (first | cases eo13 | (injection eo13 with ea_ en_ ec_; (first | subst ea_ | (injection ea_ with ea_; subst ea_)); subst ec_; clear en_))
                      have GB13 := Aside0.mk gb13
                      have GG13 := Aside0.mk HG13
                      clear gb13 gl13 HG13
                      obtain ⟨hx13_0, hf13_0⟩ := Kd.R_celln false HO_5.out ((rd l0 x6_1) : Int) p13 q13
                      replace p13 := eq_true p13
                      replace q13 := eq_true q13
                      have HP14 := Kd.R_putg HO_5.out ((rd l0 x6_1) : Int) true
                      go_wp2_with (first | ((with_reducible refine gate_store (t := 4) (p := 33) rfl ?_); refine store_event (t := 4) (p := 33) (v := ?vo_w15) (w1 := (wr.setCell ⟨go13, ((rd l0 x6_1) : Int).toNat, none⟩ (.bool true))) ?hg ?ho ?hn ?hr ?_; (case ho => rfl); (case hg => rfl); (case hn => rfl); (case hr => first | (go_simp; done) | (go_simp; rfl)); intro w15 hw; have hg : wr.grownBy w15 (some go13) := (by rw [hw]; exact HP14.2); have hp_ : Kd.R Kd.bool 4 w15 w.heap.size (fun _ => True) (.slice (some ⟨go13, 0, none⟩) x5_1.length co13) y315 := (by rw [hw, Ny315.out]; exact HP14.1); clear HP14; have n0_ := Aside0.mk (hp_); have n1_ := Aside0.mk ((by rw [hw]; exact below_set (HB.out) GB13.out : Below w.heap.size w w15)); clear HO_5; clear HB; have HO_5 := n0_; have HB := n1_; clear n0_ n1_; clear hg hw hp_))
                      go_roundg k1
                      case measure => have := HK1.out; omega
                      case rel => exact ⟨(y315), (wrap64 (x6_1 + 1)), (by first | rfl | (simp; done) | (simp [*]; done)), H', ⟨by have := HK1.out; omega⟩, ⟨by (with_reducible repeat (first | apply Kd.R_alloc | apply Kd.R_drewN | apply Kd.R_drew)); exact HO_5.out⟩, ⟨by repeat (first | (with_reducible first | exact HB.out | apply below_alloc | apply pw_below_drewN | apply below_drew1) | exact HB.out)⟩⟩
                    · rw [if_neg c12] at H
                      exact absurd H (by simp)
                  · rw [if_neg c11] at H
                    exact absurd H (by simp)
                · rw [if_neg c10] at H
                  have c10b0 : decide ((rd l0 x6_1) < a1) = false := decide_eq_false c10
                  clear c10
                  have H' := Aside0.mk H
                  clear H
                  have p312 : 0 ≤ (x6_1 : Int) := of_decide_eq_true (by first | (with_reducible assumption) | assumption)
                  have q312 : x6_1 < (l0.length : Int) := of_decide_eq_true (by first | (with_reducible assumption) | assumption)
                  obtain ⟨ad312, e312, hx312_0⟩ := Kd.at_int HR0.out x6_1 p312 q312
                  cases e312
                  replace hx312_0 := (HB.out.cell (World.block_lt_of_cell? w _ hx312_0)).trans hx312_0
                  replace p312 := eq_true p312
                  replace q312 := eq_true q312
                  have p313 : 0 ≤ (x6_1 : Int) := of_decide_eq_true (by first | (with_reducible assumption) | assumption)
                  have q313 : x6_1 < (l0.length : Int) := of_decide_eq_true (by first | (with_reducible assumption) | assumption)
                  obtain ⟨ad313, e313, hx313_0⟩ := Kd.at_int HR0.out x6_1 p313 q313
                  obtain rfl : ad312 = ad313 := (by injection e313)
                  replace hx313_0 := (HB.out.cell (World.block_lt_of_cell? w _ hx313_0)).trans hx313_0
                  replace p313 := eq_true p313
                  replace q313 := eq_true q313
                  go_wp2
                  go_roundg k1
                  case measure => have := HK1.out; omega
                  case rel => exact ⟨(x5_1), (wrap64 (x6_1 + 1)), (by first | rfl | (simp; done) | (simp [*]; done)), H', ⟨by have := HK1.out; omega⟩, ⟨by (with_reducible repeat (first | apply Kd.R_alloc | apply Kd.R_drewN | apply Kd.R_drew)); exact HO_5.out⟩, ⟨by repeat (first | (with_reducible first | exact HB.out | apply below_alloc | apply pw_below_drewN | apply below_drew1) | exact HB.out)⟩⟩
              · rw [if_neg c9] at H
                have c9b0 : decide (0 ≤ (rd l0 x6_1)) = false := decide_eq_false c9
                clear c9
                have H' := Aside0.mk H
                clear H
                have p312 : 0 ≤ (x6_1 : Int) := of_decide_eq_true (by first | (with_reducible assumption) | assumption)
                have q312 : x6_1 < (l0.length : Int) := of_decide_eq_true (by first | (with_reducible assumption) | assumption)
                obtain ⟨ad312, e312, hx312_0⟩ := Kd.at_int HR0.out x6_1 p312 q312
                cases e312
                replace hx312_0 := (HB.out.cell (World.block_lt_of_cell? w _ hx312_0)).trans hx312_0
                replace p312 := eq_true p312
                replace q312 := eq_true q312
                go_wp2
                go_roundg k1
                case measure => have := HK1.out; omega
                case rel => exact ⟨(x5_1), (wrap64 (x6_1 + 1)), (by first | rfl | (simp; done) | (simp [*]; done)), H', ⟨by have := HK1.out; omega⟩, ⟨by (with_reducible repeat (first | apply Kd.R_alloc | apply Kd.R_drewN | apply Kd.R_drew)); exact HO_5.out⟩, ⟨by repeat (first | (with_reducible first | exact HB.out | apply below_alloc | apply pw_below_drewN | apply below_drew1) | exact HB.out)⟩⟩
            · rw [if_neg c8] at H
              exact absurd H (by simp)
          · rw [if_neg c7] at H
            have c7b0 : decide (x6_1 < (l0.length : Int)) = false := decide_eq_false c7
            clear c7
            obtain rfl := Option.some.inj H
            go_wp2
            go_ret
            exact ⟨_, by first | rfl | (simp [errW_none, errW_some] <;> rfl) | (simp [*, errW_none, errW_some] <;> rfl), by (with_reducible repeat (first | apply Kd.R_alloc | apply Kd.R_drewN | apply Kd.R_drew)); exact HO_5.out, by repeat (first | (with_reducible first | exact HB.out | apply below_alloc | apply pw_below_drewN | apply below_drew1) | exact HB.out)⟩
    · rw [if_neg c4] at H
      exact absurd H (by simp)
  · rw [if_neg c3] at H
    exact absurd H (by simp)

/-! ### mancipleref14_SetOf: function 22 -/
def mancipleref14_SetOf.l0 : Nat → Int → Int → List Int → Int → Option (List Int)
  | 0, _, _, _, _ => none
  | k + 1, x0, x1, x5, x6 => if x6 < x0 then (if 0 ≤ (IntKind.u64.wrap (x6)) then (if (Go.bits .and .i64 (shr .i64 x1 (IntKind.u64.wrap (x6))) 1) = 1 then (if x5.length < 17592186044416 then (mancipleref14_SetOf.l0 k x0 x1 (x5 ++ [x6]) (wrap64 (x6 + 1))) else (none)) else (mancipleref14_SetOf.l0 k x0 x1 x5 (wrap64 (x6 + 1)))) else (none)) else (some x5)
def mancipleref14_SetOf.f (k : Nat) (a0 : Int) (a1 : Int) : Option (List Int) := mancipleref14_SetOf.l0 k a0 a1 ([] : List Int) 0
theorem mancipleref14_SetOf.mono_l : ∀ k, (∀ y0 y1 y2 y3, LeO (mancipleref14_SetOf.l0 k y0 y1 y2 y3) (mancipleref14_SetOf.l0 (k + 1) y0 y1 y2 y3))
  | 0 => fun _ _ _ _ r h => by simp [mancipleref14_SetOf.l0] at h
  | k + 1 => by
    have ih0 := mancipleref14_SetOf.mono_l k
    · intro y0 y1 y2 y3
      unfold mancipleref14_SetOf.l0
      repeat' first
      | (with_reducible exact ih0 _ _ _ _)
      | (with_reducible exact LeO.refl _)
      | (with_reducible exact LeO.none _)
      | (with_reducible refine LeO.ite ?_ ?_)
      | (with_reducible refine LeO.bind ?_ (fun _ => ?_))
      | exact ih0 _ _ _ _
      | exact LeO.none _
      | refine LeO.ite ?_ ?_
      | refine LeO.bind ?_ (fun _ => ?_)
theorem mancipleref14_SetOf.mono : ∀ a0 a1 k, LeO (mancipleref14_SetOf.f k a0 a1) (mancipleref14_SetOf.f (k + 1) a0 a1) := by
  intro a0 a1 k
  have ih0 := mancipleref14_SetOf.mono_l k
  unfold mancipleref14_SetOf.f
  repeat' first
      | (with_reducible exact ih0 _ _ _ _)
      | (with_reducible exact LeO.refl _)
      | (with_reducible exact LeO.none _)
      | (with_reducible refine LeO.ite ?_ ?_)
      | (with_reducible refine LeO.bind ?_ (fun _ => ?_))
      | exact ih0 _ _ _ _
      | exact LeO.none _
      | refine LeO.ite ?_ ?_
      | refine LeO.bind ?_ (fun _ => ?_)
set_option maxHeartbeats 8000000 in
set_option maxRecDepth 100000 in
theorem mancipleref14_SetOf.calls (k : Nat) (a0 : Int) (a1 : Int) (r : List Int) (w : World) (h : mancipleref14_SetOf.f k a0 a1 = some r) :
    Calls Try.prog 22 #[.int .i64 a0, .int .i64 a1] w fun e w' => ∃ v0_ : Value, e = .returned (v0_) ∧ Kd.R (Kd.int .i64) 3 w' w.heap.size (fun _ => True) v0_ r ∧ Below w.heap.size w w' := by
  have HB := Aside0.mk (Below.refl w.heap.size w)
  have H : (mancipleref14_SetOf.l0 k a0 a1 ([] : List Int) 0) = some r := h
  clear h
  have H' := Aside0.mk H
  clear H
  go_enter Try.func22, Try.ntmps22
  go_wp2
  go_loopg [5, 6] k (fun kq v5 v6 w' => ∃ (x5_1 : List Int) (x6_1 : Int), v6 = .int .i64 x6_1 ∧ Aside0 (mancipleref14_SetOf.l0 kq a0 a1 x5_1 x6_1 = some r) ∧ Aside0 (kq ≤ k) ∧ Aside0 (Kd.R (Kd.int .i64) 3 w' w.heap.size (fun _ => True) v5 x5_1) ∧ Aside0 (Below w.heap.size w w'))
  case atStart => exact ⟨(([] : List Int)), (0), (by first | rfl | (simp; done) | (simp [*]; done)), H', ⟨Nat.le_refl _⟩, ⟨by first | exact Kd.R_nil _ _ _ _ _ | exact Kd.N_nil _ _ _ _ _ | exact Kd.V_nil _ _ _ _ _ | exact Kd.Q_nil _ _ _ _ _ | exact Kd.S_nil _ _ _ _ _⟩, ⟨by repeat (first | (with_reducible first | exact HB.out | apply below_alloc | apply pw_below_drewN | apply below_drew1) | exact HB.out)⟩⟩
  case round =>
    clear H'
    try clear c2
    try clear p2
    obtain ⟨x5_1, x6_1, rfl, HA, HK1, HO_5, HB⟩ := hrel
    cases gk with
    | zero => exact absurd HA.out (by simp [mancipleref14_SetOf.l0])
    | succ k1 =>
      have H := HA.out
      clear HA
      simp only [mancipleref14_SetOf.l0] at H
      by_cases c3 : x6_1 < a0
      · rw [if_pos c3] at H
        have c3b0 : decide (x6_1 < a0) = true := decide_eq_true c3
        clear c3
        obtain ⟨ji4, hji4⟩ : ∃ j_ : Int, (IntKind.u64.wrap (x6_1)) = j_ := ⟨_, rfl⟩
        replace H : (if 0 ≤ (ji4) then (if (Go.bits .and .i64 (shr .i64 a1 (ji4)) 1) = 1 then (if x5_1.length < 17592186044416 then (mancipleref14_SetOf.l0 k1 a0 a1 (x5_1 ++ [x6_1]) (wrap64 (x6_1 + 1))) else (none)) else (mancipleref14_SetOf.l0 k1 a0 a1 x5_1 (wrap64 (x6_1 + 1)))) else (none)) = some r := by first | (rw [hji4] at H; exact H) | (simp only [hji4] at H ⊢; exact H)
        by_cases c5 : 0 ≤ (ji4)
        · rw [if_pos c5] at H
          have c5b0 := eq_true c5
          have c5b1 : decide (0 ≤ (ji4)) = true := decide_eq_true c5
          clear c5
          obtain ⟨ji6, hji6⟩ : ∃ j_ : Int, (shr .i64 a1 (ji4)) = j_ := ⟨_, rfl⟩
          replace H : (if (Go.bits .and .i64 (ji6) 1) = 1 then (if x5_1.length < 17592186044416 then (mancipleref14_SetOf.l0 k1 a0 a1 (x5_1 ++ [x6_1]) (wrap64 (x6_1 + 1))) else (none)) else (mancipleref14_SetOf.l0 k1 a0 a1 x5_1 (wrap64 (x6_1 + 1)))) = some r := by first | (rw [hji6] at H; exact H) | (simp only [hji6] at H ⊢; exact H)
          have hji6_ : (a1 / 2 ^ min (ji4).toNat 64) = ji6 := hji6
          have hji6z : (ji4) ≤ 64 → (a1 / 2 ^ (ji4).toNat) = ji6 := shr_small hji6
          by_cases c7 : (Go.bits .and .i64 (ji6) 1) = 1
          · rw [if_pos c7] at H
            have c7b0 : ((Go.bits .and .i64 (ji6) 1) == 1) = true := beq_iff_eq.mpr c7
            have c7b1 : ((Go.bits .and .i64 (ji6) 1) != 1) = false := bne_eq_false_iff_eq.mpr c7
            clear c7
            by_cases c8 : x5_1.length < 17592186044416
            · rw [if_pos c8] at H
              have LMc8 := Aside0.mk c8
              clear c8
              obtain ⟨y316, hy316⟩ : ∃ y_ : List Int, y_ = (x5_1 ++ [x6_1]) := ⟨_, rfl⟩
              replace H : (mancipleref14_SetOf.l0 k1 a0 a1 y316 (wrap64 (x6_1 + 1))) = some r := by first | (rw [hy316]; with_reducible exact H) | (have H2_ := (Option.bind_some _ _).symm.trans H; rw [hy316]; with_reducible exact H2_) | (have H2_ := (Option.bind_some _ _).symm.trans H; with_reducible exact H2_) | with_reducible exact H | (rw [hy316]; exact H) | exact H
              have Ny316 := Aside0.mk hy316
              clear hy316
              have H' := Aside0.mk H
              clear H
              go_wp2_with (first | ((with_reducible refine gate_builtin (b := .append) (xs := #[.tmp 18, .tmp 20]) rfl ?_); at_builtin; refine Kd.R_append (Kd.int .i64) (w0 := w) w.heap.size rfl (.tmp 18) (.tmp 20) 23 3 (.int .i64 0) 8 rfl Try.underlying23 info3 rfl (by decide) (by omega) u5 x5_1 x6_1 [.int .i64 x6_1] (fun _ => True) (fun _ => False) rfl rfl ?aP (fun _ hk => hk.elim) ?aF ?aO ?aB ?aS ?aL ?_; (case aP => exact rfl); (case aB => exact (by repeat (first | (with_reducible first | exact HB.out | apply below_alloc | apply pw_below_drewN | apply below_drew1) | exact HB.out))); (case aF => exact (fun _ _ => trivial)); (case aO => exact (by (with_reducible repeat (first | apply Kd.R_alloc | apply Kd.R_drewN | apply Kd.R_drew)); exact HO_5.out)); (case aS => exact (below_size (by repeat (first | (with_reducible first | exact HB.out | apply below_alloc | apply pw_below_drewN | apply below_drew1) | exact HB.out)))); (case aL => have := LMc8.out; omega); intro v317 w9 ho hb hg hat; rw [← Ny316.out] at ho; have n0_ := Aside0.mk (hb); have n1_ := Aside0.mk (ho); clear HB; clear HO_5; have HB := n0_; have HO318 := n1_; clear n0_ n1_; clear ho hb hg hat))
              go_roundg k1
              case measure => have := HK1.out; omega
              case rel => exact ⟨(y316), (wrap64 (x6_1 + 1)), (by first | rfl | (simp; done) | (simp [*]; done)), H', ⟨by have := HK1.out; omega⟩, ⟨by (with_reducible repeat (first | apply Kd.R_alloc | apply Kd.R_drewN | apply Kd.R_drew)); exact HO318.out⟩, ⟨by repeat (first | (with_reducible first | exact HB.out | apply below_alloc | apply pw_below_drewN | apply below_drew1) | exact HB.out)⟩⟩
            · rw [if_neg c8] at H
              exact absurd H (by simp)
          · rw [if_neg c7] at H
            have c7b0 : ((Go.bits .and .i64 (ji6) 1) == 1) = false := beq_eq_false_iff_ne.mpr c7
            have c7b1 : ((Go.bits .and .i64 (ji6) 1) != 1) = true := bne_iff_ne.mpr c7
            have H' := Aside0.mk H
            clear H
            go_wp2
            go_roundg k1
            case measure => have := HK1.out; omega
            case rel => exact ⟨(x5_1), (wrap64 (x6_1 + 1)), (by first | rfl | (simp; done) | (simp [*]; done)), H', ⟨by have := HK1.out; omega⟩, ⟨by (with_reducible repeat (first | apply Kd.R_alloc | apply Kd.R_drewN | apply Kd.R_drew)); exact HO_5.out⟩, ⟨by repeat (first | (with_reducible first | exact HB.out | apply below_alloc | apply pw_below_drewN | apply below_drew1) | exact HB.out)⟩⟩
        · rw [if_neg c5] at H
          exact absurd H (by simp)
      · rw [if_neg c3] at H
        have c3b0 : decide (x6_1 < a0) = false := decide_eq_false c3
        clear c3
        obtain rfl := Option.some.inj H
        go_wp2
        go_ret
        exact ⟨_, by first | rfl | (simp [errW_none, errW_some] <;> rfl) | (simp [*, errW_none, errW_some] <;> rfl), by (with_reducible repeat (first | apply Kd.R_alloc | apply Kd.R_drewN | apply Kd.R_drew)); exact HO_5.out, by repeat (first | (with_reducible first | exact HB.out | apply below_alloc | apply pw_below_drewN | apply below_drew1) | exact HB.out)⟩

/-! ### mancipleref14_HoldsClause: function 24 -/
def mancipleref14_HoldsClause.l0 : Nat → List Int → List Bool → Int → Option (Bool)
  | 0, _, _, _ => none
  | k + 1, x0, x1, x5 => if x5 < (x0.length : Int) then (if 0 ≤ x5 then (if (rd x0 x5) ≥ 1 then (if (rd x0 x5) ≤ (x1.length : Int) then (if 0 ≤ (wrap64 ((rd x0 x5) - 1)) then (if (wrap64 ((rd x0 x5) - 1)) < (x1.length : Int) then (if rdOf false x1 (wrap64 ((rd x0 x5) - 1)) = true then (some true) else (if (rd x0 x5) ≤ (-1) then (if (rd x0 x5) ≥ (wrap64 (-(x1.length : Int))) then (if 0 ≤ (wrap64 ((wrap64 (-(rd x0 x5))) - 1)) then (if (wrap64 ((wrap64 (-(rd x0 x5))) - 1)) < (x1.length : Int) then (if (rdOf false x1 (wrap64 ((wrap64 (-(rd x0 x5))) - 1)) = true) then (mancipleref14_HoldsClause.l0 k x0 x1 (wrap64 (x5 + 1))) else (some true)) else (none)) else (none)) else (mancipleref14_HoldsClause.l0 k x0 x1 (wrap64 (x5 + 1)))) else (mancipleref14_HoldsClause.l0 k x0 x1 (wrap64 (x5 + 1))))) else (none)) else (none)) else (if (rd x0 x5) ≤ (-1) then (if (rd x0 x5) ≥ (wrap64 (-(x1.length : Int))) then (if 0 ≤ (wrap64 ((wrap64 (-(rd x0 x5))) - 1)) then (if (wrap64 ((wrap64 (-(rd x0 x5))) - 1)) < (x1.length : Int) then (if (rdOf false x1 (wrap64 ((wrap64 (-(rd x0 x5))) - 1)) = true) then (mancipleref14_HoldsClause.l0 k x0 x1 (wrap64 (x5 + 1))) else (some true)) else (none)) else (none)) else (mancipleref14_HoldsClause.l0 k x0 x1 (wrap64 (x5 + 1)))) else (mancipleref14_HoldsClause.l0 k x0 x1 (wrap64 (x5 + 1))))) else (if (rd x0 x5) ≤ (-1) then (if (rd x0 x5) ≥ (wrap64 (-(x1.length : Int))) then (if 0 ≤ (wrap64 ((wrap64 (-(rd x0 x5))) - 1)) then (if (wrap64 ((wrap64 (-(rd x0 x5))) - 1)) < (x1.length : Int) then (if (rdOf false x1 (wrap64 ((wrap64 (-(rd x0 x5))) - 1)) = true) then (mancipleref14_HoldsClause.l0 k x0 x1 (wrap64 (x5 + 1))) else (some true)) else (none)) else (none)) else (mancipleref14_HoldsClause.l0 k x0 x1 (wrap64 (x5 + 1)))) else (mancipleref14_HoldsClause.l0 k x0 x1 (wrap64 (x5 + 1))))) else (none)) else (some false)
def mancipleref14_HoldsClause.f (k : Nat) (l0 : List Int) (l1 : List Bool) : Option (Bool) := mancipleref14_HoldsClause.l0 k l0 l1 0
theorem mancipleref14_HoldsClause.mono_l : ∀ k, (∀ y0 y1 y2, LeO (mancipleref14_HoldsClause.l0 k y0 y1 y2) (mancipleref14_HoldsClause.l0 (k + 1) y0 y1 y2))
  | 0 => fun _ _ _ r h => by simp [mancipleref14_HoldsClause.l0] at h
  | k + 1 => by
    have ih0 := mancipleref14_HoldsClause.mono_l k
    · intro y0 y1 y2
      unfold mancipleref14_HoldsClause.l0
      repeat' first
      | (with_reducible exact ih0 _ _ _)
      | (with_reducible exact LeO.refl _)
      | (with_reducible exact LeO.none _)
      | (with_reducible refine LeO.ite ?_ ?_)
      | (with_reducible refine LeO.bind ?_ (fun _ => ?_))
      | exact ih0 _ _ _
      | exact LeO.none _
      | refine LeO.ite ?_ ?_
      | refine LeO.bind ?_ (fun _ => ?_)
theorem mancipleref14_HoldsClause.mono : ∀ a0 a1 k, LeO (mancipleref14_HoldsClause.f k a0 a1) (mancipleref14_HoldsClause.f (k + 1) a0 a1) := by
  intro a0 a1 k
  have ih0 := mancipleref14_HoldsClause.mono_l k
  unfold mancipleref14_HoldsClause.f
  repeat' first
      | (with_reducible exact ih0 _ _ _)
      | (with_reducible exact LeO.refl _)
      | (with_reducible exact LeO.none _)
      | (with_reducible refine LeO.ite ?_ ?_)
      | (with_reducible refine LeO.bind ?_ (fun _ => ?_))
      | exact ih0 _ _ _
      | exact LeO.none _
      | refine LeO.ite ?_ ?_
      | refine LeO.bind ?_ (fun _ => ?_)
set_option maxHeartbeats 8000000 in
set_option maxRecDepth 100000 in
theorem mancipleref14_HoldsClause.calls (k : Nat) (A0 : Option Addr) (c0 : Nat) (l0 : List Int) (A1 : Option Addr) (c1 : Nat) (l1 : List Bool) (r : Bool) (w : World) (hr0 : Kd.C (Kd.int .i64) w A0 l0.length l0) (hc0 : l0.length ≤ c0) (hr1 : Kd.C Kd.bool w A1 l1.length l1) (hc1 : l1.length ≤ c1) (h : mancipleref14_HoldsClause.f k l0 l1 = some r) :
    Calls Try.prog 24 #[.slice A0 l0.length c0, .slice A1 l1.length c1] w fun e w' => e = .returned (.bool r) ∧ Drawn0 w w' := by
  have HR0 := Aside0.mk hr0
  have HC0 := Aside0.mk hc0
  clear hr0 hc0
  have HR1 := Aside0.mk hr1
  have HC1 := Aside0.mk hc1
  clear hr1 hc1
  have H : (mancipleref14_HoldsClause.l0 k l0 l1 0) = some r := h
  clear h
  have H' := Aside0.mk H
  clear H
  go_enter Try.func24, Try.ntmps24
  go_wp2
  go_loopg [5] k (fun kq v5 w' => ∃ (x5_1 : Int), v5 = .int .i64 x5_1 ∧ Aside0 (mancipleref14_HoldsClause.l0 kq l0 l1 x5_1 = some r) ∧ Aside0 (kq ≤ k) ∧ Drawn0 w w')
  case atStart => exact ⟨(0), (by first | rfl | (simp; done) | (simp [*]; done)), H', ⟨Nat.le_refl _⟩, by repeat (first | exact Drawn0.refl _ | apply Drawn0.step)⟩
  case round =>
    clear H'
    try clear c1
    try clear c2
    try clear p2
    obtain ⟨x5_1, rfl, HA, HK1, ⟨m1, rfl⟩⟩ := hrel
    cases gk with
    | zero => exact absurd HA.out (by simp [mancipleref14_HoldsClause.l0])
    | succ k1 =>
      have H := HA.out
      clear HA
      simp only [mancipleref14_HoldsClause.l0] at H
      by_cases c3 : x5_1 < (l0.length : Int)
      · rw [if_pos c3] at H
        have c3b0 : decide (x5_1 < (l0.length : Int)) = true := decide_eq_true c3
        clear c3
        by_cases c4 : 0 ≤ x5_1
        · rw [if_pos c4] at H
          have c4b0 : decide (0 ≤ x5_1) = true := decide_eq_true c4
          clear c4
          by_cases c5 : (rd l0 x5_1) ≥ 1
          · rw [if_pos c5] at H
            have c5b0 : decide (1 ≤ (rd l0 x5_1)) = true := decide_eq_true c5
            clear c5
            by_cases c6 : (rd l0 x5_1) ≤ (l1.length : Int)
            · rw [if_pos c6] at H
              have c6b0 : decide ((rd l0 x5_1) ≤ (l1.length : Int)) = true := decide_eq_true c6
              clear c6
              obtain ⟨ji7, hji7⟩ : ∃ j_ : Int, (wrap64 ((rd l0 x5_1) - 1)) = j_ := ⟨_, rfl⟩
              replace H : (if 0 ≤ (ji7) then (if (ji7) < (l1.length : Int) then (if rdOf false l1 (ji7) = true then (some true) else (if (rd l0 x5_1) ≤ (-1) then (if (rd l0 x5_1) ≥ (wrap64 (-(l1.length : Int))) then (if 0 ≤ (wrap64 ((wrap64 (-(rd l0 x5_1))) - 1)) then (if (wrap64 ((wrap64 (-(rd l0 x5_1))) - 1)) < (l1.length : Int) then (if (rdOf false l1 (wrap64 ((wrap64 (-(rd l0 x5_1))) - 1)) = true) then (mancipleref14_HoldsClause.l0 k1 l0 l1 (wrap64 (x5_1 + 1))) else (some true)) else (none)) else (none)) else (mancipleref14_HoldsClause.l0 k1 l0 l1 (wrap64 (x5_1 + 1)))) else (mancipleref14_HoldsClause.l0 k1 l0 l1 (wrap64 (x5_1 + 1))))) else (none)) else (none)) = some r := by first | (rw [hji7] at H; exact H) | (simp only [hji7] at H ⊢; exact H)
              have hji7w : (IntKind.i64.wrap ((rd l0 x5_1) - 1)) = ji7 := (i64_w _).trans hji7
              by_cases c8 : 0 ≤ (ji7)
              · rw [if_pos c8] at H
                have c8b0 : decide (0 ≤ (ji7)) = true := decide_eq_true c8
                clear c8
                by_cases c9 : (ji7) < (l1.length : Int)
                · rw [if_pos c9] at H
                  have c9b0 : decide ((ji7) < (l1.length : Int)) = true := decide_eq_true c9
                  clear c9
                  obtain ⟨bq10, hbq10⟩ : ∃ b_ : Bool, b_ = (rdOf false l1 (ji7)) := ⟨_, rfl⟩
                  replace H : (if bq10 = true then (some true) else (if (rd l0 x5_1) ≤ (-1) then (if (rd l0 x5_1) ≥ (wrap64 (-(l1.length : Int))) then (if 0 ≤ (wrap64 ((wrap64 (-(rd l0 x5_1))) - 1)) then (if (wrap64 ((wrap64 (-(rd l0 x5_1))) - 1)) < (l1.length : Int) then (if (rdOf false l1 (wrap64 ((wrap64 (-(rd l0 x5_1))) - 1)) = true) then (mancipleref14_HoldsClause.l0 k1 l0 l1 (wrap64 (x5_1 + 1))) else (some true)) else (none)) else (none)) else (mancipleref14_HoldsClause.l0 k1 l0 l1 (wrap64 (x5_1 + 1)))) else (mancipleref14_HoldsClause.l0 k1 l0 l1 (wrap64 (x5_1 + 1))))) = some r := by rw [← hbq10] at H; exact H
                  have Nbq10 := Aside0.mk hbq10
                  clear hbq10
                  by_cases c11 : bq10 = true
                  · subst c11
                    have H1 : (some true) = some r := by rw [if_pos rfl] at H; exact H
                    clear H
                    have H := H1
                    clear H1
                    obtain rfl := Option.some.inj H
                    have p319 : 0 ≤ (x5_1 : Int) := of_decide_eq_true (by first | (with_reducible assumption) | assumption)
                    have q319 : x5_1 < (l0.length : Int) := of_decide_eq_true (by first | (with_reducible assumption) | assumption)
                    obtain ⟨ad319, e319, hx319_0⟩ := Kd.at_int HR0.out x5_1 p319 q319
                    cases e319
                    replace p319 := eq_true p319
                    replace q319 := eq_true q319
                    have p320 : 0 ≤ ((ji7) : Int) := of_decide_eq_true (by first | (with_reducible assumption) | assumption)
                    have q320 : (ji7) < (l1.length : Int) := of_decide_eq_true (by first | (with_reducible assumption) | assumption)
                    obtain ⟨ad320, e320, hx320_0⟩ := Kd.at_bool HR1.out (ji7) p320 q320
                    (try rw [← Nbq10.out] at hx320_0)
                    cases e320
                    replace p320 := eq_true p320
                    replace q320 := eq_true q320
                    go_wp2
                    go_ret
                    exact ⟨by first | rfl | (simp; done) | (simp only [← hji7] <;> (first | rfl | simp)) | (simp [*]; done), by repeat (first | exact Drawn0.refl _ | apply Drawn0.step)⟩
                  · replace c11 := Bool.eq_false_iff.mpr c11
                    subst c11
                    have H1 : (if (rd l0 x5_1) ≤ (-1) then (if (rd l0 x5_1) ≥ (wrap64 (-(l1.length : Int))) then (if 0 ≤ (wrap64 ((wrap64 (-(rd l0 x5_1))) - 1)) then (if (wrap64 ((wrap64 (-(rd l0 x5_1))) - 1)) < (l1.length : Int) then (if (rdOf false l1 (wrap64 ((wrap64 (-(rd l0 x5_1))) - 1)) = true) then (mancipleref14_HoldsClause.l0 k1 l0 l1 (wrap64 (x5_1 + 1))) else (some true)) else (none)) else (none)) else (mancipleref14_HoldsClause.l0 k1 l0 l1 (wrap64 (x5_1 + 1)))) else (mancipleref14_HoldsClause.l0 k1 l0 l1 (wrap64 (x5_1 + 1)))) = some r := by rw [if_neg (show ¬ (false = true) by decide)] at H; exact H
                    clear H
                    have H := H1
                    clear H1
                    by_cases c12 : (rd l0 x5_1) ≤ (-1)
                    · rw [if_pos c12] at H
                      have c12b0 : decide ((rd l0 x5_1) ≤ (-1)) = true := decide_eq_true c12
                      clear c12
                      by_cases c13 : (rd l0 x5_1) ≥ (wrap64 (-(l1.length : Int)))
                      · rw [if_pos c13] at H
                        have c13b0 : decide ((wrap64 (-(l1.length : Int))) ≤ (rd l0 x5_1)) = true := decide_eq_true c13
                        clear c13
                        obtain ⟨ji14, hji14⟩ : ∃ j_ : Int, (wrap64 ((wrap64 (-(rd l0 x5_1))) - 1)) = j_ := ⟨_, rfl⟩
                        replace H : (if 0 ≤ (ji14) then (if (ji14) < (l1.length : Int) then (if (rdOf false l1 (ji14) = true) then (mancipleref14_HoldsClause.l0 k1 l0 l1 (wrap64 (x5_1 + 1))) else (some true)) else (none)) else (none)) = some r := by first | (rw [hji14] at H; exact H) | (simp only [hji14] at H ⊢; exact H)
                        have hji14w : (IntKind.i64.wrap ((wrap64 (-(rd l0 x5_1))) - 1)) = ji14 := (i64_w _).trans hji14
                        by_cases c15 : 0 ≤ (ji14)
                        · rw [if_pos c15] at H
                          have c15b0 : decide (0 ≤ (ji14)) = true := decide_eq_true c15
                          clear c15
                          by_cases c16 : (ji14) < (l1.length : Int)
                          · rw [if_pos c16] at H
                            have c16b0 : decide ((ji14) < (l1.length : Int)) = true := decide_eq_true c16
                            clear c16
                            obtain ⟨bq17, hbq17⟩ : ∃ b_ : Bool, b_ = (rdOf false l1 (ji14)) := ⟨_, rfl⟩
                            replace H : (if (bq17 = true) then (mancipleref14_HoldsClause.l0 k1 l0 l1 (wrap64 (x5_1 + 1))) else (some true)) = some r := by rw [← hbq17] at H; exact H
                            have Nbq17 := Aside0.mk hbq17
                            clear hbq17
                            by_cases c18 : (bq17 = true)
                            · subst c18
                              have H1 : (mancipleref14_HoldsClause.l0 k1 l0 l1 (wrap64 (x5_1 + 1))) = some r := by rw [if_pos rfl] at H; exact H
                              clear H
                              have H := H1
                              clear H1
                              have H' := Aside0.mk H
                              clear H
                              have p319 : 0 ≤ (x5_1 : Int) := of_decide_eq_true (by first | (with_reducible assumption) | assumption)
                              have q319 : x5_1 < (l0.length : Int) := of_decide_eq_true (by first | (with_reducible assumption) | assumption)
                              obtain ⟨ad319, e319, hx319_0⟩ := Kd.at_int HR0.out x5_1 p319 q319
                              cases e319
                              replace p319 := eq_true p319
                              replace q319 := eq_true q319
                              have p320 : 0 ≤ ((ji7) : Int) := of_decide_eq_true (by first | (with_reducible assumption) | assumption)
                              have q320 : (ji7) < (l1.length : Int) := of_decide_eq_true (by first | (with_reducible assumption) | assumption)
                              obtain ⟨ad320, e320, hx320_0⟩ := Kd.at_bool HR1.out (ji7) p320 q320
                              (try rw [← Nbq10.out] at hx320_0)
                              (try rw [← Nbq17.out] at hx320_0)
                              cases e320
                              replace p320 := eq_true p320
                              replace q320 := eq_true q320
                              have p321 : 0 ≤ ((ji14) : Int) := of_decide_eq_true (by first | (with_reducible assumption) | assumption)
                              have q321 : (ji14) < (l1.length : Int) := of_decide_eq_true (by first | (with_reducible assumption) | assumption)
                              obtain ⟨ad321, e321, hx321_0⟩ := Kd.at_bool HR1.out (ji14) p321 q321
                              (try rw [← Nbq10.out] at hx321_0)
                              (try rw [← Nbq17.out] at hx321_0)
                              obtain rfl : ad320 = ad321 := (by injection e321)
                              replace p321 := eq_true p321
                              replace q321 := eq_true q321
                              go_wp2
                              go_roundg k1
                              case measure => have := HK1.out; omega
                              case rel => exact ⟨(wrap64 (x5_1 + 1)), (by first | rfl | (simp; done) | (simp [*]; done)), H', ⟨by have := HK1.out; omega⟩, by repeat (first | exact Drawn0.refl _ | apply Drawn0.step)⟩
                            · replace c18 := Bool.eq_false_iff.mpr c18
                              subst c18
                              have H1 : (some true) = some r := by rw [if_neg (show ¬ (false = true) by decide)] at H; exact H
                              clear H
                              have H := H1
                              clear H1
                              obtain rfl := Option.some.inj H
                              have p319 : 0 ≤ (x5_1 : Int) := of_decide_eq_true (by first | (with_reducible assumption) | assumption)
                              have q319 : x5_1 < (l0.length : Int) := of_decide_eq_true (by first | (with_reducible assumption) | assumption)
                              obtain ⟨ad319, e319, hx319_0⟩ := Kd.at_int HR0.out x5_1 p319 q319
                              cases e319
                              replace p319 := eq_true p319
                              replace q319 := eq_true q319
                              have p320 : 0 ≤ ((ji7) : Int) := of_decide_eq_true (by first | (with_reducible assumption) | assumption)
                              have q320 : (ji7) < (l1.length : Int) := of_decide_eq_true (by first | (with_reducible assumption) | assumption)
                              obtain ⟨ad320, e320, hx320_0⟩ := Kd.at_bool HR1.out (ji7) p320 q320
                              (try rw [← Nbq10.out] at hx320_0)
                              (try rw [← Nbq17.out] at hx320_0)
                              cases e320
                              replace p320 := eq_true p320
                              replace q320 := eq_true q320
                              have p321 : 0 ≤ ((ji14) : Int) := of_decide_eq_true (by first | (with_reducible assumption) | assumption)
                              have q321 : (ji14) < (l1.length : Int) := of_decide_eq_true (by first | (with_reducible assumption) | assumption)
                              obtain ⟨ad321, e321, hx321_0⟩ := Kd.at_bool HR1.out (ji14) p321 q321
                              (try rw [← Nbq10.out] at hx321_0)
                              (try rw [← Nbq17.out] at hx321_0)
                              obtain rfl : ad320 = ad321 := (by injection e321)
                              replace p321 := eq_true p321
                              replace q321 := eq_true q321
                              go_wp2
                              go_ret
                              exact ⟨by first | rfl | (simp; done) | (simp only [← hji7, ← hji14] <;> (first | rfl | simp)) | (simp [*]; done), by repeat (first | exact Drawn0.refl _ | apply Drawn0.step)⟩
                          · rw [if_neg c16] at H
                            exact absurd H (by simp)
                        · rw [if_neg c15] at H
                          exact absurd H (by simp)
                      · rw [if_neg c13] at H
                        have c13b0 : decide ((wrap64 (-(l1.length : Int))) ≤ (rd l0 x5_1)) = false := decide_eq_false c13
                        clear c13
                        have H' := Aside0.mk H
                        clear H
                        have p319 : 0 ≤ (x5_1 : Int) := of_decide_eq_true (by first | (with_reducible assumption) | assumption)
                        have q319 : x5_1 < (l0.length : Int) := of_decide_eq_true (by first | (with_reducible assumption) | assumption)
                        obtain ⟨ad319, e319, hx319_0⟩ := Kd.at_int HR0.out x5_1 p319 q319
                        cases e319
                        replace p319 := eq_true p319
                        replace q319 := eq_true q319
                        have p320 : 0 ≤ ((ji7) : Int) := of_decide_eq_true (by first | (with_reducible assumption) | assumption)
                        have q320 : (ji7) < (l1.length : Int) := of_decide_eq_true (by first | (with_reducible assumption) | assumption)
                        obtain ⟨ad320, e320, hx320_0⟩ := Kd.at_bool HR1.out (ji7) p320 q320
                        (try rw [← Nbq10.out] at hx320_0)
                        cases e320
                        replace p320 := eq_true p320
                        replace q320 := eq_true q320
                        go_wp2
                        go_roundg k1
                        case measure => have := HK1.out; omega
                        case rel => exact ⟨(wrap64 (x5_1 + 1)), (by first | rfl | (simp; done) | (simp [*]; done)), H', ⟨by have := HK1.out; omega⟩, by repeat (first | exact Drawn0.refl _ | apply Drawn0.step)⟩
                    · rw [if_neg c12] at H
                      have c12b0 : decide ((rd l0 x5_1) ≤ (-1)) = false := decide_eq_false c12
                      clear c12
                      have H' := Aside0.mk H
                      clear H
                      have p319 : 0 ≤ (x5_1 : Int) := of_decide_eq_true (by first | (with_reducible assumption) | assumption)
                      have q319 : x5_1 < (l0.length : Int) := of_decide_eq_true (by first | (with_reducible assumption) | assumption)
                      obtain ⟨ad319, e319, hx319_0⟩ := Kd.at_int HR0.out x5_1 p319 q319
                      cases e319
                      replace p319 := eq_true p319
                      replace q319 := eq_true q319
                      have p320 : 0 ≤ ((ji7) : Int) := of_decide_eq_true (by first | (with_reducible assumption) | assumption)
                      have q320 : (ji7) < (l1.length : Int) := of_decide_eq_true (by first | (with_reducible assumption) | assumption)
                      obtain ⟨ad320, e320, hx320_0⟩ := Kd.at_bool HR1.out (ji7) p320 q320
                      (try rw [← Nbq10.out] at hx320_0)
                      cases e320
                      replace p320 := eq_true p320
                      replace q320 := eq_true q320
                      go_wp2
                      go_roundg k1
                      case measure => have := HK1.out; omega
                      case rel => exact ⟨(wrap64 (x5_1 + 1)), (by first | rfl | (simp; done) | (simp [*]; done)), H', ⟨by have := HK1.out; omega⟩, by repeat (first | exact Drawn0.refl _ | apply Drawn0.step)⟩
                · rw [if_neg c9] at H
                  exact absurd H (by simp)
              · rw [if_neg c8] at H
                exact absurd H (by simp)
            · rw [if_neg c6] at H
              have c6b0 : decide ((rd l0 x5_1) ≤ (l1.length : Int)) = false := decide_eq_false c6
              clear c6
              by_cases c19 : (rd l0 x5_1) ≤ (-1)
              · rw [if_pos c19] at H
                have c19b0 : decide ((rd l0 x5_1) ≤ (-1)) = true := decide_eq_true c19
                clear c19
                by_cases c20 : (rd l0 x5_1) ≥ (wrap64 (-(l1.length : Int)))
                · rw [if_pos c20] at H
                  have c20b0 : decide ((wrap64 (-(l1.length : Int))) ≤ (rd l0 x5_1)) = true := decide_eq_true c20
                  clear c20
                  obtain ⟨ji21, hji21⟩ : ∃ j_ : Int, (wrap64 ((wrap64 (-(rd l0 x5_1))) - 1)) = j_ := ⟨_, rfl⟩
                  replace H : (if 0 ≤ (ji21) then (if (ji21) < (l1.length : Int) then (if (rdOf false l1 (ji21) = true) then (mancipleref14_HoldsClause.l0 k1 l0 l1 (wrap64 (x5_1 + 1))) else (some true)) else (none)) else (none)) = some r := by first | (rw [hji21] at H; exact H) | (simp only [hji21] at H ⊢; exact H)
                  have hji21w : (IntKind.i64.wrap ((wrap64 (-(rd l0 x5_1))) - 1)) = ji21 := (i64_w _).trans hji21
                  by_cases c22 : 0 ≤ (ji21)
                  · rw [if_pos c22] at H
                    have c22b0 : decide (0 ≤ (ji21)) = true := decide_eq_true c22
                    clear c22
                    by_cases c23 : (ji21) < (l1.length : Int)
                    · rw [if_pos c23] at H
                      have c23b0 : decide ((ji21) < (l1.length : Int)) = true := decide_eq_true c23
                      clear c23
                      obtain ⟨bq24, hbq24⟩ : ∃ b_ : Bool, b_ = (rdOf false l1 (ji21)) := ⟨_, rfl⟩
                      replace H : (if (bq24 = true) then (mancipleref14_HoldsClause.l0 k1 l0 l1 (wrap64 (x5_1 + 1))) else (some true)) = some r := by rw [← hbq24] at H; exact H
                      have Nbq24 := Aside0.mk hbq24
                      clear hbq24
                      by_cases c25 : (bq24 = true)
                      · subst c25
                        have H1 : (mancipleref14_HoldsClause.l0 k1 l0 l1 (wrap64 (x5_1 + 1))) = some r := by rw [if_pos rfl] at H; exact H
                        clear H
                        have H := H1
                        clear H1
                        have H' := Aside0.mk H
                        clear H
                        have p319 : 0 ≤ (x5_1 : Int) := of_decide_eq_true (by first | (with_reducible assumption) | assumption)
                        have q319 : x5_1 < (l0.length : Int) := of_decide_eq_true (by first | (with_reducible assumption) | assumption)
                        obtain ⟨ad319, e319, hx319_0⟩ := Kd.at_int HR0.out x5_1 p319 q319
                        cases e319
                        replace p319 := eq_true p319
                        replace q319 := eq_true q319
                        have p322 : 0 ≤ ((ji21) : Int) := of_decide_eq_true (by first | (with_reducible assumption) | assumption)
                        have q322 : (ji21) < (l1.length : Int) := of_decide_eq_true (by first | (with_reducible assumption) | assumption)
                        obtain ⟨ad322, e322, hx322_0⟩ := Kd.at_bool HR1.out (ji21) p322 q322
                        (try rw [← Nbq24.out] at hx322_0)
                        cases e322
                        replace p322 := eq_true p322
                        replace q322 := eq_true q322
                        go_wp2
                        go_roundg k1
                        case measure => have := HK1.out; omega
                        case rel => exact ⟨(wrap64 (x5_1 + 1)), (by first | rfl | (simp; done) | (simp [*]; done)), H', ⟨by have := HK1.out; omega⟩, by repeat (first | exact Drawn0.refl _ | apply Drawn0.step)⟩
                      · replace c25 := Bool.eq_false_iff.mpr c25
                        subst c25
                        have H1 : (some true) = some r := by rw [if_neg (show ¬ (false = true) by decide)] at H; exact H
                        clear H
                        have H := H1
                        clear H1
                        obtain rfl := Option.some.inj H
                        have p319 : 0 ≤ (x5_1 : Int) := of_decide_eq_true (by first | (with_reducible assumption) | assumption)
                        have q319 : x5_1 < (l0.length : Int) := of_decide_eq_true (by first | (with_reducible assumption) | assumption)
                        obtain ⟨ad319, e319, hx319_0⟩ := Kd.at_int HR0.out x5_1 p319 q319
                        cases e319
                        replace p319 := eq_true p319
                        replace q319 := eq_true q319
                        have p322 : 0 ≤ ((ji21) : Int) := of_decide_eq_true (by first | (with_reducible assumption) | assumption)
                        have q322 : (ji21) < (l1.length : Int) := of_decide_eq_true (by first | (with_reducible assumption) | assumption)
                        obtain ⟨ad322, e322, hx322_0⟩ := Kd.at_bool HR1.out (ji21) p322 q322
                        (try rw [← Nbq24.out] at hx322_0)
                        cases e322
                        replace p322 := eq_true p322
                        replace q322 := eq_true q322
                        go_wp2
                        go_ret
                        exact ⟨by first | rfl | (simp; done) | (simp only [← hji21] <;> (first | rfl | simp)) | (simp [*]; done), by repeat (first | exact Drawn0.refl _ | apply Drawn0.step)⟩
                    · rw [if_neg c23] at H
                      exact absurd H (by simp)
                  · rw [if_neg c22] at H
                    exact absurd H (by simp)
                · rw [if_neg c20] at H
                  have c20b0 : decide ((wrap64 (-(l1.length : Int))) ≤ (rd l0 x5_1)) = false := decide_eq_false c20
                  clear c20
                  have H' := Aside0.mk H
                  clear H
                  have p319 : 0 ≤ (x5_1 : Int) := of_decide_eq_true (by first | (with_reducible assumption) | assumption)
                  have q319 : x5_1 < (l0.length : Int) := of_decide_eq_true (by first | (with_reducible assumption) | assumption)
                  obtain ⟨ad319, e319, hx319_0⟩ := Kd.at_int HR0.out x5_1 p319 q319
                  cases e319
                  replace p319 := eq_true p319
                  replace q319 := eq_true q319
                  go_wp2
                  go_roundg k1
                  case measure => have := HK1.out; omega
                  case rel => exact ⟨(wrap64 (x5_1 + 1)), (by first | rfl | (simp; done) | (simp [*]; done)), H', ⟨by have := HK1.out; omega⟩, by repeat (first | exact Drawn0.refl _ | apply Drawn0.step)⟩
              · rw [if_neg c19] at H
                have c19b0 : decide ((rd l0 x5_1) ≤ (-1)) = false := decide_eq_false c19
                clear c19
                have H' := Aside0.mk H
                clear H
                have p319 : 0 ≤ (x5_1 : Int) := of_decide_eq_true (by first | (with_reducible assumption) | assumption)
                have q319 : x5_1 < (l0.length : Int) := of_decide_eq_true (by first | (with_reducible assumption) | assumption)
                obtain ⟨ad319, e319, hx319_0⟩ := Kd.at_int HR0.out x5_1 p319 q319
                cases e319
                replace p319 := eq_true p319
                replace q319 := eq_true q319
                go_wp2
                go_roundg k1
                case measure => have := HK1.out; omega
                case rel => exact ⟨(wrap64 (x5_1 + 1)), (by first | rfl | (simp; done) | (simp [*]; done)), H', ⟨by have := HK1.out; omega⟩, by repeat (first | exact Drawn0.refl _ | apply Drawn0.step)⟩
          · rw [if_neg c5] at H
            have c5b0 : decide (1 ≤ (rd l0 x5_1)) = false := decide_eq_false c5
            clear c5
            by_cases c26 : (rd l0 x5_1) ≤ (-1)
            · rw [if_pos c26] at H
              have c26b0 : decide ((rd l0 x5_1) ≤ (-1)) = true := decide_eq_true c26
              clear c26
              by_cases c27 : (rd l0 x5_1) ≥ (wrap64 (-(l1.length : Int)))
              · rw [if_pos c27] at H
                have c27b0 : decide ((wrap64 (-(l1.length : Int))) ≤ (rd l0 x5_1)) = true := decide_eq_true c27
                clear c27
                obtain ⟨ji28, hji28⟩ : ∃ j_ : Int, (wrap64 ((wrap64 (-(rd l0 x5_1))) - 1)) = j_ := ⟨_, rfl⟩
                replace H : (if 0 ≤ (ji28) then (if (ji28) < (l1.length : Int) then (if (rdOf false l1 (ji28) = true) then (mancipleref14_HoldsClause.l0 k1 l0 l1 (wrap64 (x5_1 + 1))) else (some true)) else (none)) else (none)) = some r := by first | (rw [hji28] at H; exact H) | (simp only [hji28] at H ⊢; exact H)
                have hji28w : (IntKind.i64.wrap ((wrap64 (-(rd l0 x5_1))) - 1)) = ji28 := (i64_w _).trans hji28
                by_cases c29 : 0 ≤ (ji28)
                · rw [if_pos c29] at H
                  have c29b0 : decide (0 ≤ (ji28)) = true := decide_eq_true c29
                  clear c29
                  by_cases c30 : (ji28) < (l1.length : Int)
                  · rw [if_pos c30] at H
                    have c30b0 : decide ((ji28) < (l1.length : Int)) = true := decide_eq_true c30
                    clear c30
                    obtain ⟨bq31, hbq31⟩ : ∃ b_ : Bool, b_ = (rdOf false l1 (ji28)) := ⟨_, rfl⟩
                    replace H : (if (bq31 = true) then (mancipleref14_HoldsClause.l0 k1 l0 l1 (wrap64 (x5_1 + 1))) else (some true)) = some r := by rw [← hbq31] at H; exact H
                    have Nbq31 := Aside0.mk hbq31
                    clear hbq31
                    by_cases c32 : (bq31 = true)
                    · subst c32
                      have H1 : (mancipleref14_HoldsClause.l0 k1 l0 l1 (wrap64 (x5_1 + 1))) = some r := by rw [if_pos rfl] at H; exact H
                      clear H
                      have H := H1
                      clear H1
                      have H' := Aside0.mk H
                      clear H
                      have p319 : 0 ≤ (x5_1 : Int) := of_decide_eq_true (by first | (with_reducible assumption) | assumption)
                      have q319 : x5_1 < (l0.length : Int) := of_decide_eq_true (by first | (with_reducible assumption) | assumption)
                      obtain ⟨ad319, e319, hx319_0⟩ := Kd.at_int HR0.out x5_1 p319 q319
                      cases e319
                      replace p319 := eq_true p319
                      replace q319 := eq_true q319
                      have p323 : 0 ≤ ((ji28) : Int) := of_decide_eq_true (by first | (with_reducible assumption) | assumption)
                      have q323 : (ji28) < (l1.length : Int) := of_decide_eq_true (by first | (with_reducible assumption) | assumption)
                      obtain ⟨ad323, e323, hx323_0⟩ := Kd.at_bool HR1.out (ji28) p323 q323
                      (try rw [← Nbq31.out] at hx323_0)
                      cases e323
                      replace p323 := eq_true p323
                      replace q323 := eq_true q323
                      go_wp2
                      go_roundg k1
                      case measure => have := HK1.out; omega
                      case rel => exact ⟨(wrap64 (x5_1 + 1)), (by first | rfl | (simp; done) | (simp [*]; done)), H', ⟨by have := HK1.out; omega⟩, by repeat (first | exact Drawn0.refl _ | apply Drawn0.step)⟩
                    · replace c32 := Bool.eq_false_iff.mpr c32
                      subst c32
                      have H1 : (some true) = some r := by rw [if_neg (show ¬ (false = true) by decide)] at H; exact H
                      clear H
                      have H := H1
                      clear H1
                      obtain rfl := Option.some.inj H
                      have p319 : 0 ≤ (x5_1 : Int) := of_decide_eq_true (by first | (with_reducible assumption) | assumption)
                      have q319 : x5_1 < (l0.length : Int) := of_decide_eq_true (by first | (with_reducible assumption) | assumption)
                      obtain ⟨ad319, e319, hx319_0⟩ := Kd.at_int HR0.out x5_1 p319 q319
                      cases e319
                      replace p319 := eq_true p319
                      replace q319 := eq_true q319
                      have p323 : 0 ≤ ((ji28) : Int) := of_decide_eq_true (by first | (with_reducible assumption) | assumption)
                      have q323 : (ji28) < (l1.length : Int) := of_decide_eq_true (by first | (with_reducible assumption) | assumption)
                      obtain ⟨ad323, e323, hx323_0⟩ := Kd.at_bool HR1.out (ji28) p323 q323
                      (try rw [← Nbq31.out] at hx323_0)
                      cases e323
                      replace p323 := eq_true p323
                      replace q323 := eq_true q323
                      go_wp2
                      go_ret
                      exact ⟨by first | rfl | (simp; done) | (simp only [← hji28] <;> (first | rfl | simp)) | (simp [*]; done), by repeat (first | exact Drawn0.refl _ | apply Drawn0.step)⟩
                  · rw [if_neg c30] at H
                    exact absurd H (by simp)
                · rw [if_neg c29] at H
                  exact absurd H (by simp)
              · rw [if_neg c27] at H
                have c27b0 : decide ((wrap64 (-(l1.length : Int))) ≤ (rd l0 x5_1)) = false := decide_eq_false c27
                clear c27
                have H' := Aside0.mk H
                clear H
                have p319 : 0 ≤ (x5_1 : Int) := of_decide_eq_true (by first | (with_reducible assumption) | assumption)
                have q319 : x5_1 < (l0.length : Int) := of_decide_eq_true (by first | (with_reducible assumption) | assumption)
                obtain ⟨ad319, e319, hx319_0⟩ := Kd.at_int HR0.out x5_1 p319 q319
                cases e319
                replace p319 := eq_true p319
                replace q319 := eq_true q319
                go_wp2
                go_roundg k1
                case measure => have := HK1.out; omega
                case rel => exact ⟨(wrap64 (x5_1 + 1)), (by first | rfl | (simp; done) | (simp [*]; done)), H', ⟨by have := HK1.out; omega⟩, by repeat (first | exact Drawn0.refl _ | apply Drawn0.step)⟩
            · rw [if_neg c26] at H
              have c26b0 : decide ((rd l0 x5_1) ≤ (-1)) = false := decide_eq_false c26
              clear c26
              have H' := Aside0.mk H
              clear H
              have p319 : 0 ≤ (x5_1 : Int) := of_decide_eq_true (by first | (with_reducible assumption) | assumption)
              have q319 : x5_1 < (l0.length : Int) := of_decide_eq_true (by first | (with_reducible assumption) | assumption)
              obtain ⟨ad319, e319, hx319_0⟩ := Kd.at_int HR0.out x5_1 p319 q319
              cases e319
              replace p319 := eq_true p319
              replace q319 := eq_true q319
              go_wp2
              go_roundg k1
              case measure => have := HK1.out; omega
              case rel => exact ⟨(wrap64 (x5_1 + 1)), (by first | rfl | (simp; done) | (simp [*]; done)), H', ⟨by have := HK1.out; omega⟩, by repeat (first | exact Drawn0.refl _ | apply Drawn0.step)⟩
        · rw [if_neg c4] at H
          exact absurd H (by simp)
      · rw [if_neg c3] at H
        have c3b0 : decide (x5_1 < (l0.length : Int)) = false := decide_eq_false c3
        clear c3
        obtain rfl := Option.some.inj H
        go_wp2
        go_ret
        exact ⟨by first | rfl | (simp; done) | (simp [*]; done), by repeat (first | exact Drawn0.refl _ | apply Drawn0.step)⟩

end Go.Proofs.Ytjbljblhbmfbpaa.PProp
