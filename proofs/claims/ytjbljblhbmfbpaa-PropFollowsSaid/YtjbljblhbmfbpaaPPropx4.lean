/- Printed by this session's program pp.py: the functions that the law uses as plain functions, and that each call comes to just what its plain function tells; in the last text the row itself. No conditions but those that stand in each statement. -/
import Derived.Test.YtjbljblhbmfbpaaPPropx0
import Derived.Test.YtjbljblhbmfbpaaPPropx1
import Derived.Test.YtjbljblhbmfbpaaPPropx2
import Derived.Test.YtjbljblhbmfbpaaPPropx3
namespace Go.Proofs.Ytjbljblhbmfbpaa.PProp
open Go.RowKit Go.Proofs.YtjbljblhbmfbpaaW.PrintWords Go.Proofs.YtjbljblhbmfbpaaW.PrintLast Go.Proofs.YtjbljblhbmfbpaaW.PrintMore
attribute [local go_sem] max2_int min2_int max_two min_two max_three min_three max_four min_four   -- for this text's walks alone
set_option linter.unusedVariables false
set_option linter.unusedSimpArgs false

/-! ### mancipleref20_Units: function 20 -/
def mancipleref20_Units.l0 : Nat → List (List Int) → List Int → Int → Option (List Int)
  | 0, _, _, _ => none
  | k + 1, x0, x3, x4 => if x4 < (x0.length : Int) then (if 0 ≤ x4 then (if ((rd_L1 x0 x4).length : Int) = 1 then (if 0 < ((rd_L1 x0 x4).length : Int) then (if x3.length < 17592186044416 then (mancipleref20_Units.l0 k x0 (x3 ++ [rd (rd_L1 x0 x4) 0]) (wrap64 (x4 + 1))) else (none)) else (none)) else (mancipleref20_Units.l0 k x0 x3 (wrap64 (x4 + 1)))) else (none)) else (some x3)
def mancipleref20_Units.f (k : Nat) (l0 : List (List Int)) : Option (List Int) := mancipleref20_Units.l0 k l0 ([] : List Int) 0
theorem mancipleref20_Units.mono_l : ∀ k, (∀ y0 y1 y2, LeO (mancipleref20_Units.l0 k y0 y1 y2) (mancipleref20_Units.l0 (k + 1) y0 y1 y2))
  | 0 => fun _ _ _ r h => by simp [mancipleref20_Units.l0] at h
  | k + 1 => by
    have ih0 := mancipleref20_Units.mono_l k
    · intro y0 y1 y2
      unfold mancipleref20_Units.l0
      repeat' first
      | (with_reducible exact ih0 _ _ _)
      | (with_reducible exact LeO.refl _)
      | (with_reducible exact LeO.none _)
      | (with_reducible refine LeO.ite ?_ ?_)
      | (with_reducible refine LeO.bind ?_ (fun _ => ?_))
      | exact ih0 _ _ _
      | exact LeO.none _
      | refine LeO.ite ?_ ?_
      | refine LeO.bind ?_ (fun _ => ?_)
theorem mancipleref20_Units.mono : ∀ a0 k, LeO (mancipleref20_Units.f k a0) (mancipleref20_Units.f (k + 1) a0) := by
  intro a0 k
  have ih0 := mancipleref20_Units.mono_l k
  unfold mancipleref20_Units.f
  repeat' first
      | (with_reducible exact ih0 _ _ _)
      | (with_reducible exact LeO.refl _)
      | (with_reducible exact LeO.none _)
      | (with_reducible refine LeO.ite ?_ ?_)
      | (with_reducible refine LeO.bind ?_ (fun _ => ?_))
      | exact ih0 _ _ _
      | exact LeO.none _
      | refine LeO.ite ?_ ?_
      | refine LeO.bind ?_ (fun _ => ?_)
set_option maxHeartbeats 8000000 in
set_option maxRecDepth 100000 in
theorem mancipleref20_Units.calls (k : Nat) (A0 : Option Addr) (c0 : Nat) (l0 : List (List Int)) (r : List Int) (w : World) (hr0 : Kd.C (Kd.slice 3 (Kd.int .i64)) w A0 l0.length l0) (hc0 : l0.length ≤ c0) (h : mancipleref20_Units.f k l0 = some r) :
    Calls Try.prog 20 #[.slice A0 l0.length c0] w fun e w' => ∃ v0_ : Value, e = .returned (v0_) ∧ Kd.R (Kd.int .i64) 3 w' w.heap.size (fun _ => True) v0_ r ∧ Below w.heap.size w w' := by
  have HR0 := Aside0.mk hr0
  have HC0 := Aside0.mk hc0
  clear hr0 hc0
  have HB := Aside0.mk (Below.refl w.heap.size w)
  have H : (mancipleref20_Units.l0 k l0 ([] : List Int) 0) = some r := h
  clear h
  have H' := Aside0.mk H
  clear H
  go_enter Try.func20, Try.ntmps20
  go_wp2
  go_loopg [3, 4] k (fun kq v3 v4 w' => ∃ (x3_1 : List Int) (x4_1 : Int), v4 = .int .i64 x4_1 ∧ Aside0 (mancipleref20_Units.l0 kq l0 x3_1 x4_1 = some r) ∧ Aside0 (kq ≤ k) ∧ Aside0 (Kd.R (Kd.int .i64) 3 w' w.heap.size (fun _ => True) v3 x3_1) ∧ Aside0 (Below w.heap.size w w'))
  case atStart => exact ⟨(([] : List Int)), (0), (by first | rfl | (simp; done) | (simp [*]; done)), H', ⟨Nat.le_refl _⟩, ⟨by first | exact Kd.R_nil _ _ _ _ _ | exact Kd.N_nil _ _ _ _ _ | exact Kd.V_nil _ _ _ _ _ | exact Kd.Q_nil _ _ _ _ _ | exact Kd.S_nil _ _ _ _ _⟩, ⟨by repeat (first | (with_reducible first | exact HB.out | apply below_alloc | apply pw_below_drewN | apply below_drew1) | exact HB.out)⟩⟩
  case round =>
    clear H'
    obtain ⟨x3_1, x4_1, rfl, HA, HK1, HO_3, HB⟩ := hrel
    cases gk with
    | zero => exact absurd HA.out (by simp [mancipleref20_Units.l0])
    | succ k1 =>
      have H := HA.out
      clear HA
      simp only [mancipleref20_Units.l0] at H
      by_cases c2 : x4_1 < (l0.length : Int)
      · rw [if_pos c2] at H
        have c2b0 : decide (x4_1 < (l0.length : Int)) = true := decide_eq_true c2
        clear c2
        by_cases c3 : 0 ≤ x4_1
        · rw [if_pos c3] at H
          have c3b0 : decide (0 ≤ x4_1) = true := decide_eq_true c3
          clear c3
          by_cases c4 : ((rd_L1 l0 x4_1).length : Int) = 1
          · rw [if_pos c4] at H
            have c4b0 : (((rd_L1 l0 x4_1).length : Int) == 1) = true := beq_iff_eq.mpr c4
            have c4b1 : (((rd_L1 l0 x4_1).length : Int) != 1) = false := bne_eq_false_iff_eq.mpr c4
            clear c4
            by_cases c5 : 0 < ((rd_L1 l0 x4_1).length : Int)
            · rw [if_pos c5] at H
              have c5b0 : decide (0 < ((rd_L1 l0 x4_1).length : Int)) = true := decide_eq_true c5
              have c5b1 : decide (0 < (rd_L1 l0 x4_1).length) = true := decide_eq_true (by omega)
              clear c5
              by_cases c6 : x3_1.length < 17592186044416
              · rw [if_pos c6] at H
                have LMc6 := Aside0.mk c6
                clear c6
                obtain ⟨y218, hy218⟩ : ∃ y_ : List Int, y_ = (x3_1 ++ [rd (rd_L1 l0 x4_1) 0]) := ⟨_, rfl⟩
                replace H : (mancipleref20_Units.l0 k1 l0 y218 (wrap64 (x4_1 + 1))) = some r := by first | (rw [hy218]; with_reducible exact H) | (have H2_ := (Option.bind_some _ _).symm.trans H; rw [hy218]; with_reducible exact H2_) | (have H2_ := (Option.bind_some _ _).symm.trans H; with_reducible exact H2_) | with_reducible exact H | (rw [hy218]; exact H) | exact H
                have Ny218 := Aside0.mk hy218
                clear hy218
                have H' := Aside0.mk H
                clear H
                have p215 : 0 ≤ (x4_1 : Int) := of_decide_eq_true (by first | (with_reducible assumption) | assumption)
                have q215 : x4_1 < (l0.length : Int) := of_decide_eq_true (by first | (with_reducible assumption) | assumption)
                obtain ⟨ad215, A215_0, c215_0, e215, hx215_0, hl215_0, hi215_0⟩ := at_L1 HR0.out x4_1 p215 q215
                cases e215
                replace hx215_0 := (HB.out.cell (World.block_lt_of_cell? w _ hx215_0)).trans hx215_0
                have HR215_0 := Aside0.mk hi215_0
                have HC215_0 := Aside0.mk hl215_0
                clear hi215_0 hl215_0
                replace p215 := eq_true p215
                replace q215 := eq_true q215
                have p216 : 0 ≤ (x4_1 : Int) := of_decide_eq_true (by first | (with_reducible assumption) | assumption)
                have q216 : x4_1 < (l0.length : Int) := of_decide_eq_true (by first | (with_reducible assumption) | assumption)
                obtain ⟨ad216, A216_0, c216_0, e216, hx216_0, hl216_0, hi216_0⟩ := at_L1 HR0.out x4_1 p216 q216
                obtain rfl : ad215 = ad216 := (by injection e216)
                replace hx216_0 := (HB.out.cell (World.block_lt_of_cell? w _ hx216_0)).trans hx216_0
                have HR216_0 := Aside0.mk hi216_0
                have HC216_0 := Aside0.mk hl216_0
                clear hi216_0 hl216_0
                replace p216 := eq_true p216
                replace q216 := eq_true q216
                have ea_ := Option.some.inj (hx215_0.symm.trans hx216_0)
                injection ea_ with ea_ en_ ec_
                subst ea_
                subst ec_
                clear en_
                have p217 : 0 ≤ (0 : Int) := (by omega)
                have q217 : 0 < ((rd_L1 l0 x4_1).length : Int) := of_decide_eq_true (by first | (with_reducible assumption) | assumption)
                obtain ⟨ad217, e217, hx217_0⟩ := Kd.at_int HR216_0.out 0 p217 q217
                cases e217
                have qi217 : (0 < (rd_L1 l0 x4_1).length) = True := eq_true (by omega)
                (try rw [show ((0 : Int)).toNat = 0 from rfl] at hx217_0)
                (try rw [Addr.add_zero'] at hx217_0)
                replace hx217_0 := (HB.out.cell (World.block_lt_of_cell? w _ hx217_0)).trans hx217_0
                replace p217 := eq_true p217
                replace q217 := eq_true q217
                go_wp2_with (first | ((with_reducible refine gate_builtin (b := .append) (xs := #[.tmp 17, .tmp 24]) rfl ?_); at_builtin; refine Kd.R_append (Kd.int .i64) (w0 := w) w.heap.size rfl (.tmp 17) (.tmp 24) 23 3 (.int .i64 0) 8 rfl Try.underlying23 info3 rfl (by decide) (by omega) u3 x3_1 (rd (rd_L1 l0 x4_1) 0) [.int .i64 (rd (rd_L1 l0 x4_1) 0)] (fun _ => True) (fun _ => False) rfl rfl ?aP (fun _ hk => hk.elim) ?aF ?aO ?aB ?aS ?aL ?_; (case aP => exact rfl); (case aB => exact (by repeat (first | (with_reducible first | exact HB.out | apply below_alloc | apply pw_below_drewN | apply below_drew1) | exact HB.out))); (case aF => exact (fun _ _ => trivial)); (case aO => exact (by (with_reducible repeat (first | apply Kd.R_alloc | apply Kd.R_drewN | apply Kd.R_drew)); exact HO_3.out)); (case aS => exact (below_size (by repeat (first | (with_reducible first | exact HB.out | apply below_alloc | apply pw_below_drewN | apply below_drew1) | exact HB.out)))); (case aL => have := LMc6.out; omega); intro v219 w7 ho hb hg hat; rw [← Ny218.out] at ho; have n0_ := Aside0.mk (hb); have n1_ := Aside0.mk (ho); clear HB; clear HO_3; have HB := n0_; have HO220 := n1_; clear n0_ n1_; clear ho hb hg hat))
                go_roundg k1
                case measure => have := HK1.out; omega
                case rel => exact ⟨(y218), (wrap64 (x4_1 + 1)), (by first | rfl | (simp; done) | (simp [*]; done)), H', ⟨by have := HK1.out; omega⟩, ⟨by (with_reducible repeat (first | apply Kd.R_alloc | apply Kd.R_drewN | apply Kd.R_drew)); exact HO220.out⟩, ⟨by repeat (first | (with_reducible first | exact HB.out | apply below_alloc | apply pw_below_drewN | apply below_drew1) | exact HB.out)⟩⟩
              · rw [if_neg c6] at H
                exact absurd H (by simp)
            · rw [if_neg c5] at H
              exact absurd H (by simp)
          · rw [if_neg c4] at H
            have c4b0 : (((rd_L1 l0 x4_1).length : Int) == 1) = false := beq_eq_false_iff_ne.mpr c4
            have c4b1 : (((rd_L1 l0 x4_1).length : Int) != 1) = true := bne_iff_ne.mpr c4
            have H' := Aside0.mk H
            clear H
            have p215 : 0 ≤ (x4_1 : Int) := of_decide_eq_true (by first | (with_reducible assumption) | assumption)
            have q215 : x4_1 < (l0.length : Int) := of_decide_eq_true (by first | (with_reducible assumption) | assumption)
            obtain ⟨ad215, A215_0, c215_0, e215, hx215_0, hl215_0, hi215_0⟩ := at_L1 HR0.out x4_1 p215 q215
            cases e215
            replace hx215_0 := (HB.out.cell (World.block_lt_of_cell? w _ hx215_0)).trans hx215_0
            have HR215_0 := Aside0.mk hi215_0
            have HC215_0 := Aside0.mk hl215_0
            clear hi215_0 hl215_0
            replace p215 := eq_true p215
            replace q215 := eq_true q215
            go_wp2
            go_roundg k1
            case measure => have := HK1.out; omega
            case rel => exact ⟨(x3_1), (wrap64 (x4_1 + 1)), (by first | rfl | (simp; done) | (simp [*]; done)), H', ⟨by have := HK1.out; omega⟩, ⟨by (with_reducible repeat (first | apply Kd.R_alloc | apply Kd.R_drewN | apply Kd.R_drew)); exact HO_3.out⟩, ⟨by repeat (first | (with_reducible first | exact HB.out | apply below_alloc | apply pw_below_drewN | apply below_drew1) | exact HB.out)⟩⟩
        · rw [if_neg c3] at H
          exact absurd H (by simp)
      · rw [if_neg c2] at H
        have c2b0 : decide (x4_1 < (l0.length : Int)) = false := decide_eq_false c2
        clear c2
        obtain rfl := Option.some.inj H
        go_wp2
        go_ret
        exact ⟨_, by first | rfl | (simp [errW_none, errW_some] <;> rfl) | (simp [*, errW_none, errW_some] <;> rfl), by (with_reducible repeat (first | apply Kd.R_alloc | apply Kd.R_drewN | apply Kd.R_drew)); exact HO_3.out, by repeat (first | (with_reducible first | exact HB.out | apply below_alloc | apply pw_below_drewN | apply below_drew1) | exact HB.out)⟩

/-! ### manciplelaw15_PropAny: function 3 -/
def manciplelaw15_PropAny.j0 : Nat → Int → List (List Int) → List Int → Bool → Option (Bool)
  | 0, _, _, _, _ => none
  | k + 1, x0, x1, x2, x22 => if x22 = true then (some true) else ((manciplelaw13_To.f k x1).bind fun t224 => ((prop_Close.f x0 t224 x2).bind fun bt227 => ((mancipleref20_Close.f k x0 x1 x2).bind fun bt231 => (if (bt227.2 == bt231.2) = true then ((manciplelaw7_Ints.f k bt227.1 bt231.1).bind fun t235 => (if t235 = true then ((manciplelaw13_To.f k x1).bind fun t236 => ((prop_Units.f k t236).bind fun t239 => ((mancipleref20_Units.f k x1).bind fun t242 => ((manciplelaw7_Ints.f k t239 t242).bind fun t245 => (some t245))))) else (none))) else (none)))))
def manciplelaw15_PropAny.f (k : Nat) (a0 : Int) (l1 : List (List Int)) (l2 : List Int) : Option (Bool) := (manciplelaw15_known.f k).bind fun t221 => (if t221 = true then ((manciplelaw15_Small.f k a0 l1 256).bind fun t222 => (if t222 = true then ((manciplelaw15_Lits.f k a0 l2).bind fun t223 => (manciplelaw15_PropAny.j0 k a0 l1 l2 (!t223))) else (manciplelaw15_PropAny.j0 k a0 l1 l2 true))) else (none))
theorem manciplelaw15_PropAny.mono_l : ∀ k, (∀ y0 y1 y2 y3, LeO (manciplelaw15_PropAny.j0 k y0 y1 y2 y3) (manciplelaw15_PropAny.j0 (k + 1) y0 y1 y2 y3))
  | 0 => fun _ _ _ _ r h => by simp [manciplelaw15_PropAny.j0] at h
  | k + 1 => by
    have ih0 := manciplelaw15_PropAny.mono_l k
    · intro y0 y1 y2 y3
      unfold manciplelaw15_PropAny.j0
      repeat' first
      | (with_reducible exact ih0 _ _ _ _)
      | (with_reducible exact manciplelaw13_To.mono _ _)
      | (with_reducible exact manciplelaw15_Lits.mono _ _ _)
      | (with_reducible exact manciplelaw15_Small.mono _ _ _ _)
      | (with_reducible exact manciplelaw15_known.mono _)
      | (with_reducible exact manciplelaw7_Ints.mono _ _ _)
      | (with_reducible exact mancipleref20_Close.mono _ _ _ _)
      | (with_reducible exact mancipleref20_Units.mono _ _)
      | (with_reducible exact prop_Units.mono _ _)
      | (with_reducible exact LeO.refl _)
      | (with_reducible exact LeO.none _)
      | (with_reducible refine LeO.ite ?_ ?_)
      | (with_reducible refine LeO.bind ?_ (fun _ => ?_))
      | exact ih0 _ _ _ _
      | exact manciplelaw13_To.mono _ _
      | exact manciplelaw15_Lits.mono _ _ _
      | exact manciplelaw15_Small.mono _ _ _ _
      | exact manciplelaw15_known.mono _
      | exact manciplelaw7_Ints.mono _ _ _
      | exact mancipleref20_Close.mono _ _ _ _
      | exact mancipleref20_Units.mono _ _
      | exact prop_Units.mono _ _
      | exact LeO.none _
      | refine LeO.ite ?_ ?_
      | refine LeO.bind ?_ (fun _ => ?_)
theorem manciplelaw15_PropAny.mono : ∀ a0 a1 a2 k, LeO (manciplelaw15_PropAny.f k a0 a1 a2) (manciplelaw15_PropAny.f (k + 1) a0 a1 a2) := by
  intro a0 a1 a2 k
  have ih0 := manciplelaw15_PropAny.mono_l k
  unfold manciplelaw15_PropAny.f
  repeat' first
      | (with_reducible exact ih0 _ _ _ _)
      | (with_reducible exact manciplelaw13_To.mono _ _)
      | (with_reducible exact manciplelaw15_Lits.mono _ _ _)
      | (with_reducible exact manciplelaw15_Small.mono _ _ _ _)
      | (with_reducible exact manciplelaw15_known.mono _)
      | (with_reducible exact manciplelaw7_Ints.mono _ _ _)
      | (with_reducible exact mancipleref20_Close.mono _ _ _ _)
      | (with_reducible exact mancipleref20_Units.mono _ _)
      | (with_reducible exact prop_Units.mono _ _)
      | (with_reducible exact LeO.refl _)
      | (with_reducible exact LeO.none _)
      | (with_reducible refine LeO.ite ?_ ?_)
      | (with_reducible refine LeO.bind ?_ (fun _ => ?_))
      | exact ih0 _ _ _ _
      | exact manciplelaw13_To.mono _ _
      | exact manciplelaw15_Lits.mono _ _ _
      | exact manciplelaw15_Small.mono _ _ _ _
      | exact manciplelaw15_known.mono _
      | exact manciplelaw7_Ints.mono _ _ _
      | exact mancipleref20_Close.mono _ _ _ _
      | exact mancipleref20_Units.mono _ _
      | exact prop_Units.mono _ _
      | exact LeO.none _
      | refine LeO.ite ?_ ?_
      | refine LeO.bind ?_ (fun _ => ?_)
set_option maxHeartbeats 8000000 in
set_option maxRecDepth 100000 in
theorem manciplelaw15_PropAny.calls (k : Nat) (a0 : Int) (A1 : Option Addr) (c1 : Nat) (l1 : List (List Int)) (A2 : Option Addr) (c2 : Nat) (l2 : List Int) (r : Bool) (w : World) (hr1 : Kd.C (Kd.slice 3 (Kd.int .i64)) w A1 l1.length l1) (hc1 : l1.length ≤ c1) (hr2 : Kd.C (Kd.int .i64) w A2 l2.length l2) (hc2 : l2.length ≤ c2) (h : manciplelaw15_PropAny.f k a0 l1 l2 = some r) :
    Calls Try.prog 3 #[.int .i64 a0, .slice A1 l1.length c1, .slice A2 l2.length c2] w fun e w' => e = .returned (.bool r) ∧ Below w.heap.size w w' := by
  have HR1 := Aside0.mk hr1
  have HC1 := Aside0.mk hc1
  clear hr1 hc1
  have HR2 := Aside0.mk hr2
  have HC2 := Aside0.mk hc2
  clear hr2 hc2
  have HB := Aside0.mk (Below.refl w.heap.size w)
  have H : ((manciplelaw15_known.f k).bind fun t221 => (if t221 = true then ((manciplelaw15_Small.f k a0 l1 256).bind fun t222 => (if t222 = true then ((manciplelaw15_Lits.f k a0 l2).bind fun t223 => (manciplelaw15_PropAny.j0 k a0 l1 l2 (!t223))) else (manciplelaw15_PropAny.j0 k a0 l1 l2 true))) else (none))) = some r := h
  clear h
  replace H := Option.bind_eq_some_iff.mp H
  obtain ⟨t221, A40, H⟩ := H
  replace H : (if t221 = true then ((manciplelaw15_Small.f k a0 l1 256).bind fun t222 => (if t222 = true then ((manciplelaw15_Lits.f k a0 l2).bind fun t223 => (manciplelaw15_PropAny.j0 k a0 l1 l2 (!t223))) else (manciplelaw15_PropAny.j0 k a0 l1 l2 true))) else (none)) = some r := H
  have A4 := Aside0.mk A40
  clear A40
  by_cases c5 : t221 = true
  · subst c5
    have H1 : ((manciplelaw15_Small.f k a0 l1 256).bind fun t222 => (if t222 = true then ((manciplelaw15_Lits.f k a0 l2).bind fun t223 => (manciplelaw15_PropAny.j0 k a0 l1 l2 (!t223))) else (manciplelaw15_PropAny.j0 k a0 l1 l2 true))) = some r := by rw [if_pos rfl] at H; exact H
    clear H
    have H := H1
    clear H1
    have HC6 := Aside0.mk H
    clear H
    go_enter Try.func3, Try.ntmps3
    go_upto_region 3 with (first | ((with_reducible refine gate_callee (f := 12) rfl ?_); refine goesL_ (some 11) rfl rfl Try.func12 (by kernel_rfl) rfl #[] rfl (by (try simp only [List.map_toArray, List.map_cons, List.map_nil]); first | done | rfl | (simp only [List.length_drop, List.length_take]; rfl)) ?_; (with_reducible refine (manciplelaw15_known.calls k  true _ A4.out).mono ?_); rintro e w7 ⟨rfl, hb⟩; refine ⟨_, rfl, ?_⟩; have n0_ := Aside0.mk (below_step (by repeat (first | (with_reducible first | exact HB.out | apply below_alloc | apply pw_below_drewN | apply below_drew1) | exact HB.out)) hb); clear HB; have HB := n0_; clear n0_; (try clear hb); (try clear hb2); (try clear hk); (try clear hi)))
    (try simp only [Act.put, List.setIfInBounds_toArray, List.set_cons_zero, List.set_cons_succ])
    go_cut [22] (fun v22 wc => ∃ (kq : Nat) (x22_5 : Bool), v22 = .bool x22_5 ∧ Aside0 (manciplelaw15_PropAny.j0 kq a0 l1 l2 x22_5 = some r) ∧ Aside0 (kq ≤ k) ∧ Aside0 (Below w.heap.size w wc))
    case first =>
      have H := HC6.out
      clear HC6
      replace H := Option.bind_eq_some_iff.mp H
      obtain ⟨t222, A80, H⟩ := H
      replace H : (if t222 = true then ((manciplelaw15_Lits.f k a0 l2).bind fun t223 => (manciplelaw15_PropAny.j0 k a0 l1 l2 (!t223))) else (manciplelaw15_PropAny.j0 k a0 l1 l2 true)) = some r := H
      have A8 := Aside0.mk A80
      clear A80
      by_cases c9 : t222 = true
      · subst c9
        have H1 : ((manciplelaw15_Lits.f k a0 l2).bind fun t223 => (manciplelaw15_PropAny.j0 k a0 l1 l2 (!t223))) = some r := by rw [if_pos rfl] at H; exact H
        clear H
        have H := H1
        clear H1
        replace H := Option.bind_eq_some_iff.mp H
        obtain ⟨t223, A100, H⟩ := H
        replace H : (manciplelaw15_PropAny.j0 k a0 l1 l2 (!t223)) = some r := H
        have A10 := Aside0.mk A100
        clear A100
        have H' := Aside0.mk H
        clear H
        go_wp2_with (first | ((with_reducible refine gate_callee (f := 13) rfl ?_); refine goesL_ (some 15) rfl rfl Try.func13 (by kernel_rfl) rfl #[.int .i64 a0, .slice A1 l1.length c1, .int .i64 256] rfl (by (try simp only [List.map_toArray, List.map_cons, List.map_nil]); first | done | rfl | (simp only [List.length_drop, List.length_take]; rfl)) ?_; (with_reducible refine (manciplelaw15_Small.calls k a0 _ _ l1 256 true _ ?side1 ?side2 A8.out).mono ?_); (case side1 => repeat (first | exact (Kd.C_below HR1.out HB.out) | (with_reducible refine Kd.C_alloc ?_ _) | (with_reducible refine Kd.C_drewN ?_ _) | (with_reducible refine Kd.C_drew ?_))); (case side2 => exact HC1.out); rintro e w' ⟨rfl, ⟨nd, rfl⟩⟩; refine ⟨_, rfl, ?_⟩) | (go_at_call 14; (with_reducible refine (manciplelaw15_Lits.calls k a0 _ _ l2 t223 _ ?side1 ?side2 A10.out).mono ?_); (case side1 => repeat (first | exact (Kd.C_below HR2.out (by repeat (first | (with_reducible first | exact HB.out | apply below_alloc | apply pw_below_drewN | apply below_drew1) | exact HB.out))) | (with_reducible refine Kd.C_alloc ?_ _) | (with_reducible refine Kd.C_drewN ?_ _) | (with_reducible refine Kd.C_drew ?_))); (case side2 => exact HC2.out); rintro e w' ⟨rfl, ⟨nd, rfl⟩⟩))
        go_meet
        case rel => exact ⟨_, (!t223), (by first | rfl | (simp; done) | (simp [*]; done)), H', ⟨by first | omega | exact Nat.le_refl _⟩, ⟨by repeat (first | (with_reducible first | exact HB.out | apply below_alloc | apply pw_below_drewN | apply below_drew1) | exact HB.out)⟩⟩
      · replace c9 := Bool.eq_false_iff.mpr c9
        subst c9
        have H1 : (manciplelaw15_PropAny.j0 k a0 l1 l2 true) = some r := by rw [if_neg (show ¬ (false = true) by decide)] at H; exact H
        clear H
        have H := H1
        clear H1
        have H' := Aside0.mk H
        clear H
        go_wp2_with (first | ((with_reducible refine gate_callee (f := 13) rfl ?_); refine goesL_ (some 15) rfl rfl Try.func13 (by kernel_rfl) rfl #[.int .i64 a0, .slice A1 l1.length c1, .int .i64 256] rfl (by (try simp only [List.map_toArray, List.map_cons, List.map_nil]); first | done | rfl | (simp only [List.length_drop, List.length_take]; rfl)) ?_; (with_reducible refine (manciplelaw15_Small.calls k a0 _ _ l1 256 false _ ?side1 ?side2 A8.out).mono ?_); (case side1 => repeat (first | exact (Kd.C_below HR1.out HB.out) | (with_reducible refine Kd.C_alloc ?_ _) | (with_reducible refine Kd.C_drewN ?_ _) | (with_reducible refine Kd.C_drew ?_))); (case side2 => exact HC1.out); rintro e w' ⟨rfl, ⟨nd, rfl⟩⟩; refine ⟨_, rfl, ?_⟩))
        go_meet
        case rel => exact ⟨_, (true), (by first | rfl | (simp; done) | (simp [*]; done)), H', ⟨by first | omega | exact Nat.le_refl _⟩, ⟨by repeat (first | (with_reducible first | exact HB.out | apply below_alloc | apply pw_below_drewN | apply below_drew1) | exact HB.out)⟩⟩
    case rest =>
      clear HC6
      try clear c1
      try clear c2
      try clear p2
      try clear c3
      try clear c5
      try clear c9
      obtain ⟨kq, x22_5, rfl, HA, HJ5, HB⟩ := hcut
      cases kq with
      | zero => exact absurd HA.out (by simp [manciplelaw15_PropAny.j0])
      | succ kj5 =>
        have H := HA.out
        clear HA
        simp only [manciplelaw15_PropAny.j0] at H
        by_cases c11 : x22_5 = true
        · subst c11
          have H1 : (some true) = some r := by rw [if_pos rfl] at H; exact H
          clear H
          have H := H1
          clear H1
          obtain rfl := Option.some.inj H
          go_wp2
          go_ret
          exact ⟨by first | rfl | (simp [errW_none, errW_some] <;> rfl) | (simp [*, errW_none, errW_some] <;> rfl), by repeat (first | (with_reducible first | exact HB.out | apply below_alloc | apply pw_below_drewN | apply below_drew1) | exact HB.out)⟩
        · replace c11 := Bool.eq_false_iff.mpr c11
          subst c11
          have H1 : ((manciplelaw13_To.f kj5 l1).bind fun t224 => ((prop_Close.f a0 t224 l2).bind fun bt227 => ((mancipleref20_Close.f kj5 a0 l1 l2).bind fun bt231 => (if (bt227.2 == bt231.2) = true then ((manciplelaw7_Ints.f kj5 bt227.1 bt231.1).bind fun t235 => (if t235 = true then ((manciplelaw13_To.f kj5 l1).bind fun t236 => ((prop_Units.f kj5 t236).bind fun t239 => ((mancipleref20_Units.f kj5 l1).bind fun t242 => ((manciplelaw7_Ints.f kj5 t239 t242).bind fun t245 => (some t245))))) else (none))) else (none))))) = some r := by rw [if_neg (show ¬ (false = true) by decide)] at H; exact H
          clear H
          have H := H1
          clear H1
          replace H := Option.bind_eq_some_iff.mp H
          obtain ⟨t224, A120, H⟩ := H
          replace H : ((prop_Close.f a0 t224 l2).bind fun bt227 => ((mancipleref20_Close.f kj5 a0 l1 l2).bind fun bt231 => (if (bt227.2 == bt231.2) = true then ((manciplelaw7_Ints.f kj5 bt227.1 bt231.1).bind fun t235 => (if t235 = true then ((manciplelaw13_To.f kj5 l1).bind fun t236 => ((prop_Units.f kj5 t236).bind fun t239 => ((mancipleref20_Units.f kj5 l1).bind fun t242 => ((manciplelaw7_Ints.f kj5 t239 t242).bind fun t245 => (some t245))))) else (none))) else (none)))) = some r := H
          have A12 := Aside0.mk A120
          clear A120
          replace H := Option.bind_eq_some_iff.mp H
          obtain ⟨⟨t227, t228⟩, A130, H⟩ := H
          replace H : ((mancipleref20_Close.f kj5 a0 l1 l2).bind fun bt231 => (if (t228 == bt231.2) = true then ((manciplelaw7_Ints.f kj5 t227 bt231.1).bind fun t235 => (if t235 = true then ((manciplelaw13_To.f kj5 l1).bind fun t236 => ((prop_Units.f kj5 t236).bind fun t239 => ((mancipleref20_Units.f kj5 l1).bind fun t242 => ((manciplelaw7_Ints.f kj5 t239 t242).bind fun t245 => (some t245))))) else (none))) else (none))) = some r := H
          have A13 := Aside0.mk A130
          clear A130
          replace H := Option.bind_eq_some_iff.mp H
          obtain ⟨⟨t231, t232⟩, A140, H⟩ := H
          replace H : (if (t228 == t232) = true then ((manciplelaw7_Ints.f kj5 t227 t231).bind fun t235 => (if t235 = true then ((manciplelaw13_To.f kj5 l1).bind fun t236 => ((prop_Units.f kj5 t236).bind fun t239 => ((mancipleref20_Units.f kj5 l1).bind fun t242 => ((manciplelaw7_Ints.f kj5 t239 t242).bind fun t245 => (some t245))))) else (none))) else (none)) = some r := H
          have A14 := Aside0.mk A140
          clear A140
          by_cases c15 : (t228 == t232) = true
          · rw [if_pos c15] at H
            have c15b0 : (t228 == t232) = true := c15
            (try (have c15b1 : decide (t228 = t232) = true := by simpa using c15))
            (try (have c15b2 : (t228 == t232) = true := by simpa using c15))
            clear c15
            replace H := Option.bind_eq_some_iff.mp H
            obtain ⟨t235, A160, H⟩ := H
            replace H : (if t235 = true then ((manciplelaw13_To.f kj5 l1).bind fun t236 => ((prop_Units.f kj5 t236).bind fun t239 => ((mancipleref20_Units.f kj5 l1).bind fun t242 => ((manciplelaw7_Ints.f kj5 t239 t242).bind fun t245 => (some t245))))) else (none)) = some r := H
            have A16 := Aside0.mk A160
            clear A160
            by_cases c17 : t235 = true
            · subst c17
              have H1 : ((manciplelaw13_To.f kj5 l1).bind fun t236 => ((prop_Units.f kj5 t236).bind fun t239 => ((mancipleref20_Units.f kj5 l1).bind fun t242 => ((manciplelaw7_Ints.f kj5 t239 t242).bind fun t245 => (some t245))))) = some r := by rw [if_pos rfl] at H; exact H
              clear H
              have H := H1
              clear H1
              replace H := Option.bind_eq_some_iff.mp H
              obtain ⟨t236, A180, H⟩ := H
              replace H : ((prop_Units.f kj5 t236).bind fun t239 => ((mancipleref20_Units.f kj5 l1).bind fun t242 => ((manciplelaw7_Ints.f kj5 t239 t242).bind fun t245 => (some t245)))) = some r := H
              have A18 := Aside0.mk A180
              clear A180
              replace H := Option.bind_eq_some_iff.mp H
              obtain ⟨t239, A190, H⟩ := H
              replace H : ((mancipleref20_Units.f kj5 l1).bind fun t242 => ((manciplelaw7_Ints.f kj5 t239 t242).bind fun t245 => (some t245))) = some r := H
              have A19 := Aside0.mk A190
              clear A190
              replace H := Option.bind_eq_some_iff.mp H
              obtain ⟨t242, A200, H⟩ := H
              replace H : ((manciplelaw7_Ints.f kj5 t239 t242).bind fun t245 => (some t245)) = some r := H
              have A20 := Aside0.mk A200
              clear A200
              replace H := Option.bind_eq_some_iff.mp H
              obtain ⟨t245, A210, H⟩ := H
              replace H : (some t245) = some r := H
              have A21 := Aside0.mk A210
              clear A210
              obtain rfl := Option.some.inj H
              go_wp2_with (first | ((with_reducible refine gate_callee (f := 16) rfl ?_); refine goesL_ (some 26) rfl rfl Try.func16 (by kernel_rfl) rfl #[.slice A1 l1.length c1] rfl (by (try simp only [List.map_toArray, List.map_cons, List.map_nil]); first | done | rfl | (simp only [List.length_drop, List.length_take]; rfl)) ?_; (with_reducible refine (manciplelaw13_To.calls kj5 _ _ l1 t224 _ ?side1 ?side2 A12.out).mono ?_); (case side1 => repeat (first | exact (Kd.C_below HR1.out HB.out) | (with_reducible refine Kd.C_alloc ?_ _) | (with_reducible refine Kd.C_drewN ?_ _) | (with_reducible refine Kd.C_drew ?_))); (case side2 => exact HC1.out); rintro e w22 ⟨v225, rfl, ho0, hb⟩; refine ⟨_, rfl, ?_⟩; have n0_ := Aside0.mk (Kd.S_lower ho0 (below_size (by repeat (first | (with_reducible first | exact HB.out | apply below_alloc | apply pw_below_drewN | apply below_drew1) | exact HB.out)))); have n1_ := Aside0.mk (below_step (by repeat (first | (with_reducible first | exact HB.out | apply below_alloc | apply pw_below_drewN | apply below_drew1) | exact HB.out)) hb); clear HB; have HO226 := n0_; have HB := n1_; clear n0_ n1_; (try clear hb); (try clear hb2); (try clear hk); (try clear hi); (try clear ho0); obtain ⟨Ao23, co23, eo23⟩ := Kd.S_slice HO226.out; subst eo23) | ((with_reducible refine gate_callee (f := 15) rfl ?_); refine goesL_ (some 28) rfl rfl Try.func15 (by kernel_rfl) rfl #[.int .i64 a0, .slice Ao23 t224.length co23, .slice A2 l2.length c2] rfl (by (try simp only [List.map_toArray, List.map_cons, List.map_nil]); first | done | rfl | (simp only [List.length_drop, List.length_take]; rfl)) ?_; (with_reducible refine (prop_Close.calls a0 _ _ t224 _ _ l2 t227 t228 _ ?side1 ?side2 ?side3 ?side4 A13.out).mono ?_); (case side1 => repeat (first | exact (Kd.S_reads' HO226.out).2.2 | (with_reducible refine Kd.C_alloc ?_ _) | (with_reducible refine Kd.C_drewN ?_ _) | (with_reducible refine Kd.C_drew ?_))); (case side2 => exact (Kd.S_reads' HO226.out).2.1); (case side3 => repeat (first | exact (Kd.C_below HR2.out HB.out) | (with_reducible refine Kd.C_alloc ?_ _) | (with_reducible refine Kd.C_drewN ?_ _) | (with_reducible refine Kd.C_drew ?_))); (case side4 => exact HC2.out); rintro e w24 ⟨v229, rfl, ho0, hb⟩; refine ⟨_, rfl, ?_⟩; have n0_ := Aside0.mk (Kd.S_elder' (by (with_reducible repeat (first | apply Kd.S_alloc | apply Kd.S_drewN | apply Kd.S_drew)); exact HO226.out) (Kd.R_base ho0) hb); have n1_ := Aside0.mk (Kd.R_lower ho0 (below_size (by repeat (first | (with_reducible first | exact HB.out | apply below_alloc | apply pw_below_drewN | apply below_drew1) | exact HB.out)))); have n2_ := Aside0.mk (below_step (by repeat (first | (with_reducible first | exact HB.out | apply below_alloc | apply pw_below_drewN | apply below_drew1) | exact HB.out)) hb); clear HO226; clear HB; have HO226 := n0_; have HO230 := n1_; have HB := n2_; clear n0_ n1_ n2_; (try clear hb); (try clear hb2); (try clear hk); (try clear hi); (try clear ho0)) | ((with_reducible refine gate_callee (f := 17) rfl ?_); refine goesL_ (some 35) rfl rfl Try.func17 (by kernel_rfl) rfl #[.int .i64 a0, .slice A1 l1.length c1, .slice A2 l2.length c2] rfl (by (try simp only [List.map_toArray, List.map_cons, List.map_nil]); first | done | rfl | (simp only [List.length_drop, List.length_take]; rfl)) ?_; (with_reducible refine (mancipleref20_Close.calls kj5 a0 _ _ l1 _ _ l2 t231 t232 _ ?side1 ?side2 ?side3 ?side4 A14.out).mono ?_); (case side1 => repeat (first | exact (Kd.C_below HR1.out HB.out) | (with_reducible refine Kd.C_alloc ?_ _) | (with_reducible refine Kd.C_drewN ?_ _) | (with_reducible refine Kd.C_drew ?_))); (case side2 => exact HC1.out); (case side3 => repeat (first | exact (Kd.C_below HR2.out HB.out) | (with_reducible refine Kd.C_alloc ?_ _) | (with_reducible refine Kd.C_drewN ?_ _) | (with_reducible refine Kd.C_drew ?_))); (case side4 => exact HC2.out); rintro e w25 ⟨v233, rfl, ho0, hb⟩; refine ⟨_, rfl, ?_⟩; have n0_ := Aside0.mk (Kd.S_elder' (by (with_reducible repeat (first | apply Kd.S_alloc | apply Kd.S_drewN | apply Kd.S_drew)); exact HO226.out) (Kd.R_base ho0) hb); have n1_ := Aside0.mk (Kd.R_elder' (by (with_reducible repeat (first | apply Kd.R_alloc | apply Kd.R_drewN | apply Kd.R_drew)); exact HO230.out) (Kd.R_base ho0) hb); have n2_ := Aside0.mk (Kd.R_lower (Kd.R_new' ho0 (Kd.R_lt (by (with_reducible repeat (first | apply Kd.R_alloc | apply Kd.R_drewN | apply Kd.R_drew)); exact HO230.out))) (below_size (by repeat (first | (with_reducible first | exact HB.out | apply below_alloc | apply pw_below_drewN | apply below_drew1) | exact HB.out)))); have n3_ := Aside0.mk (below_step (by repeat (first | (with_reducible first | exact HB.out | apply below_alloc | apply pw_below_drewN | apply below_drew1) | exact HB.out)) hb); clear HO226; clear HO230; clear HB; have HO226 := n0_; have HO230 := n1_; have HO234 := n2_; have HB := n3_; clear n0_ n1_ n2_ n3_; (try clear hb); (try clear hb2); (try clear hk); (try clear hi); (try clear ho0); obtain ⟨Ao26, co26, eo26⟩ := Kd.R_slice HO230.out; subst eo26; obtain ⟨Ao27, co27, eo27⟩ := Kd.R_slice HO234.out; subst eo27) | (go_at_call 18; (with_reducible refine (manciplelaw7_Ints.calls kj5 _ _ t227 _ _ t231 true _ ?side1 ?side2 ?side3 ?side4 A16.out).mono ?_); (case side1 => repeat (first | exact (Kd.R_reads' HO230.out).2.2 | (with_reducible refine Kd.C_alloc ?_ _) | (with_reducible refine Kd.C_drewN ?_ _) | (with_reducible refine Kd.C_drew ?_))); (case side2 => exact (Kd.R_reads' HO230.out).2.1); (case side3 => repeat (first | exact (Kd.R_reads' HO234.out).2.2 | (with_reducible refine Kd.C_alloc ?_ _) | (with_reducible refine Kd.C_drewN ?_ _) | (with_reducible refine Kd.C_drew ?_))); (case side4 => exact (Kd.R_reads' HO234.out).2.1); rintro e w' ⟨rfl, ⟨nd, rfl⟩⟩) | (go_at_call 16; (with_reducible refine (manciplelaw13_To.calls kj5 _ _ l1 t236 _ ?side1 ?side2 A18.out).mono ?_); (case side1 => repeat (first | exact (Kd.C_below HR1.out (by repeat (first | (with_reducible first | exact HB.out | apply below_alloc | apply pw_below_drewN | apply below_drew1) | exact HB.out))) | (with_reducible refine Kd.C_alloc ?_ _) | (with_reducible refine Kd.C_drewN ?_ _) | (with_reducible refine Kd.C_drew ?_))); (case side2 => exact HC1.out); rintro e w28 ⟨v237, rfl, ho0, hb⟩; have n0_ := Aside0.mk (Kd.S_elder' (by (with_reducible repeat (first | apply Kd.S_alloc | apply Kd.S_drewN | apply Kd.S_drew)); exact HO226.out) (Kd.S_base ho0) hb); have n1_ := Aside0.mk (Kd.R_below (by (with_reducible repeat (first | apply Kd.R_alloc | apply Kd.R_drewN | apply Kd.R_drew)); exact HO230.out) hb); have n2_ := Aside0.mk (Kd.R_below (by (with_reducible repeat (first | apply Kd.R_alloc | apply Kd.R_drewN | apply Kd.R_drew)); exact HO234.out) hb); have n3_ := Aside0.mk (Kd.S_lower (Kd.S_new' (Kd.S_new' (Kd.S_new' ho0 (Kd.S_lt (by (with_reducible repeat (first | apply Kd.S_alloc | apply Kd.S_drewN | apply Kd.S_drew)); exact HO226.out))) (Kd.R_lt (by (with_reducible repeat (first | apply Kd.R_alloc | apply Kd.R_drewN | apply Kd.R_drew)); exact HO230.out))) (Kd.R_lt (by (with_reducible repeat (first | apply Kd.R_alloc | apply Kd.R_drewN | apply Kd.R_drew)); exact HO234.out))) (below_size (by repeat (first | (with_reducible first | exact HB.out | apply below_alloc | apply pw_below_drewN | apply below_drew1) | exact HB.out)))); have n4_ := Aside0.mk (below_step (by repeat (first | (with_reducible first | exact HB.out | apply below_alloc | apply pw_below_drewN | apply below_drew1) | exact HB.out)) hb); clear HO226; clear HO230; clear HO234; clear HB; have HO226 := n0_; have HO230 := n1_; have HO234 := n2_; have HO238 := n3_; have HB := n4_; clear n0_ n1_ n2_ n3_ n4_; (try clear hb); (try clear hb2); (try clear hk); (try clear hi); (try clear ho0); obtain ⟨Ao29, co29, eo29⟩ := Kd.S_slice HO238.out; subst eo29) | (go_at_call 19; (with_reducible refine (prop_Units.calls kj5 _ _ t236 t239 _ ?side1 ?side2 A19.out).mono ?_); (case side1 => repeat (first | exact (Kd.S_reads' HO238.out).2.2 | (with_reducible refine Kd.C_alloc ?_ _) | (with_reducible refine Kd.C_drewN ?_ _) | (with_reducible refine Kd.C_drew ?_))); (case side2 => exact (Kd.S_reads' HO238.out).2.1); rintro e w30 ⟨v240, rfl, ho0, hb⟩; have n0_ := Aside0.mk (Kd.S_elder' (by (with_reducible repeat (first | apply Kd.S_alloc | apply Kd.S_drewN | apply Kd.S_drew)); exact HO226.out) (Kd.R_base ho0) hb); have n1_ := Aside0.mk (Kd.R_elder' (by (with_reducible repeat (first | apply Kd.R_alloc | apply Kd.R_drewN | apply Kd.R_drew)); exact HO230.out) (Kd.R_base ho0) hb); have n2_ := Aside0.mk (Kd.R_elder' (by (with_reducible repeat (first | apply Kd.R_alloc | apply Kd.R_drewN | apply Kd.R_drew)); exact HO234.out) (Kd.R_base ho0) hb); have n3_ := Aside0.mk (Kd.S_elder' (by (with_reducible repeat (first | apply Kd.S_alloc | apply Kd.S_drewN | apply Kd.S_drew)); exact HO238.out) (Kd.R_base ho0) hb); have n4_ := Aside0.mk (Kd.R_lower (Kd.R_new' (Kd.R_new' ho0 (Kd.R_lt (by (with_reducible repeat (first | apply Kd.R_alloc | apply Kd.R_drewN | apply Kd.R_drew)); exact HO230.out))) (Kd.R_lt (by (with_reducible repeat (first | apply Kd.R_alloc | apply Kd.R_drewN | apply Kd.R_drew)); exact HO234.out))) (below_size (by repeat (first | (with_reducible first | exact HB.out | apply below_alloc | apply pw_below_drewN | apply below_drew1) | exact HB.out)))); have n5_ := Aside0.mk (below_step (by repeat (first | (with_reducible first | exact HB.out | apply below_alloc | apply pw_below_drewN | apply below_drew1) | exact HB.out)) hb); clear HO226; clear HO230; clear HO234; clear HO238; clear HB; have HO226 := n0_; have HO230 := n1_; have HO234 := n2_; have HO238 := n3_; have HO241 := n4_; have HB := n5_; clear n0_ n1_ n2_ n3_ n4_ n5_; (try clear hb); (try clear hb2); (try clear hk); (try clear hi); (try clear ho0)) | (go_at_call 20; (with_reducible refine (mancipleref20_Units.calls kj5 _ _ l1 t242 _ ?side1 ?side2 A20.out).mono ?_); (case side1 => repeat (first | exact (Kd.C_below HR1.out HB.out) | (with_reducible refine Kd.C_alloc ?_ _) | (with_reducible refine Kd.C_drewN ?_ _) | (with_reducible refine Kd.C_drew ?_))); (case side2 => exact HC1.out); rintro e w31 ⟨v243, rfl, ho0, hb⟩; have n0_ := Aside0.mk (Kd.S_elder' (by (with_reducible repeat (first | apply Kd.S_alloc | apply Kd.S_drewN | apply Kd.S_drew)); exact HO226.out) (Kd.R_base ho0) hb); have n1_ := Aside0.mk (Kd.R_elder' (by (with_reducible repeat (first | apply Kd.R_alloc | apply Kd.R_drewN | apply Kd.R_drew)); exact HO230.out) (Kd.R_base ho0) hb); have n2_ := Aside0.mk (Kd.R_elder' (by (with_reducible repeat (first | apply Kd.R_alloc | apply Kd.R_drewN | apply Kd.R_drew)); exact HO234.out) (Kd.R_base ho0) hb); have n3_ := Aside0.mk (Kd.S_elder' (by (with_reducible repeat (first | apply Kd.S_alloc | apply Kd.S_drewN | apply Kd.S_drew)); exact HO238.out) (Kd.R_base ho0) hb); have n4_ := Aside0.mk (Kd.R_elder' (by (with_reducible repeat (first | apply Kd.R_alloc | apply Kd.R_drewN | apply Kd.R_drew)); exact HO241.out) (Kd.R_base ho0) hb); have n5_ := Aside0.mk (Kd.R_lower (Kd.R_new' (Kd.R_new' (Kd.R_new' ho0 (Kd.R_lt (by (with_reducible repeat (first | apply Kd.R_alloc | apply Kd.R_drewN | apply Kd.R_drew)); exact HO230.out))) (Kd.R_lt (by (with_reducible repeat (first | apply Kd.R_alloc | apply Kd.R_drewN | apply Kd.R_drew)); exact HO234.out))) (Kd.R_lt (by (with_reducible repeat (first | apply Kd.R_alloc | apply Kd.R_drewN | apply Kd.R_drew)); exact HO241.out))) (below_size (by repeat (first | (with_reducible first | exact HB.out | apply below_alloc | apply pw_below_drewN | apply below_drew1) | exact HB.out)))); have n6_ := Aside0.mk (below_step (by repeat (first | (with_reducible first | exact HB.out | apply below_alloc | apply pw_below_drewN | apply below_drew1) | exact HB.out)) hb); clear HO226; clear HO230; clear HO234; clear HO238; clear HO241; clear HB; have HO226 := n0_; have HO230 := n1_; have HO234 := n2_; have HO238 := n3_; have HO241 := n4_; have HO244 := n5_; have HB := n6_; clear n0_ n1_ n2_ n3_ n4_ n5_ n6_; (try clear hb); (try clear hb2); (try clear hk); (try clear hi); (try clear ho0); obtain ⟨Ao32, co32, eo32⟩ := Kd.R_slice HO241.out; subst eo32; obtain ⟨Ao33, co33, eo33⟩ := Kd.R_slice HO244.out; subst eo33) | (go_at_call 18; (with_reducible refine (manciplelaw7_Ints.calls kj5 _ _ t239 _ _ t242 t245 _ ?side1 ?side2 ?side3 ?side4 A21.out).mono ?_); (case side1 => repeat (first | exact (Kd.R_reads' HO241.out).2.2 | (with_reducible refine Kd.C_alloc ?_ _) | (with_reducible refine Kd.C_drewN ?_ _) | (with_reducible refine Kd.C_drew ?_))); (case side2 => exact (Kd.R_reads' HO241.out).2.1); (case side3 => repeat (first | exact (Kd.R_reads' HO244.out).2.2 | (with_reducible refine Kd.C_alloc ?_ _) | (with_reducible refine Kd.C_drewN ?_ _) | (with_reducible refine Kd.C_drew ?_))); (case side4 => exact (Kd.R_reads' HO244.out).2.1); rintro e w' ⟨rfl, ⟨nd, rfl⟩⟩))
              go_ret
              exact ⟨by first | rfl | (simp [errW_none, errW_some] <;> rfl) | (simp [*, errW_none, errW_some] <;> rfl), by repeat (first | (with_reducible first | exact HB.out | apply below_alloc | apply pw_below_drewN | apply below_drew1) | exact HB.out)⟩
            · replace c17 := Bool.eq_false_iff.mpr c17
              subst c17
              have H1 : (none) = some r := by rw [if_neg (show ¬ (false = true) by decide)] at H; exact H
              clear H
              have H := H1
              clear H1
              exact absurd H (by simp)
          · rw [if_neg c15] at H
            exact absurd H (by simp)
  · replace c5 := Bool.eq_false_iff.mpr c5
    subst c5
    have H1 : (none) = some r := by rw [if_neg (show ¬ (false = true) by decide)] at H; exact H
    clear H
    have H := H1
    clear H1
    exact absurd H (by simp)

/-! ### manciplelaw15_PropChains: function 5 -/
mutual
def manciplelaw15_PropChains.l0 : Nat → Int → Int → Int → List (List Int) → Int → Option (Bool)
  | 0, _, _, _, _, _ => none
  | k + 1, x1, x2, x7, x8, x9 => if (wrap64 (x9 + 1)) < x7 then (if (wrap64 (x7 - 1)) = 0 then (none) else (if x8.length < 5864062014805 then (manciplelaw15_PropChains.l0 k x1 x2 x7 (x8 ++ [(([wrap64 (-(wrap64 ((Int.tmod (wrap64 (x9 + (wrap64 (x1)))) (wrap64 (x7 - 1))) + 1))), wrap64 ((Int.tmod (wrap64 (x9 + (wrap64 (x1)))) (wrap64 (x7 - 1))) + 2)] : List Int))]) (wrap64 (x9 + 1))) else (none))) else (if x7 = 0 then (none) else ((prop_Close.f x7 x8 (([wrap64 (1 + (Int.tmod (wrap64 (x2)) x7))] : List Int))).bind fun bt256 => (if bt256.2 = true then (manciplelaw15_PropChains.j1 k x7 x8 (wrap64 (1 + (Int.tmod (wrap64 (x2)) x7))) bt256.1 true) else (manciplelaw15_PropChains.j1 k x7 x8 (wrap64 (1 + (Int.tmod (wrap64 (x2)) x7))) bt256.1 ((bt256.1.length : Int) != (wrap64 ((wrap64 (x7 - (wrap64 (1 + (Int.tmod (wrap64 (x2)) x7))))) + 1)))))))
def manciplelaw15_PropChains.j1 : Nat → Int → List (List Int) → Int → List Int → Bool → Option (Bool)
  | 0, _, _, _, _, _ => none
  | k + 1, x7, x8, x11, x12, x69 => if x69 = true then (none) else (manciplelaw15_PropChains.l1 k x7 x8 x11 x12 0)
def manciplelaw15_PropChains.l1 : Nat → Int → List (List Int) → Int → List Int → Int → Option (Bool)
  | 0, _, _, _, _, _ => none
  | k + 1, x7, x8, x11, x12, x14 => if x14 < (x12.length : Int) then (if 0 ≤ x14 then (if (rd x12 x14) = (wrap64 (x11 + x14)) then (manciplelaw15_PropChains.l1 k x7 x8 x11 x12 (wrap64 (x14 + 1))) else (none)) else (none)) else ((some (([] : List (List Int)) : List (List Int))).bind fun y261 => (if y261.length + x8.length < 5864062014805 then ((some (y261 ++ x8 : List (List Int))).bind fun y264 => (if y264.length < 5864062014805 then ((prop_Close.f x7 (y264 ++ [(([wrap64 (-x7)] : List Int))]) (([x11] : List Int))).bind fun bt276 => ((prop_Close.f x7 x8 (([wrap64 (-x7)] : List Int))).bind fun bt283 => (if bt276.2 = true then (if (bt276.1.length : Int) = 0 then (if bt283.2 = true then (none) else (if (bt283.1.length : Int) = x7 then (if 0 < (bt283.1.length : Int) then (some ((rd bt283.1 0) == (-1))) else (none)) else (none))) else (none)) else (none)))) else (none))) else (none)))
end
def manciplelaw15_PropChains.f (k : Nat) (a0 : Int) (a1 : Int) (a2 : Int) : Option (Bool) := (manciplelaw15_known.f k).bind fun t246 => (if t246 = true then (manciplelaw15_PropChains.l0 k a1 a2 (wrap64 (2 + (wrap64 (Int.tmod a0 200)))) ([] : List (List Int)) 0) else (none))
theorem manciplelaw15_PropChains.mono_l : ∀ k, (∀ y0 y1 y2 y3 y4, LeO (manciplelaw15_PropChains.l0 k y0 y1 y2 y3 y4) (manciplelaw15_PropChains.l0 (k + 1) y0 y1 y2 y3 y4)) ∧ (∀ y0 y1 y2 y3 y4, LeO (manciplelaw15_PropChains.j1 k y0 y1 y2 y3 y4) (manciplelaw15_PropChains.j1 (k + 1) y0 y1 y2 y3 y4)) ∧ (∀ y0 y1 y2 y3 y4, LeO (manciplelaw15_PropChains.l1 k y0 y1 y2 y3 y4) (manciplelaw15_PropChains.l1 (k + 1) y0 y1 y2 y3 y4))
  | 0 => ⟨fun _ _ _ _ _ r h => by simp [manciplelaw15_PropChains.l0] at h, fun _ _ _ _ _ r h => by simp [manciplelaw15_PropChains.j1] at h, fun _ _ _ _ _ r h => by simp [manciplelaw15_PropChains.l1] at h⟩
  | k + 1 => by
    obtain ⟨ih0, ih1, ih2⟩ := manciplelaw15_PropChains.mono_l k
    refine ⟨?_, ?_, ?_⟩
    · intro y0 y1 y2 y3 y4
      unfold manciplelaw15_PropChains.l0
      repeat' first
      | (with_reducible exact ih0 _ _ _ _ _)
      | (with_reducible exact ih1 _ _ _ _ _)
      | (with_reducible exact ih2 _ _ _ _ _)
      | (with_reducible exact manciplelaw15_known.mono _)
      | (with_reducible exact LeO.refl _)
      | (with_reducible exact LeO.none _)
      | (with_reducible refine LeO.ite ?_ ?_)
      | (with_reducible refine LeO.bind ?_ (fun _ => ?_))
      | exact ih0 _ _ _ _ _
      | exact ih1 _ _ _ _ _
      | exact ih2 _ _ _ _ _
      | exact manciplelaw15_known.mono _
      | exact LeO.none _
      | refine LeO.ite ?_ ?_
      | refine LeO.bind ?_ (fun _ => ?_)
    · intro y0 y1 y2 y3 y4
      unfold manciplelaw15_PropChains.j1
      repeat' first
      | (with_reducible exact ih0 _ _ _ _ _)
      | (with_reducible exact ih1 _ _ _ _ _)
      | (with_reducible exact ih2 _ _ _ _ _)
      | (with_reducible exact manciplelaw15_known.mono _)
      | (with_reducible exact LeO.refl _)
      | (with_reducible exact LeO.none _)
      | (with_reducible refine LeO.ite ?_ ?_)
      | (with_reducible refine LeO.bind ?_ (fun _ => ?_))
      | exact ih0 _ _ _ _ _
      | exact ih1 _ _ _ _ _
      | exact ih2 _ _ _ _ _
      | exact manciplelaw15_known.mono _
      | exact LeO.none _
      | refine LeO.ite ?_ ?_
      | refine LeO.bind ?_ (fun _ => ?_)
    · intro y0 y1 y2 y3 y4
      unfold manciplelaw15_PropChains.l1
      repeat' first
      | (with_reducible exact ih0 _ _ _ _ _)
      | (with_reducible exact ih1 _ _ _ _ _)
      | (with_reducible exact ih2 _ _ _ _ _)
      | (with_reducible exact manciplelaw15_known.mono _)
      | (with_reducible exact LeO.refl _)
      | (with_reducible exact LeO.none _)
      | (with_reducible refine LeO.ite ?_ ?_)
      | (with_reducible refine LeO.bind ?_ (fun _ => ?_))
      | exact ih0 _ _ _ _ _
      | exact ih1 _ _ _ _ _
      | exact ih2 _ _ _ _ _
      | exact manciplelaw15_known.mono _
      | exact LeO.none _
      | refine LeO.ite ?_ ?_
      | refine LeO.bind ?_ (fun _ => ?_)
theorem manciplelaw15_PropChains.mono : ∀ a0 a1 a2 k, LeO (manciplelaw15_PropChains.f k a0 a1 a2) (manciplelaw15_PropChains.f (k + 1) a0 a1 a2) := by
  intro a0 a1 a2 k
  obtain ⟨ih0, ih1, ih2⟩ := manciplelaw15_PropChains.mono_l k
  unfold manciplelaw15_PropChains.f
  repeat' first
      | (with_reducible exact ih0 _ _ _ _ _)
      | (with_reducible exact ih1 _ _ _ _ _)
      | (with_reducible exact ih2 _ _ _ _ _)
      | (with_reducible exact manciplelaw15_known.mono _)
      | (with_reducible exact LeO.refl _)
      | (with_reducible exact LeO.none _)
      | (with_reducible refine LeO.ite ?_ ?_)
      | (with_reducible refine LeO.bind ?_ (fun _ => ?_))
      | exact ih0 _ _ _ _ _
      | exact ih1 _ _ _ _ _
      | exact ih2 _ _ _ _ _
      | exact manciplelaw15_known.mono _
      | exact LeO.none _
      | refine LeO.ite ?_ ?_
      | refine LeO.bind ?_ (fun _ => ?_)
set_option maxHeartbeats 8000000 in
set_option maxRecDepth 100000 in
theorem manciplelaw15_PropChains.calls (k : Nat) (a0 : Int) (a1 : Int) (a2 : Int) (r : Bool) (w : World) (h : manciplelaw15_PropChains.f k a0 a1 a2 = some r) :
    Calls Try.prog 5 #[.int .u8 a0, .int .u8 a1, .int .u8 a2] w fun e w' => e = .returned (.bool r) ∧ Below w.heap.size w w' := by
  have HB := Aside0.mk (Below.refl w.heap.size w)
  have H : ((manciplelaw15_known.f k).bind fun t246 => (if t246 = true then (manciplelaw15_PropChains.l0 k a1 a2 (wrap64 (2 + (wrap64 (Int.tmod a0 200)))) ([] : List (List Int)) 0) else (none))) = some r := h
  clear h
  replace H := Option.bind_eq_some_iff.mp H
  obtain ⟨t246, A40, H⟩ := H
  replace H : (if t246 = true then (manciplelaw15_PropChains.l0 k a1 a2 (wrap64 (2 + (wrap64 (Int.tmod a0 200)))) ([] : List (List Int)) 0) else (none)) = some r := H
  have A4 := Aside0.mk A40
  clear A40
  by_cases c5 : t246 = true
  · subst c5
    have H1 : (manciplelaw15_PropChains.l0 k a1 a2 (wrap64 (2 + (wrap64 (Int.tmod a0 200)))) ([] : List (List Int)) 0) = some r := by rw [if_pos rfl] at H; exact H
    clear H
    have H := H1
    clear H1
    have H' := Aside0.mk H
    clear H
    go_enter Try.func5, Try.ntmps5
    go_wp2_with (first | ((with_reducible refine gate_callee (f := 12) rfl ?_); refine goesL_ (some 19) rfl rfl Try.func12 (by kernel_rfl) rfl #[] rfl (by (try simp only [List.map_toArray, List.map_cons, List.map_nil]); first | done | rfl | (simp only [List.length_drop, List.length_take]; rfl)) ?_; (with_reducible refine (manciplelaw15_known.calls k  true _ A4.out).mono ?_); rintro e w6 ⟨rfl, hb⟩; refine ⟨_, rfl, ?_⟩; have n0_ := Aside0.mk (below_step (by repeat (first | (with_reducible first | exact HB.out | apply below_alloc | apply pw_below_drewN | apply below_drew1) | exact HB.out)) hb); clear HB; have HB := n0_; clear n0_; (try clear hb); (try clear hb2); (try clear hk); (try clear hi)))
    go_loopg [8, 9] k (fun kq v8 v9 w' => ∃ (x8_1 : List (List Int)) (x9_1 : Int), v9 = .int .i64 x9_1 ∧ Aside0 (manciplelaw15_PropChains.l0 kq a1 a2 (wrap64 (2 + (wrap64 (Int.tmod a0 200)))) x8_1 x9_1 = some r) ∧ Aside0 (kq ≤ k) ∧ Aside0 (Kd.N (Kd.slice 3 (Kd.int .i64)) 42 w' w.heap.size (fun _ => True) v8 x8_1) ∧ Aside0 (Below w.heap.size w w'))
    case atStart => exact ⟨(([] : List (List Int))), (0), (by first | rfl | (simp; done) | (simp [*]; done)), H', ⟨Nat.le_refl _⟩, ⟨by first | exact Kd.S_nil _ _ _ _ _ | exact Kd.N_nil _ _ _ _ _ | exact Kd.V_nil _ _ _ _ _ | exact Kd.Q_nil _ _ _ _ _ | exact Kd.R_nil _ _ _ _ _⟩, ⟨by repeat (first | (with_reducible first | exact HB.out | apply below_alloc | apply pw_below_drewN | apply below_drew1) | exact HB.out)⟩⟩
    case round =>
      clear H'
      try clear c1
      try clear p2
      try clear c5
      try clear p6
      obtain ⟨x8_1, x9_1, rfl, HA, HK1, HO_8, HB⟩ := hrel
      cases gk with
      | zero => exact absurd HA.out (by simp [manciplelaw15_PropChains.l0])
      | succ k1 =>
        have H := HA.out
        clear HA
        simp only [manciplelaw15_PropChains.l0] at H
        by_cases c7 : (wrap64 (x9_1 + 1)) < (wrap64 (2 + (wrap64 (Int.tmod a0 200))))
        · rw [if_pos c7] at H
          have c7b0 : decide ((wrap64 (x9_1 + 1)) < (wrap64 (2 + (wrap64 (Int.tmod a0 200))))) = true := decide_eq_true c7
          clear c7
          by_cases c8 : (wrap64 ((wrap64 (2 + (wrap64 (Int.tmod a0 200)))) - 1)) = 0
          · rw [if_pos c8] at H
            exact absurd H (by simp)
          · rw [if_neg c8] at H
            have c8b0 : ((wrap64 ((wrap64 (2 + (wrap64 (Int.tmod a0 200)))) - 1)) == 0) = false := beq_eq_false_iff_ne.mpr c8
            have c8b1 : ((wrap64 ((wrap64 (2 + (wrap64 (Int.tmod a0 200)))) - 1)) != 0) = true := bne_iff_ne.mpr c8
            obtain ⟨y247, hy247⟩ : ∃ y_ : List Int, y_ = (([wrap64 (-(wrap64 ((Int.tmod (wrap64 (x9_1 + (wrap64 (a1)))) (wrap64 ((wrap64 (2 + (wrap64 (Int.tmod a0 200)))) - 1))) + 1))), wrap64 ((Int.tmod (wrap64 (x9_1 + (wrap64 (a1)))) (wrap64 ((wrap64 (2 + (wrap64 (Int.tmod a0 200)))) - 1))) + 2)] : List Int)) := ⟨_, rfl⟩
            replace H : (if x8_1.length < 5864062014805 then (manciplelaw15_PropChains.l0 k1 a1 a2 (wrap64 (2 + (wrap64 (Int.tmod a0 200)))) (x8_1 ++ [y247]) (wrap64 (x9_1 + 1))) else (none)) = some r := by first | (rw [hy247]; with_reducible exact H) | (have H2_ := (Option.bind_some _ _).symm.trans H; rw [hy247]; with_reducible exact H2_) | (have H2_ := (Option.bind_some _ _).symm.trans H; with_reducible exact H2_) | with_reducible exact H | (rw [hy247]; exact H) | exact H
            have Ny247 := Aside0.mk hy247
            clear hy247
            by_cases c9 : x8_1.length < 5864062014805
            · rw [if_pos c9] at H
              have LMc9 := Aside0.mk c9
              clear c9
              obtain ⟨y250, hy250⟩ : ∃ y_ : List (List Int), y_ = (x8_1 ++ [y247]) := ⟨_, rfl⟩
              replace H : (manciplelaw15_PropChains.l0 k1 a1 a2 (wrap64 (2 + (wrap64 (Int.tmod a0 200)))) y250 (wrap64 (x9_1 + 1))) = some r := by first | (rw [hy250]; with_reducible exact H) | (have H2_ := (Option.bind_some _ _).symm.trans H; rw [hy250]; with_reducible exact H2_) | (have H2_ := (Option.bind_some _ _).symm.trans H; with_reducible exact H2_) | with_reducible exact H | (rw [hy250]; exact H) | exact H
              have Ny250 := Aside0.mk hy250
              clear hy250
              have H' := Aside0.mk H
              clear H
              go_wp2_with (first | ((with_reducible refine gate_dst (N := 44) rfl ?_); (try (refine gate_guard (by rfl) ?_; dsimp only)); refine Kd.R_lit (Kd.int .i64) _ 3 ?hg (N := 44) ?hd (xs := ([wrap64 (-(wrap64 ((Int.tmod (wrap64 (x9_1 + (wrap64 (a1)))) (wrap64 ((wrap64 (2 + (wrap64 (Int.tmod a0 200)))) - 1))) + 1))), wrap64 ((Int.tmod (wrap64 (x9_1 + (wrap64 (a1)))) (wrap64 ((wrap64 (2 + (wrap64 (Int.tmod a0 200)))) - 1))) + 2)] : List Int)) (inner := [.int .i64 (wrap64 (-(wrap64 ((Int.tmod (wrap64 (x9_1 + (wrap64 (a1)))) (wrap64 ((wrap64 (2 + (wrap64 (Int.tmod a0 200)))) - 1))) + 1)))), .int .i64 (wrap64 ((Int.tmod (wrap64 (x9_1 + (wrap64 (a1)))) (wrap64 ((wrap64 (2 + (wrap64 (Int.tmod a0 200)))) - 1))) + 2))]) (ok := fun _ => True) (okp := fun _ => True) ?hr ?hp (fun _ hk => hk) trivial (Below.refl _ _) (Nat.le_refl _) (by simp) ?_; (case hd => rfl); (case hg => rfl); (case hr => first | (go_simp; done) | (go_simp; rfl)); (case hp => exact (Reps.one (show Kd.M (Kd.int .i64) _ _ _ (wrap64 (-(wrap64 ((Int.tmod (wrap64 (x9_1 + (wrap64 (a1)))) (wrap64 ((wrap64 (2 + (wrap64 (Int.tmod a0 200)))) - 1))) + 1)))) [.int .i64 (wrap64 (-(wrap64 ((Int.tmod (wrap64 (x9_1 + (wrap64 (a1)))) (wrap64 ((wrap64 (2 + (wrap64 (Int.tmod a0 200)))) - 1))) + 1))))] from rfl) (Reps.one (show Kd.M (Kd.int .i64) _ _ _ (wrap64 ((Int.tmod (wrap64 (x9_1 + (wrap64 (a1)))) (wrap64 ((wrap64 (2 + (wrap64 (Int.tmod a0 200)))) - 1))) + 2)) [.int .i64 (wrap64 ((Int.tmod (wrap64 (x9_1 + (wrap64 (a1)))) (wrap64 ((wrap64 (2 + (wrap64 (Int.tmod a0 200)))) - 1))) + 2))] from rfl) (Reps.none _ _)))); intro v248 w10 ho11 hb hg_ hnew_; clear hg_ hnew_; (first | rw [← Ny247.out] at ho11 | (simp only [Int.reduceToNat] at ho11; rw [← Ny247.out] at ho11)); have n0_ := Aside0.mk (Kd.N_elder' (by (with_reducible repeat (first | apply Kd.N_alloc | apply Kd.N_drewN | apply Kd.N_drew)); exact HO_8.out) (Kd.R_base ho11) hb); have n1_ := Aside0.mk (Kd.R_lower ho11 (below_size (by repeat (first | (with_reducible first | exact HB.out | apply below_alloc | apply pw_below_drewN | apply below_drew1) | exact HB.out)))); have n2_ := Aside0.mk (below_step (by repeat (first | (with_reducible first | exact HB.out | apply below_alloc | apply pw_below_drewN | apply below_drew1) | exact HB.out)) hb); clear HO_8; clear HB; have HO_8 := n0_; have HO249 := n1_; have HB := n2_; clear n0_ n1_ n2_; clear hb ho11; obtain ⟨Ao13, co13, eo13⟩ := Kd.R_slice HO249.out; subst eo13) | ((with_reducible refine gate_builtin (b := .append) (xs := #[.tmp 38, .tmp 45]) rfl ?_); (try (refine gate_guard (by rfl) ?_; dsimp only)); at_builtin; refine Kd.N_append (Kd.slice 3 (Kd.int .i64)) (w0 := w) w.heap.size rfl (.tmp 38) (.tmp 45) 29 42 (.slice none 0 0) 24 rfl Try.underlying29 info42 rfl (by decide) (by omega) u8 x8_1 y247 [.slice Ao13 y247.length co13] (fun _ => True) (fun k_ => ((fun _ => True)) k_ ∧ some k_ ≠ (u8 : Value).ownBlock) rfl rfl ?aP (fun _ hk => hk) ?aF ?aO ?aB ?aS ?aL ?_; (case aP => exact (Kd.FK_slice_mk (Kd.R_reads' (Kd.R_mono (ok' := (fun k_ => ((fun _ => True)) k_ ∧ some k_ ≠ (u8 : Value).ownBlock)) (Kd.R_apart' (HO249.out) (Kd.N_typed HO_8.out) (by decide)) (fun k_ hk => ⟨trivial, hk.2⟩))).2.1 (Kd.R_F (Kd.R_mono (ok' := (fun k_ => ((fun _ => True)) k_ ∧ some k_ ≠ (u8 : Value).ownBlock)) (Kd.R_apart' (HO249.out) (Kd.N_typed HO_8.out) (by decide)) (fun k_ hk => ⟨trivial, hk.2⟩))))); (case aB => exact (by repeat (first | (with_reducible first | exact HB.out | apply below_alloc | apply pw_below_drewN | apply below_drew1) | exact HB.out))); (case aF => exact (fun _ _ => trivial)); (case aO => exact (by (with_reducible repeat (first | apply Kd.N_alloc | apply Kd.N_drewN | apply Kd.N_drew)); exact Kd.N_mono HO_8.out (fun _ hk => trivial))); (case aS => exact (below_size (by repeat (first | (with_reducible first | exact HB.out | apply below_alloc | apply pw_below_drewN | apply below_drew1) | exact HB.out)))); (case aL => have := LMc9.out; omega); intro v251 w12 ho hb hg hat; rw [← Ny250.out] at ho; have n0_ := Aside0.mk (hb); have n1_ := Aside0.mk (ho); clear HB; clear HO_8; clear HO249; have HB := n0_; have HO252 := n1_; clear n0_ n1_; clear ho hb hg hat))
              go_roundg k1
              case measure => have := HK1.out; omega
              case rel => exact ⟨(y250), (wrap64 (x9_1 + 1)), (by first | rfl | (simp; done) | (simp [*]; done)), H', ⟨by have := HK1.out; omega⟩, ⟨by (with_reducible repeat (first | apply Kd.N_alloc | apply Kd.N_drewN | apply Kd.N_drew)); exact HO252.out⟩, ⟨by repeat (first | (with_reducible first | exact HB.out | apply below_alloc | apply pw_below_drewN | apply below_drew1) | exact HB.out)⟩⟩
            · rw [if_neg c9] at H
              exact absurd H (by simp)
        · rw [if_neg c7] at H
          have c7b0 : decide ((wrap64 (x9_1 + 1)) < (wrap64 (2 + (wrap64 (Int.tmod a0 200))))) = false := decide_eq_false c7
          clear c7
          by_cases c14 : (wrap64 (2 + (wrap64 (Int.tmod a0 200)))) = 0
          · rw [if_pos c14] at H
            exact absurd H (by simp)
          · rw [if_neg c14] at H
            have c14b0 : ((wrap64 (2 + (wrap64 (Int.tmod a0 200)))) == 0) = false := beq_eq_false_iff_ne.mpr c14
            have c14b1 : ((wrap64 (2 + (wrap64 (Int.tmod a0 200)))) != 0) = true := bne_iff_ne.mpr c14
            obtain ⟨y253, hy253⟩ : ∃ y_ : List Int, y_ = (([wrap64 (1 + (Int.tmod (wrap64 (a2)) (wrap64 (2 + (wrap64 (Int.tmod a0 200))))))] : List Int)) := ⟨_, rfl⟩
            replace H : ((prop_Close.f (wrap64 (2 + (wrap64 (Int.tmod a0 200)))) x8_1 y253).bind fun bt256 => (if bt256.2 = true then (manciplelaw15_PropChains.j1 k1 (wrap64 (2 + (wrap64 (Int.tmod a0 200)))) x8_1 (wrap64 (1 + (Int.tmod (wrap64 (a2)) (wrap64 (2 + (wrap64 (Int.tmod a0 200))))))) bt256.1 true) else (manciplelaw15_PropChains.j1 k1 (wrap64 (2 + (wrap64 (Int.tmod a0 200)))) x8_1 (wrap64 (1 + (Int.tmod (wrap64 (a2)) (wrap64 (2 + (wrap64 (Int.tmod a0 200))))))) bt256.1 ((bt256.1.length : Int) != (wrap64 ((wrap64 ((wrap64 (2 + (wrap64 (Int.tmod a0 200)))) - (wrap64 (1 + (Int.tmod (wrap64 (a2)) (wrap64 (2 + (wrap64 (Int.tmod a0 200))))))))) + 1)))))) = some r := by first | (rw [hy253]; with_reducible exact H) | (have H2_ := (Option.bind_some _ _).symm.trans H; rw [hy253]; with_reducible exact H2_) | (have H2_ := (Option.bind_some _ _).symm.trans H; with_reducible exact H2_) | with_reducible exact H | (rw [hy253]; exact H) | exact H
            have Ny253 := Aside0.mk hy253
            clear hy253
            replace H := Option.bind_eq_some_iff.mp H
            obtain ⟨⟨t256, t257⟩, A150, H⟩ := H
            replace H : (if t257 = true then (manciplelaw15_PropChains.j1 k1 (wrap64 (2 + (wrap64 (Int.tmod a0 200)))) x8_1 (wrap64 (1 + (Int.tmod (wrap64 (a2)) (wrap64 (2 + (wrap64 (Int.tmod a0 200))))))) t256 true) else (manciplelaw15_PropChains.j1 k1 (wrap64 (2 + (wrap64 (Int.tmod a0 200)))) x8_1 (wrap64 (1 + (Int.tmod (wrap64 (a2)) (wrap64 (2 + (wrap64 (Int.tmod a0 200))))))) t256 ((t256.length : Int) != (wrap64 ((wrap64 ((wrap64 (2 + (wrap64 (Int.tmod a0 200)))) - (wrap64 (1 + (Int.tmod (wrap64 (a2)) (wrap64 (2 + (wrap64 (Int.tmod a0 200))))))))) + 1))))) = some r := H
            have A15 := Aside0.mk A150
            clear A150
            have HC16 := Aside0.mk H
            clear H
            go_upto_region 12 with (first | ((with_reducible refine gate_dst (N := 56) rfl ?_); (try (refine gate_guard (by rfl) ?_; dsimp only)); refine Kd.R_lit (Kd.int .i64) _ 3 ?hg (N := 56) ?hd (xs := ([wrap64 (1 + (Int.tmod (wrap64 (a2)) (wrap64 (2 + (wrap64 (Int.tmod a0 200))))))] : List Int)) (inner := [.int .i64 (wrap64 (1 + (Int.tmod (wrap64 (a2)) (wrap64 (2 + (wrap64 (Int.tmod a0 200)))))))]) (ok := fun _ => True) (okp := fun _ => True) ?hr ?hp (fun _ hk => hk) trivial (Below.refl _ _) (Nat.le_refl _) (by simp) ?_; (case hd => rfl); (case hg => rfl); (case hr => first | (go_simp; done) | (go_simp; rfl)); (case hp => exact (Reps.one (show Kd.M (Kd.int .i64) _ _ _ (wrap64 (1 + (Int.tmod (wrap64 (a2)) (wrap64 (2 + (wrap64 (Int.tmod a0 200))))))) [.int .i64 (wrap64 (1 + (Int.tmod (wrap64 (a2)) (wrap64 (2 + (wrap64 (Int.tmod a0 200)))))))] from rfl) (Reps.none _ _))); intro v254 w17 ho18 hb hg_ hnew_; clear hg_ hnew_; (first | rw [← Ny253.out] at ho18 | (simp only [Int.reduceToNat] at ho18; rw [← Ny253.out] at ho18)); have n0_ := Aside0.mk (Kd.N_elder' (by (with_reducible repeat (first | apply Kd.N_alloc | apply Kd.N_drewN | apply Kd.N_drew)); exact HO_8.out) (Kd.R_base ho18) hb); have n1_ := Aside0.mk (Kd.R_lower ho18 (below_size (by repeat (first | (with_reducible first | exact HB.out | apply below_alloc | apply pw_below_drewN | apply below_drew1) | exact HB.out)))); have n2_ := Aside0.mk (below_step (by repeat (first | (with_reducible first | exact HB.out | apply below_alloc | apply pw_below_drewN | apply below_drew1) | exact HB.out)) hb); clear HO_8; clear HB; have HO_8 := n0_; have HO255 := n1_; have HB := n2_; clear n0_ n1_ n2_; clear hb ho18; obtain ⟨Ao19, co19, eo19⟩ := Kd.N_slice HO_8.out; subst eo19; obtain ⟨Ao20, co20, eo20⟩ := Kd.R_slice HO255.out; subst eo20) | ((with_reducible refine gate_callee (f := 15) rfl ?_); refine goesL_ (some 57) rfl rfl Try.func15 (by kernel_rfl) rfl #[.int .i64 (wrap64 (2 + (wrap64 (Int.tmod a0 200)))), .slice Ao19 x8_1.length co19, .slice Ao20 y253.length co20] rfl (by (try simp only [List.map_toArray, List.map_cons, List.map_nil]); first | done | rfl | (simp only [List.length_drop, List.length_take]; rfl)) ?_; (with_reducible refine (prop_Close.calls (wrap64 (2 + (wrap64 (Int.tmod a0 200)))) _ _ x8_1 _ _ y253 t256 t257 _ ?side1 ?side2 ?side3 ?side4 A15.out).mono ?_); (case side1 => repeat (first | exact (Kd.N_reads' HO_8.out).2.2 | (with_reducible refine Kd.C_alloc ?_ _) | (with_reducible refine Kd.C_drewN ?_ _) | (with_reducible refine Kd.C_drew ?_))); (case side2 => exact (Kd.N_reads' HO_8.out).2.1); (case side3 => repeat (first | exact (Kd.R_reads' HO255.out).2.2 | (with_reducible refine Kd.C_alloc ?_ _) | (with_reducible refine Kd.C_drewN ?_ _) | (with_reducible refine Kd.C_drew ?_))); (case side4 => exact (Kd.R_reads' HO255.out).2.1); rintro e w21 ⟨v258, rfl, ho0, hb⟩; refine ⟨_, rfl, ?_⟩; have n0_ := Aside0.mk (Kd.N_elder' (by (with_reducible repeat (first | apply Kd.N_alloc | apply Kd.N_drewN | apply Kd.N_drew)); exact HO_8.out) (Kd.R_base ho0) hb); have n1_ := Aside0.mk (Kd.R_elder' (by (with_reducible repeat (first | apply Kd.R_alloc | apply Kd.R_drewN | apply Kd.R_drew)); exact HO255.out) (Kd.R_base ho0) hb); have n2_ := Aside0.mk (Kd.R_lower (Kd.R_new' ho0 (Kd.R_lt (by (with_reducible repeat (first | apply Kd.R_alloc | apply Kd.R_drewN | apply Kd.R_drew)); exact HO255.out))) (below_size (by repeat (first | (with_reducible first | exact HB.out | apply below_alloc | apply pw_below_drewN | apply below_drew1) | exact HB.out)))); have n3_ := Aside0.mk (below_step (by repeat (first | (with_reducible first | exact HB.out | apply below_alloc | apply pw_below_drewN | apply below_drew1) | exact HB.out)) hb); clear HO_8; clear HO255; clear HB; have HO_8 := n0_; have HO255 := n1_; have HO259 := n2_; have HB := n3_; clear n0_ n1_ n2_ n3_; (try clear hb); (try clear hb2); (try clear hk); (try clear hi); (try clear ho0)))
            (try simp only [Act.put, List.setIfInBounds_toArray, List.set_cons_zero, List.set_cons_succ])
            go_cut [69] (fun v69 wc => ∃ (kq : Nat) (x69_15 : Bool), v69 = .bool x69_15 ∧ Aside0 (manciplelaw15_PropChains.j1 kq (wrap64 (2 + (wrap64 (Int.tmod a0 200)))) x8_1 (wrap64 (1 + (Int.tmod (wrap64 (a2)) (wrap64 (2 + (wrap64 (Int.tmod a0 200))))))) t256 x69_15 = some r) ∧ Aside0 (kq ≤ k1) ∧ Aside0 (Kd.N (Kd.slice 3 (Kd.int .i64)) 42 wc w.heap.size (fun k_ => some k_ ≠ (v258 : Value).ownBlock) (.slice Ao19 x8_1.length co19) x8_1) ∧ Aside0 (Kd.R (Kd.int .i64) 3 wc w.heap.size (fun _ => True) v258 t256) ∧ Aside0 (Below w.heap.size w wc))
            case first =>
              have H := HC16.out
              clear HC16
              by_cases c22 : t257 = true
              · subst c22
                have H1 : (manciplelaw15_PropChains.j1 k1 (wrap64 (2 + (wrap64 (Int.tmod a0 200)))) x8_1 (wrap64 (1 + (Int.tmod (wrap64 (a2)) (wrap64 (2 + (wrap64 (Int.tmod a0 200))))))) t256 true) = some r := by rw [if_pos rfl] at H; exact H
                clear H
                have H := H1
                clear H1
                have H' := Aside0.mk H
                clear H
                go_wp2
                go_meet
                case rel => exact ⟨_, (true), (by first | rfl | (simp; done) | (simp [*]; done)), H', ⟨by have := HK1.out; first | omega | exact Nat.le_refl _⟩, ⟨by (with_reducible repeat (first | apply Kd.N_alloc | apply Kd.N_drewN | apply Kd.N_drew)); exact Kd.N_mono HO_8.out (fun _ hk => hk.2)⟩, ⟨by (with_reducible repeat (first | apply Kd.R_alloc | apply Kd.R_drewN | apply Kd.R_drew)); exact Kd.R_mono HO259.out (fun _ hk => trivial)⟩, ⟨by repeat (first | (with_reducible first | exact HB.out | apply below_alloc | apply pw_below_drewN | apply below_drew1) | exact HB.out)⟩⟩
              · replace c22 := Bool.eq_false_iff.mpr c22
                subst c22
                have H1 : (manciplelaw15_PropChains.j1 k1 (wrap64 (2 + (wrap64 (Int.tmod a0 200)))) x8_1 (wrap64 (1 + (Int.tmod (wrap64 (a2)) (wrap64 (2 + (wrap64 (Int.tmod a0 200))))))) t256 ((t256.length : Int) != (wrap64 ((wrap64 ((wrap64 (2 + (wrap64 (Int.tmod a0 200)))) - (wrap64 (1 + (Int.tmod (wrap64 (a2)) (wrap64 (2 + (wrap64 (Int.tmod a0 200))))))))) + 1)))) = some r := by rw [if_neg (show ¬ (false = true) by decide)] at H; exact H
                clear H
                have H := H1
                clear H1
                have H' := Aside0.mk H
                clear H
                obtain ⟨Ao23, co23, eo23⟩ := Kd.R_slice HO259.out
                subst eo23
                go_wp2
                go_meet
                case rel => exact ⟨_, (((t256.length : Int) != (wrap64 ((wrap64 ((wrap64 (2 + (wrap64 (Int.tmod a0 200)))) - (wrap64 (1 + (Int.tmod (wrap64 (a2)) (wrap64 (2 + (wrap64 (Int.tmod a0 200))))))))) + 1)))), (by first | rfl | (simp; done) | (simp [*]; done)), H', ⟨by have := HK1.out; first | omega | exact Nat.le_refl _⟩, ⟨by (with_reducible repeat (first | apply Kd.N_alloc | apply Kd.N_drewN | apply Kd.N_drew)); exact Kd.N_mono HO_8.out (fun _ hk => hk.2)⟩, ⟨by (with_reducible repeat (first | apply Kd.R_alloc | apply Kd.R_drewN | apply Kd.R_drew)); exact Kd.R_mono HO259.out (fun _ hk => trivial)⟩, ⟨by repeat (first | (with_reducible first | exact HB.out | apply below_alloc | apply pw_below_drewN | apply below_drew1) | exact HB.out)⟩⟩
            case rest =>
              clear HC16
              try clear c1
              try clear c2
              try clear p2
              try clear c5
              try clear p6
              try clear c7
              try clear c7b0
              try clear c8
              try clear c8b0
              try clear c8b1
              try clear c9
              try clear c12
              try clear c14
              try clear c14b0
              try clear c14b1
              try clear c15
              try clear c22
              try clear p2
              try clear p6
              obtain ⟨kq, x69_15, rfl, HA, HJ15, HO_8, HO_12, HB⟩ := hcut
              cases kq with
              | zero => exact absurd HA.out (by simp [manciplelaw15_PropChains.j1])
              | succ kj15 =>
                have H := HA.out
                clear HA
                simp only [manciplelaw15_PropChains.j1] at H
                by_cases c24 : x69_15 = true
                · subst c24
                  have H1 : (none) = some r := by rw [if_pos rfl] at H; exact H
                  clear H
                  have H := H1
                  clear H1
                  exact absurd H (by simp)
                · replace c24 := Bool.eq_false_iff.mpr c24
                  subst c24
                  have H1 : (manciplelaw15_PropChains.l1 kj15 (wrap64 (2 + (wrap64 (Int.tmod a0 200)))) x8_1 (wrap64 (1 + (Int.tmod (wrap64 (a2)) (wrap64 (2 + (wrap64 (Int.tmod a0 200))))))) t256 0) = some r := by rw [if_neg (show ¬ (false = true) by decide)] at H; exact H
                  clear H
                  have H := H1
                  clear H1
                  have H' := Aside0.mk H
                  clear H
                  go_wp2
                  go_loopg [14] kj15 (fun kq v14 w' => ∃ (x14_3 : Int), v14 = .int .i64 x14_3 ∧ Aside0 (manciplelaw15_PropChains.l1 kq (wrap64 (2 + (wrap64 (Int.tmod a0 200)))) x8_1 (wrap64 (1 + (Int.tmod (wrap64 (a2)) (wrap64 (2 + (wrap64 (Int.tmod a0 200))))))) t256 x14_3 = some r) ∧ Aside0 (kq ≤ kj15) ∧ Aside0 (Kd.N (Kd.slice 3 (Kd.int .i64)) 42 w' w.heap.size (fun k_ => some k_ ≠ (v258 : Value).ownBlock) (.slice Ao19 x8_1.length co19) x8_1) ∧ Aside0 (Kd.R (Kd.int .i64) 3 w' w.heap.size (fun _ => True) v258 t256) ∧ Aside0 (Below w.heap.size w w'))
                  case atStart => exact ⟨(0), (by first | rfl | (simp; done) | (simp [*]; done)), H', ⟨Nat.le_refl _⟩, ⟨by (with_reducible repeat (first | apply Kd.N_alloc | apply Kd.N_drewN | apply Kd.N_drew)); exact HO_8.out⟩, ⟨by (with_reducible repeat (first | apply Kd.R_alloc | apply Kd.R_drewN | apply Kd.R_drew)); exact HO_12.out⟩, ⟨by repeat (first | (with_reducible first | exact HB.out | apply below_alloc | apply pw_below_drewN | apply below_drew1) | exact HB.out)⟩⟩
                  case round =>
                    clear H'
                    try clear c1
                    try clear c2
                    try clear p2
                    try clear c5
                    try clear p6
                    try clear c7
                    try clear c7b0
                    try clear c8
                    try clear c8b0
                    try clear c8b1
                    try clear c9
                    try clear c12
                    try clear c14
                    try clear c14b0
                    try clear c14b1
                    try clear c15
                    try clear c22
                    try clear c24
                    try clear p2
                    try clear p6
                    obtain ⟨x14_3, rfl, HA, HK3, HO_8, HO_12, HB⟩ := hrel
                    cases gk with
                    | zero => exact absurd HA.out (by simp [manciplelaw15_PropChains.l1])
                    | succ k3 =>
                      have H := HA.out
                      clear HA
                      simp only [manciplelaw15_PropChains.l1] at H
                      by_cases c25 : x14_3 < (t256.length : Int)
                      · rw [if_pos c25] at H
                        have c25b0 : decide (x14_3 < (t256.length : Int)) = true := decide_eq_true c25
                        clear c25
                        by_cases c26 : 0 ≤ x14_3
                        · rw [if_pos c26] at H
                          have c26b0 : decide (0 ≤ x14_3) = true := decide_eq_true c26
                          clear c26
                          by_cases c27 : (rd t256 x14_3) = (wrap64 ((wrap64 (1 + (Int.tmod (wrap64 (a2)) (wrap64 (2 + (wrap64 (Int.tmod a0 200))))))) + x14_3))
                          · rw [if_pos c27] at H
                            have c27b0 : ((rd t256 x14_3) == (wrap64 ((wrap64 (1 + (Int.tmod (wrap64 (a2)) (wrap64 (2 + (wrap64 (Int.tmod a0 200))))))) + x14_3))) = true := beq_iff_eq.mpr c27
                            have c27b1 : ((rd t256 x14_3) != (wrap64 ((wrap64 (1 + (Int.tmod (wrap64 (a2)) (wrap64 (2 + (wrap64 (Int.tmod a0 200))))))) + x14_3))) = false := bne_eq_false_iff_eq.mpr c27
                            clear c27
                            have H' := Aside0.mk H
                            clear H
                            obtain ⟨Ao28, co28, eo28⟩ := Kd.R_slice HO_12.out
                            subst eo28
                            have p260 : 0 ≤ (x14_3 : Int) := of_decide_eq_true (by first | (with_reducible assumption) | assumption)
                            have q260 : x14_3 < (t256.length : Int) := of_decide_eq_true (by first | (with_reducible assumption) | assumption)
                            obtain ⟨ad260, e260, hx260_0⟩ := Kd.at_int (Kd.R_reads' HO_12.out).2.2 x14_3 p260 q260
                            cases e260
                            replace p260 := eq_true p260
                            replace q260 := eq_true q260
                            go_wp2
                            go_roundg k3
                            case measure => have := HK1.out; have := HJ15.out; have := HK3.out; omega
                            case rel => exact ⟨(wrap64 (x14_3 + 1)), (by first | rfl | (simp; done) | (simp [*]; done)), H', ⟨by have := HK1.out; have := HJ15.out; have := HK3.out; omega⟩, ⟨by (with_reducible repeat (first | apply Kd.N_alloc | apply Kd.N_drewN | apply Kd.N_drew)); exact HO_8.out⟩, ⟨by (with_reducible repeat (first | apply Kd.R_alloc | apply Kd.R_drewN | apply Kd.R_drew)); exact HO_12.out⟩, ⟨by repeat (first | (with_reducible first | exact HB.out | apply below_alloc | apply pw_below_drewN | apply below_drew1) | exact HB.out)⟩⟩
                          · rw [if_neg c27] at H
                            exact absurd H (by simp)
                        · rw [if_neg c26] at H
                          exact absurd H (by simp)
                      · rw [if_neg c25] at H
                        have c25b0 : decide (x14_3 < (t256.length : Int)) = false := decide_eq_false c25
                        clear c25
                        obtain ⟨y261, hy261⟩ : ∃ y_ : List (List Int), y_ = (([] : List (List Int))) := ⟨_, rfl⟩
                        replace H : (if y261.length + x8_1.length < 5864062014805 then ((some (y261 ++ x8_1 : List (List Int))).bind fun y264 => (if y264.length < 5864062014805 then ((prop_Close.f (wrap64 (2 + (wrap64 (Int.tmod a0 200)))) (y264 ++ [(([wrap64 (-(wrap64 (2 + (wrap64 (Int.tmod a0 200)))))] : List Int))]) (([(wrap64 (1 + (Int.tmod (wrap64 (a2)) (wrap64 (2 + (wrap64 (Int.tmod a0 200)))))))] : List Int))).bind fun bt276 => ((prop_Close.f (wrap64 (2 + (wrap64 (Int.tmod a0 200)))) x8_1 (([wrap64 (-(wrap64 (2 + (wrap64 (Int.tmod a0 200)))))] : List Int))).bind fun bt283 => (if bt276.2 = true then (if (bt276.1.length : Int) = 0 then (if bt283.2 = true then (none) else (if (bt283.1.length : Int) = (wrap64 (2 + (wrap64 (Int.tmod a0 200)))) then (if 0 < (bt283.1.length : Int) then (some ((rd bt283.1 0) == (-1))) else (none)) else (none))) else (none)) else (none)))) else (none))) else (none)) = some r := by first | (rw [hy261]; with_reducible exact H) | (have H2_ := (Option.bind_some _ _).symm.trans H; rw [hy261]; with_reducible exact H2_) | (have H2_ := (Option.bind_some _ _).symm.trans H; with_reducible exact H2_) | with_reducible exact H | (rw [hy261]; exact H) | exact H
                        have Ny261 := Aside0.mk hy261
                        clear hy261
                        by_cases c29 : y261.length + x8_1.length < 5864062014805
                        · rw [if_pos c29] at H
                          have LMc29 := Aside0.mk c29
                          clear c29
                          obtain ⟨y264, hy264⟩ : ∃ y_ : List (List Int), y_ = (y261 ++ x8_1) := ⟨_, rfl⟩
                          replace H : (if y264.length < 5864062014805 then ((prop_Close.f (wrap64 (2 + (wrap64 (Int.tmod a0 200)))) (y264 ++ [(([wrap64 (-(wrap64 (2 + (wrap64 (Int.tmod a0 200)))))] : List Int))]) (([(wrap64 (1 + (Int.tmod (wrap64 (a2)) (wrap64 (2 + (wrap64 (Int.tmod a0 200)))))))] : List Int))).bind fun bt276 => ((prop_Close.f (wrap64 (2 + (wrap64 (Int.tmod a0 200)))) x8_1 (([wrap64 (-(wrap64 (2 + (wrap64 (Int.tmod a0 200)))))] : List Int))).bind fun bt283 => (if bt276.2 = true then (if (bt276.1.length : Int) = 0 then (if bt283.2 = true then (none) else (if (bt283.1.length : Int) = (wrap64 (2 + (wrap64 (Int.tmod a0 200)))) then (if 0 < (bt283.1.length : Int) then (some ((rd bt283.1 0) == (-1))) else (none)) else (none))) else (none)) else (none)))) else (none)) = some r := by first | (rw [hy264]; with_reducible exact H) | (have H2_ := (Option.bind_some _ _).symm.trans H; rw [hy264]; with_reducible exact H2_) | (have H2_ := (Option.bind_some _ _).symm.trans H; with_reducible exact H2_) | with_reducible exact H | (rw [hy264]; exact H) | exact H
                          have Ny264 := Aside0.mk hy264
                          clear hy264
                          obtain ⟨y267, hy267⟩ : ∃ y_ : List Int, y_ = (([wrap64 (-(wrap64 (2 + (wrap64 (Int.tmod a0 200)))))] : List Int)) := ⟨_, rfl⟩
                          replace H : (if y264.length < 5864062014805 then ((prop_Close.f (wrap64 (2 + (wrap64 (Int.tmod a0 200)))) (y264 ++ [y267]) (([(wrap64 (1 + (Int.tmod (wrap64 (a2)) (wrap64 (2 + (wrap64 (Int.tmod a0 200)))))))] : List Int))).bind fun bt276 => ((prop_Close.f (wrap64 (2 + (wrap64 (Int.tmod a0 200)))) x8_1 (([wrap64 (-(wrap64 (2 + (wrap64 (Int.tmod a0 200)))))] : List Int))).bind fun bt283 => (if bt276.2 = true then (if (bt276.1.length : Int) = 0 then (if bt283.2 = true then (none) else (if (bt283.1.length : Int) = (wrap64 (2 + (wrap64 (Int.tmod a0 200)))) then (if 0 < (bt283.1.length : Int) then (some ((rd bt283.1 0) == (-1))) else (none)) else (none))) else (none)) else (none)))) else (none)) = some r := by first | (rw [hy267]; with_reducible exact H) | (have H2_ := (Option.bind_some _ _).symm.trans H; rw [hy267]; with_reducible exact H2_) | (have H2_ := (Option.bind_some _ _).symm.trans H; with_reducible exact H2_) | with_reducible exact H | (rw [hy267]; exact H) | exact H
                          have Ny267 := Aside0.mk hy267
                          clear hy267
                          by_cases c30 : y264.length < 5864062014805
                          · rw [if_pos c30] at H
                            have LMc30 := Aside0.mk c30
                            clear c30
                            obtain ⟨y270, hy270⟩ : ∃ y_ : List (List Int), y_ = (y264 ++ [y267]) := ⟨_, rfl⟩
                            replace H : ((prop_Close.f (wrap64 (2 + (wrap64 (Int.tmod a0 200)))) y270 (([(wrap64 (1 + (Int.tmod (wrap64 (a2)) (wrap64 (2 + (wrap64 (Int.tmod a0 200)))))))] : List Int))).bind fun bt276 => ((prop_Close.f (wrap64 (2 + (wrap64 (Int.tmod a0 200)))) x8_1 (([wrap64 (-(wrap64 (2 + (wrap64 (Int.tmod a0 200)))))] : List Int))).bind fun bt283 => (if bt276.2 = true then (if (bt276.1.length : Int) = 0 then (if bt283.2 = true then (none) else (if (bt283.1.length : Int) = (wrap64 (2 + (wrap64 (Int.tmod a0 200)))) then (if 0 < (bt283.1.length : Int) then (some ((rd bt283.1 0) == (-1))) else (none)) else (none))) else (none)) else (none)))) = some r := by first | (rw [hy270]; with_reducible exact H) | (have H2_ := (Option.bind_some _ _).symm.trans H; rw [hy270]; with_reducible exact H2_) | (have H2_ := (Option.bind_some _ _).symm.trans H; with_reducible exact H2_) | with_reducible exact H | (rw [hy270]; exact H) | exact H
                            have Ny270 := Aside0.mk hy270
                            clear hy270
                            obtain ⟨y273, hy273⟩ : ∃ y_ : List Int, y_ = (([(wrap64 (1 + (Int.tmod (wrap64 (a2)) (wrap64 (2 + (wrap64 (Int.tmod a0 200)))))))] : List Int)) := ⟨_, rfl⟩
                            replace H : ((prop_Close.f (wrap64 (2 + (wrap64 (Int.tmod a0 200)))) y270 y273).bind fun bt276 => ((prop_Close.f (wrap64 (2 + (wrap64 (Int.tmod a0 200)))) x8_1 (([wrap64 (-(wrap64 (2 + (wrap64 (Int.tmod a0 200)))))] : List Int))).bind fun bt283 => (if bt276.2 = true then (if (bt276.1.length : Int) = 0 then (if bt283.2 = true then (none) else (if (bt283.1.length : Int) = (wrap64 (2 + (wrap64 (Int.tmod a0 200)))) then (if 0 < (bt283.1.length : Int) then (some ((rd bt283.1 0) == (-1))) else (none)) else (none))) else (none)) else (none)))) = some r := by first | (rw [hy273]; with_reducible exact H) | (have H2_ := (Option.bind_some _ _).symm.trans H; rw [hy273]; with_reducible exact H2_) | (have H2_ := (Option.bind_some _ _).symm.trans H; with_reducible exact H2_) | with_reducible exact H | (rw [hy273]; exact H) | exact H
                            have Ny273 := Aside0.mk hy273
                            clear hy273
                            replace H := Option.bind_eq_some_iff.mp H
                            obtain ⟨⟨t276, t277⟩, A310, H⟩ := H
                            replace H : ((prop_Close.f (wrap64 (2 + (wrap64 (Int.tmod a0 200)))) x8_1 (([wrap64 (-(wrap64 (2 + (wrap64 (Int.tmod a0 200)))))] : List Int))).bind fun bt283 => (if t277 = true then (if (t276.length : Int) = 0 then (if bt283.2 = true then (none) else (if (bt283.1.length : Int) = (wrap64 (2 + (wrap64 (Int.tmod a0 200)))) then (if 0 < (bt283.1.length : Int) then (some ((rd bt283.1 0) == (-1))) else (none)) else (none))) else (none)) else (none))) = some r := H
                            have A31 := Aside0.mk A310
                            clear A310
                            obtain ⟨y280, hy280⟩ : ∃ y_ : List Int, y_ = (([wrap64 (-(wrap64 (2 + (wrap64 (Int.tmod a0 200)))))] : List Int)) := ⟨_, rfl⟩
                            replace H : ((prop_Close.f (wrap64 (2 + (wrap64 (Int.tmod a0 200)))) x8_1 y280).bind fun bt283 => (if t277 = true then (if (t276.length : Int) = 0 then (if bt283.2 = true then (none) else (if (bt283.1.length : Int) = (wrap64 (2 + (wrap64 (Int.tmod a0 200)))) then (if 0 < (bt283.1.length : Int) then (some ((rd bt283.1 0) == (-1))) else (none)) else (none))) else (none)) else (none))) = some r := by first | (rw [hy280]; with_reducible exact H) | (have H2_ := (Option.bind_some _ _).symm.trans H; rw [hy280]; with_reducible exact H2_) | (have H2_ := (Option.bind_some _ _).symm.trans H; with_reducible exact H2_) | with_reducible exact H | (rw [hy280]; exact H) | exact H
                            have Ny280 := Aside0.mk hy280
                            clear hy280
                            replace H := Option.bind_eq_some_iff.mp H
                            obtain ⟨⟨t283, t284⟩, A320, H⟩ := H
                            replace H : (if t277 = true then (if (t276.length : Int) = 0 then (if t284 = true then (none) else (if (t283.length : Int) = (wrap64 (2 + (wrap64 (Int.tmod a0 200)))) then (if 0 < (t283.length : Int) then (some ((rd t283 0) == (-1))) else (none)) else (none))) else (none)) else (none)) = some r := H
                            have A32 := Aside0.mk A320
                            clear A320
                            by_cases c33 : t277 = true
                            · subst c33
                              have H1 : (if (t276.length : Int) = 0 then (if t284 = true then (none) else (if (t283.length : Int) = (wrap64 (2 + (wrap64 (Int.tmod a0 200)))) then (if 0 < (t283.length : Int) then (some ((rd t283 0) == (-1))) else (none)) else (none))) else (none)) = some r := by rw [if_pos rfl] at H; exact H
                              clear H
                              have H := H1
                              clear H1
                              by_cases c34 : (t276.length : Int) = 0
                              · rw [if_pos c34] at H
                                have c34b0 : ((t276.length : Int) == 0) = true := beq_iff_eq.mpr c34
                                have c34b1 : ((t276.length : Int) != 0) = false := bne_eq_false_iff_eq.mpr c34
                                clear c34
                                by_cases c35 : t284 = true
                                · subst c35
                                  have H1 : (none) = some r := by rw [if_pos rfl] at H; exact H
                                  clear H
                                  have H := H1
                                  clear H1
                                  exact absurd H (by simp)
                                · replace c35 := Bool.eq_false_iff.mpr c35
                                  subst c35
                                  have H1 : (if (t283.length : Int) = (wrap64 (2 + (wrap64 (Int.tmod a0 200)))) then (if 0 < (t283.length : Int) then (some ((rd t283 0) == (-1))) else (none)) else (none)) = some r := by rw [if_neg (show ¬ (false = true) by decide)] at H; exact H
                                  clear H
                                  have H := H1
                                  clear H1
                                  by_cases c36 : (t283.length : Int) = (wrap64 (2 + (wrap64 (Int.tmod a0 200))))
                                  · rw [if_pos c36] at H
                                    have c36b0 : ((t283.length : Int) == (wrap64 (2 + (wrap64 (Int.tmod a0 200))))) = true := beq_iff_eq.mpr c36
                                    have c36b1 : ((t283.length : Int) != (wrap64 (2 + (wrap64 (Int.tmod a0 200))))) = false := bne_eq_false_iff_eq.mpr c36
                                    clear c36
                                    by_cases c37 : 0 < (t283.length : Int)
                                    · rw [if_pos c37] at H
                                      have c37b0 : decide (0 < (t283.length : Int)) = true := decide_eq_true c37
                                      have c37b1 : decide (0 < t283.length) = true := decide_eq_true (by omega)
                                      clear c37
                                      obtain rfl := Option.some.inj H
                                      obtain ⟨Ao38, co38, eo38⟩ := Kd.R_slice HO_12.out
                                      subst eo38
                                      go_wp2_with (first | ((with_reducible refine gate_dst (N := 86) rfl ?_); (try (refine gate_guard (by rfl) ?_; dsimp only)); refine Kd.N_lit (Kd.slice 3 (Kd.int .i64)) _ 42 ?hg (N' := 86) ?hd (xs := ([] : List (List Int))) (inner := []) (ok := (fun k_ => some k_ ≠ (.slice Ao19 x8_1.length co19 : Value).ownBlock ∧ some k_ ≠ (.slice Ao38 t256.length co38 : Value).ownBlock)) (okp := (fun k_ => some k_ ≠ (.slice Ao19 x8_1.length co19 : Value).ownBlock ∧ some k_ ≠ (.slice Ao38 t256.length co38 : Value).ownBlock)) ?hr ?hp (fun _ hk => hk) ((show ∀ k_, wr.heap.size ≤ k_ → (fun k_ => some k_ ≠ (.slice Ao19 x8_1.length co19 : Value).ownBlock ∧ some k_ ≠ (.slice Ao38 t256.length co38 : Value).ownBlock) k_ from fun k_ hk => ⟨Kd.fresh' (Kd.N_lt (by (with_reducible repeat (first | apply Kd.N_alloc | apply Kd.N_drewN | apply Kd.N_drew)); exact HO_8.out)) k_ hk, Kd.fresh' (Kd.R_lt (by (with_reducible repeat (first | apply Kd.R_alloc | apply Kd.R_drewN | apply Kd.R_drew)); exact HO_12.out)) k_ hk⟩) _ (Nat.le_refl _)) (Below.refl _ _) (Nat.le_refl _) (by simp) ?_; (case hd => rfl); (case hg => rfl); (case hr => first | (go_simp; done) | (go_simp; rfl)); (case hp => exact (Reps.none _ _)); intro v262 w39 ho40 hb hg_ hnew_; clear hg_ hnew_; (first | rw [← Ny261.out] at ho40 | (simp only [Int.reduceToNat] at ho40; rw [← Ny261.out] at ho40)); have n0_ := Aside0.mk (Kd.N_elder' (by (with_reducible repeat (first | apply Kd.N_alloc | apply Kd.N_drewN | apply Kd.N_drew)); exact HO_8.out) (Kd.N_base ho40) hb); have n1_ := Aside0.mk (Kd.R_below (by (with_reducible repeat (first | apply Kd.R_alloc | apply Kd.R_drewN | apply Kd.R_drew)); exact HO_12.out) hb); have n2_ := Aside0.mk (Kd.N_lower ho40 (below_size (by repeat (first | (with_reducible first | exact HB.out | apply below_alloc | apply pw_below_drewN | apply below_drew1) | exact HB.out)))); have n3_ := Aside0.mk (below_step (by repeat (first | (with_reducible first | exact HB.out | apply below_alloc | apply pw_below_drewN | apply below_drew1) | exact HB.out)) hb); clear HO_8; clear HO_12; clear HB; have HO_8 := n0_; have HO_12 := n1_; have HO263 := n2_; have HB := n3_; clear n0_ n1_ n2_ n3_; clear hb ho40) | ((with_reducible refine gate_builtin (b := .append) (xs := #[.tmp 86, .tmp 87]) rfl ?_); (try (refine gate_guard (by rfl) ?_; dsimp only)); at_builtin; refine Kd.N_append_rows (Kd.slice 3 (Kd.int .i64)) (w0 := w) w.heap.size rfl (.tmp 86) (.tmp 87) 29 42 (.slice none 0 0) 24 rfl Try.underlying29 info42 rfl (by decide) (by omega) v262 y261 x8_1 _ _ _ (fun k_ => some k_ ≠ (.slice Ao38 t256.length co38 : Value).ownBlock) (fun k_ => ((fun k_ => some k_ ≠ (.slice Ao38 t256.length co38 : Value).ownBlock)) k_ ∧ some k_ ≠ (v262 : Value).ownBlock) rfl rfl ?aO ?aR (fun _ hk => hk) ?aF ?aB ?aS ?aL ?_; (case aR => exact (by skip; exact Kd.N_F (Kd.N_mono (ok' := (fun k_ => ((fun k_ => some k_ ≠ (.slice Ao38 t256.length co38 : Value).ownBlock)) k_ ∧ some k_ ≠ (v262 : Value).ownBlock)) (HO_8.out) (fun k_ hk => ⟨hk.1, hk.2⟩)))); (case aB => exact (by repeat (first | (with_reducible first | exact HB.out | apply below_alloc | apply pw_below_drewN | apply below_drew1) | exact HB.out))); (case aF => exact (fun k_ hk => Kd.fresh' (Kd.R_lt (by (with_reducible repeat (first | apply Kd.R_alloc | apply Kd.R_drewN | apply Kd.R_drew)); exact HO_12.out)) k_ hk)); (case aO => exact (by (with_reducible repeat (first | apply Kd.N_alloc | apply Kd.N_drewN | apply Kd.N_drew)); exact Kd.N_mono HO263.out (fun _ hk => hk.2))); (case aS => exact (below_size (by repeat (first | (with_reducible first | exact HB.out | apply below_alloc | apply pw_below_drewN | apply below_drew1) | exact HB.out)))); (case aL => have := LMc29.out; omega); intro v265 w41 ho hb hg hat; rw [← Ny264.out] at ho; have n0_ := Aside0.mk (Kd.N_afterv (ok := (fun k_ => some k_ ≠ (.slice Ao38 t256.length co38 : Value).ownBlock)) (by (with_reducible repeat (first | apply Kd.N_alloc | apply Kd.N_drewN | apply Kd.N_drew)); exact HO_8.out) hg hat); have n1_ := Aside0.mk (Kd.R_over' (by (with_reducible repeat (first | apply Kd.R_alloc | apply Kd.R_drewN | apply Kd.R_drew)); exact HO_12.out) (Kd.N_typed (by (with_reducible repeat (first | apply Kd.N_alloc | apply Kd.N_drewN | apply Kd.N_drew)); exact HO263.out)) (by decide) hg); have n2_ := Aside0.mk (hb); have n3_ := Aside0.mk (ho); clear HO_8; clear HO_12; clear HB; clear HO263; have HO_8 := n0_; have HO_12 := n1_; have HB := n2_; have HO266 := n3_; clear n0_ n1_ n2_ n3_; clear ho hb hg hat) | ((with_reducible refine gate_dst (N := 91) rfl ?_); (try (refine gate_guard (by rfl) ?_; dsimp only)); refine Kd.R_lit (Kd.int .i64) _ 3 ?hg (N := 91) ?hd (xs := ([wrap64 (-(wrap64 (2 + (wrap64 (Int.tmod a0 200)))))] : List Int)) (inner := [.int .i64 (wrap64 (-(wrap64 (2 + (wrap64 (Int.tmod a0 200))))))]) (ok := fun _ => True) (okp := fun _ => True) ?hr ?hp (fun _ hk => hk) trivial (Below.refl _ _) (Nat.le_refl _) (by simp) ?_; (case hd => rfl); (case hg => rfl); (case hr => first | (go_simp; done) | (go_simp; rfl)); (case hp => exact (Reps.one (show Kd.M (Kd.int .i64) _ _ _ (wrap64 (-(wrap64 (2 + (wrap64 (Int.tmod a0 200)))))) [.int .i64 (wrap64 (-(wrap64 (2 + (wrap64 (Int.tmod a0 200))))))] from rfl) (Reps.none _ _))); intro v268 w42 ho43 hb hg_ hnew_; clear hg_ hnew_; (first | rw [← Ny267.out] at ho43 | (simp only [Int.reduceToNat] at ho43; rw [← Ny267.out] at ho43)); have n0_ := Aside0.mk (Kd.N_elder' (by (with_reducible repeat (first | apply Kd.N_alloc | apply Kd.N_drewN | apply Kd.N_drew)); exact HO_8.out) (Kd.R_base ho43) hb); have n1_ := Aside0.mk (Kd.R_elder' (by (with_reducible repeat (first | apply Kd.R_alloc | apply Kd.R_drewN | apply Kd.R_drew)); exact HO_12.out) (Kd.R_base ho43) hb); have n2_ := Aside0.mk (Kd.N_elder' (by (with_reducible repeat (first | apply Kd.N_alloc | apply Kd.N_drewN | apply Kd.N_drew)); exact HO266.out) (Kd.R_base ho43) hb); have n3_ := Aside0.mk (Kd.R_lower (Kd.R_new' ho43 (Kd.R_lt (by (with_reducible repeat (first | apply Kd.R_alloc | apply Kd.R_drewN | apply Kd.R_drew)); exact HO_12.out))) (below_size (by repeat (first | (with_reducible first | exact HB.out | apply below_alloc | apply pw_below_drewN | apply below_drew1) | exact HB.out)))); have n4_ := Aside0.mk (below_step (by repeat (first | (with_reducible first | exact HB.out | apply below_alloc | apply pw_below_drewN | apply below_drew1) | exact HB.out)) hb); clear HO_8; clear HO_12; clear HO266; clear HB; have HO_8 := n0_; have HO_12 := n1_; have HO266 := n2_; have HO269 := n3_; have HB := n4_; clear n0_ n1_ n2_ n3_ n4_; clear hb ho43; obtain ⟨Ao45, co45, eo45⟩ := Kd.R_slice HO269.out; subst eo45) | ((with_reducible refine gate_builtin (b := .append) (xs := #[.tmp 88, .tmp 92]) rfl ?_); (try (refine gate_guard (by rfl) ?_; dsimp only)); at_builtin; refine Kd.N_append (Kd.slice 3 (Kd.int .i64)) (w0 := w) w.heap.size rfl (.tmp 88) (.tmp 92) 29 42 (.slice none 0 0) 24 rfl Try.underlying29 info42 rfl (by decide) (by omega) v265 y264 y267 [.slice Ao45 y267.length co45] (fun k_ => some k_ ≠ (.slice Ao38 t256.length co38 : Value).ownBlock) (fun k_ => ((fun k_ => some k_ ≠ (.slice Ao38 t256.length co38 : Value).ownBlock)) k_ ∧ some k_ ≠ (v265 : Value).ownBlock) rfl rfl ?aP (fun _ hk => hk) ?aF ?aO ?aB ?aS ?aL ?_; (case aP => exact (Kd.FK_slice_mk (Kd.R_reads' (Kd.R_mono (ok' := (fun k_ => ((fun k_ => some k_ ≠ (.slice Ao38 t256.length co38 : Value).ownBlock)) k_ ∧ some k_ ≠ (v265 : Value).ownBlock)) (Kd.R_apart' (HO269.out) (Kd.N_typed HO266.out) (by decide)) (fun k_ hk => ⟨hk.1.2, hk.2⟩))).2.1 (Kd.R_F (Kd.R_mono (ok' := (fun k_ => ((fun k_ => some k_ ≠ (.slice Ao38 t256.length co38 : Value).ownBlock)) k_ ∧ some k_ ≠ (v265 : Value).ownBlock)) (Kd.R_apart' (HO269.out) (Kd.N_typed HO266.out) (by decide)) (fun k_ hk => ⟨hk.1.2, hk.2⟩))))); (case aB => exact (by repeat (first | (with_reducible first | exact HB.out | apply below_alloc | apply pw_below_drewN | apply below_drew1) | exact HB.out))); (case aF => exact (fun k_ hk => Kd.fresh' (Kd.R_lt (by (with_reducible repeat (first | apply Kd.R_alloc | apply Kd.R_drewN | apply Kd.R_drew)); exact HO_12.out)) k_ hk)); (case aO => exact (by (with_reducible repeat (first | apply Kd.N_alloc | apply Kd.N_drewN | apply Kd.N_drew)); exact Kd.N_mono HO266.out (fun _ hk => hk.1))); (case aS => exact (below_size (by repeat (first | (with_reducible first | exact HB.out | apply below_alloc | apply pw_below_drewN | apply below_drew1) | exact HB.out)))); (case aL => have := LMc30.out; omega); intro v271 w44 ho hb hg hat; rw [← Ny270.out] at ho; have n0_ := Aside0.mk (Kd.N_afterv (ok := (fun k_ => some k_ ≠ (.slice Ao38 t256.length co38 : Value).ownBlock ∧ some k_ ≠ (.slice Ao45 y267.length co45 : Value).ownBlock)) (by (with_reducible repeat (first | apply Kd.N_alloc | apply Kd.N_drewN | apply Kd.N_drew)); exact Kd.N_mono HO_8.out (fun _ hk => ⟨⟨hk.1.1, hk.2⟩, hk.1.2⟩)) hg hat); have n1_ := Aside0.mk (Kd.R_over' (by (with_reducible repeat (first | apply Kd.R_alloc | apply Kd.R_drewN | apply Kd.R_drew)); exact HO_12.out) (Kd.N_typed (by (with_reducible repeat (first | apply Kd.N_alloc | apply Kd.N_drewN | apply Kd.N_drew)); exact HO266.out)) (by decide) hg); have n2_ := Aside0.mk (hb); have n3_ := Aside0.mk (ho); clear HO_8; clear HO_12; clear HB; clear HO266; clear HO269; have HO_8 := n0_; have HO_12 := n1_; have HB := n2_; have HO272 := n3_; clear n0_ n1_ n2_ n3_; clear ho hb hg hat) | ((with_reducible refine gate_dst (N := 95) rfl ?_); (try (refine gate_guard (by rfl) ?_; dsimp only)); refine Kd.R_lit (Kd.int .i64) _ 3 ?hg (N := 95) ?hd (xs := ([(wrap64 (1 + (Int.tmod (wrap64 (a2)) (wrap64 (2 + (wrap64 (Int.tmod a0 200)))))))] : List Int)) (inner := [.int .i64 (wrap64 (1 + (Int.tmod (wrap64 (a2)) (wrap64 (2 + (wrap64 (Int.tmod a0 200)))))))]) (ok := fun _ => True) (okp := fun _ => True) ?hr ?hp (fun _ hk => hk) trivial (Below.refl _ _) (Nat.le_refl _) (by simp) ?_; (case hd => rfl); (case hg => rfl); (case hr => first | (go_simp; done) | (go_simp; rfl)); (case hp => exact (Reps.one (show Kd.M (Kd.int .i64) _ _ _ (wrap64 (1 + (Int.tmod (wrap64 (a2)) (wrap64 (2 + (wrap64 (Int.tmod a0 200))))))) [.int .i64 (wrap64 (1 + (Int.tmod (wrap64 (a2)) (wrap64 (2 + (wrap64 (Int.tmod a0 200)))))))] from rfl) (Reps.none _ _))); intro v274 w46 ho47 hb hg_ hnew_; clear hg_ hnew_; (first | rw [← Ny273.out] at ho47 | (simp only [Int.reduceToNat] at ho47; rw [← Ny273.out] at ho47)); have n0_ := Aside0.mk (Kd.N_elder' (by (with_reducible repeat (first | apply Kd.N_alloc | apply Kd.N_drewN | apply Kd.N_drew)); exact HO_8.out) (Kd.R_base ho47) hb); have n1_ := Aside0.mk (Kd.R_elder' (by (with_reducible repeat (first | apply Kd.R_alloc | apply Kd.R_drewN | apply Kd.R_drew)); exact HO_12.out) (Kd.R_base ho47) hb); have n2_ := Aside0.mk (Kd.N_elder' (by (with_reducible repeat (first | apply Kd.N_alloc | apply Kd.N_drewN | apply Kd.N_drew)); exact HO272.out) (Kd.R_base ho47) hb); have n3_ := Aside0.mk (Kd.R_lower (Kd.R_new' ho47 (Kd.R_lt (by (with_reducible repeat (first | apply Kd.R_alloc | apply Kd.R_drewN | apply Kd.R_drew)); exact HO_12.out))) (below_size (by repeat (first | (with_reducible first | exact HB.out | apply below_alloc | apply pw_below_drewN | apply below_drew1) | exact HB.out)))); have n4_ := Aside0.mk (below_step (by repeat (first | (with_reducible first | exact HB.out | apply below_alloc | apply pw_below_drewN | apply below_drew1) | exact HB.out)) hb); clear HO_8; clear HO_12; clear HO272; clear HB; have HO_8 := n0_; have HO_12 := n1_; have HO272 := n2_; have HO275 := n3_; have HB := n4_; clear n0_ n1_ n2_ n3_ n4_; clear hb ho47; obtain ⟨Ao48, co48, eo48⟩ := Kd.N_slice HO272.out; subst eo48; obtain ⟨Ao49, co49, eo49⟩ := Kd.R_slice HO275.out; subst eo49) | ((with_reducible refine gate_callee (f := 15) rfl ?_); refine goesL_ (some 96) rfl rfl Try.func15 (by kernel_rfl) rfl #[.int .i64 (wrap64 (2 + (wrap64 (Int.tmod a0 200)))), .slice Ao48 y270.length co48, .slice Ao49 y273.length co49] rfl (by (try simp only [List.map_toArray, List.map_cons, List.map_nil]); first | done | rfl | (simp only [List.length_drop, List.length_take]; rfl)) ?_; (with_reducible refine (prop_Close.calls (wrap64 (2 + (wrap64 (Int.tmod a0 200)))) _ _ y270 _ _ y273 t276 true _ ?side1 ?side2 ?side3 ?side4 A31.out).mono ?_); (case side1 => repeat (first | exact (Kd.N_reads' HO272.out).2.2 | (with_reducible refine Kd.C_alloc ?_ _) | (with_reducible refine Kd.C_drewN ?_ _) | (with_reducible refine Kd.C_drew ?_))); (case side2 => exact (Kd.N_reads' HO272.out).2.1); (case side3 => repeat (first | exact (Kd.R_reads' HO275.out).2.2 | (with_reducible refine Kd.C_alloc ?_ _) | (with_reducible refine Kd.C_drewN ?_ _) | (with_reducible refine Kd.C_drew ?_))); (case side4 => exact (Kd.R_reads' HO275.out).2.1); rintro e w50 ⟨v278, rfl, ho0, hb⟩; refine ⟨_, rfl, ?_⟩; have n0_ := Aside0.mk (Kd.N_elder' (by (with_reducible repeat (first | apply Kd.N_alloc | apply Kd.N_drewN | apply Kd.N_drew)); exact HO_8.out) (Kd.R_base ho0) hb); have n1_ := Aside0.mk (Kd.R_elder' (by (with_reducible repeat (first | apply Kd.R_alloc | apply Kd.R_drewN | apply Kd.R_drew)); exact HO_12.out) (Kd.R_base ho0) hb); have n2_ := Aside0.mk (Kd.N_elder' (by (with_reducible repeat (first | apply Kd.N_alloc | apply Kd.N_drewN | apply Kd.N_drew)); exact HO272.out) (Kd.R_base ho0) hb); have n3_ := Aside0.mk (Kd.R_elder' (by (with_reducible repeat (first | apply Kd.R_alloc | apply Kd.R_drewN | apply Kd.R_drew)); exact HO275.out) (Kd.R_base ho0) hb); have n4_ := Aside0.mk (Kd.R_lower (Kd.R_new' (Kd.R_new' ho0 (Kd.R_lt (by (with_reducible repeat (first | apply Kd.R_alloc | apply Kd.R_drewN | apply Kd.R_drew)); exact HO_12.out))) (Kd.R_lt (by (with_reducible repeat (first | apply Kd.R_alloc | apply Kd.R_drewN | apply Kd.R_drew)); exact HO275.out))) (below_size (by repeat (first | (with_reducible first | exact HB.out | apply below_alloc | apply pw_below_drewN | apply below_drew1) | exact HB.out)))); have n5_ := Aside0.mk (below_step (by repeat (first | (with_reducible first | exact HB.out | apply below_alloc | apply pw_below_drewN | apply below_drew1) | exact HB.out)) hb); clear HO_8; clear HO_12; clear HO272; clear HO275; clear HB; have HO_8 := n0_; have HO_12 := n1_; have HO272 := n2_; have HO275 := n3_; have HO279 := n4_; have HB := n5_; clear n0_ n1_ n2_ n3_ n4_ n5_; (try clear hb); (try clear hb2); (try clear hk); (try clear hi); (try clear ho0)) | ((with_reducible refine gate_dst (N := 104) rfl ?_); (try (refine gate_guard (by rfl) ?_; dsimp only)); refine Kd.R_lit (Kd.int .i64) _ 3 ?hg (N := 104) ?hd (xs := ([wrap64 (-(wrap64 (2 + (wrap64 (Int.tmod a0 200)))))] : List Int)) (inner := [.int .i64 (wrap64 (-(wrap64 (2 + (wrap64 (Int.tmod a0 200))))))]) (ok := fun _ => True) (okp := fun _ => True) ?hr ?hp (fun _ hk => hk) trivial (Below.refl _ _) (Nat.le_refl _) (by simp) ?_; (case hd => rfl); (case hg => rfl); (case hr => first | (go_simp; done) | (go_simp; rfl)); (case hp => exact (Reps.one (show Kd.M (Kd.int .i64) _ _ _ (wrap64 (-(wrap64 (2 + (wrap64 (Int.tmod a0 200)))))) [.int .i64 (wrap64 (-(wrap64 (2 + (wrap64 (Int.tmod a0 200))))))] from rfl) (Reps.none _ _))); intro v281 w51 ho52 hb hg_ hnew_; clear hg_ hnew_; (first | rw [← Ny280.out] at ho52 | (simp only [Int.reduceToNat] at ho52; rw [← Ny280.out] at ho52)); have n0_ := Aside0.mk (Kd.N_elder' (by (with_reducible repeat (first | apply Kd.N_alloc | apply Kd.N_drewN | apply Kd.N_drew)); exact HO_8.out) (Kd.R_base ho52) hb); have n1_ := Aside0.mk (Kd.R_elder' (by (with_reducible repeat (first | apply Kd.R_alloc | apply Kd.R_drewN | apply Kd.R_drew)); exact HO_12.out) (Kd.R_base ho52) hb); have n2_ := Aside0.mk (Kd.N_elder' (by (with_reducible repeat (first | apply Kd.N_alloc | apply Kd.N_drewN | apply Kd.N_drew)); exact HO272.out) (Kd.R_base ho52) hb); have n3_ := Aside0.mk (Kd.R_elder' (by (with_reducible repeat (first | apply Kd.R_alloc | apply Kd.R_drewN | apply Kd.R_drew)); exact HO275.out) (Kd.R_base ho52) hb); have n4_ := Aside0.mk (Kd.R_elder' (by (with_reducible repeat (first | apply Kd.R_alloc | apply Kd.R_drewN | apply Kd.R_drew)); exact HO279.out) (Kd.R_base ho52) hb); have n5_ := Aside0.mk (Kd.R_lower (Kd.R_new' (Kd.R_new' (Kd.R_new' ho52 (Kd.R_lt (by (with_reducible repeat (first | apply Kd.R_alloc | apply Kd.R_drewN | apply Kd.R_drew)); exact HO_12.out))) (Kd.R_lt (by (with_reducible repeat (first | apply Kd.R_alloc | apply Kd.R_drewN | apply Kd.R_drew)); exact HO275.out))) (Kd.R_lt (by (with_reducible repeat (first | apply Kd.R_alloc | apply Kd.R_drewN | apply Kd.R_drew)); exact HO279.out))) (below_size (by repeat (first | (with_reducible first | exact HB.out | apply below_alloc | apply pw_below_drewN | apply below_drew1) | exact HB.out)))); have n6_ := Aside0.mk (below_step (by repeat (first | (with_reducible first | exact HB.out | apply below_alloc | apply pw_below_drewN | apply below_drew1) | exact HB.out)) hb); clear HO_8; clear HO_12; clear HO272; clear HO275; clear HO279; clear HB; have HO_8 := n0_; have HO_12 := n1_; have HO272 := n2_; have HO275 := n3_; have HO279 := n4_; have HO282 := n5_; have HB := n6_; clear n0_ n1_ n2_ n3_ n4_ n5_ n6_; clear hb ho52; obtain ⟨Ao53, co53, eo53⟩ := Kd.R_slice HO282.out; subst eo53) | ((with_reducible refine gate_callee (f := 15) rfl ?_); refine goesL_ (some 105) rfl rfl Try.func15 (by kernel_rfl) rfl #[.int .i64 (wrap64 (2 + (wrap64 (Int.tmod a0 200)))), .slice Ao19 x8_1.length co19, .slice Ao53 y280.length co53] rfl (by (try simp only [List.map_toArray, List.map_cons, List.map_nil]); first | done | rfl | (simp only [List.length_drop, List.length_take]; rfl)) ?_; (with_reducible refine (prop_Close.calls (wrap64 (2 + (wrap64 (Int.tmod a0 200)))) _ _ x8_1 _ _ y280 t283 false _ ?side1 ?side2 ?side3 ?side4 A32.out).mono ?_); (case side1 => repeat (first | exact (Kd.N_reads' HO_8.out).2.2 | (with_reducible refine Kd.C_alloc ?_ _) | (with_reducible refine Kd.C_drewN ?_ _) | (with_reducible refine Kd.C_drew ?_))); (case side2 => exact (Kd.N_reads' HO_8.out).2.1); (case side3 => repeat (first | exact (Kd.R_reads' HO282.out).2.2 | (with_reducible refine Kd.C_alloc ?_ _) | (with_reducible refine Kd.C_drewN ?_ _) | (with_reducible refine Kd.C_drew ?_))); (case side4 => exact (Kd.R_reads' HO282.out).2.1); rintro e w54 ⟨v285, rfl, ho0, hb⟩; refine ⟨_, rfl, ?_⟩; have n0_ := Aside0.mk (Kd.N_elder' (by (with_reducible repeat (first | apply Kd.N_alloc | apply Kd.N_drewN | apply Kd.N_drew)); exact HO_8.out) (Kd.R_base ho0) hb); have n1_ := Aside0.mk (Kd.R_elder' (by (with_reducible repeat (first | apply Kd.R_alloc | apply Kd.R_drewN | apply Kd.R_drew)); exact HO_12.out) (Kd.R_base ho0) hb); have n2_ := Aside0.mk (Kd.N_elder' (by (with_reducible repeat (first | apply Kd.N_alloc | apply Kd.N_drewN | apply Kd.N_drew)); exact HO272.out) (Kd.R_base ho0) hb); have n3_ := Aside0.mk (Kd.R_elder' (by (with_reducible repeat (first | apply Kd.R_alloc | apply Kd.R_drewN | apply Kd.R_drew)); exact HO275.out) (Kd.R_base ho0) hb); have n4_ := Aside0.mk (Kd.R_elder' (by (with_reducible repeat (first | apply Kd.R_alloc | apply Kd.R_drewN | apply Kd.R_drew)); exact HO279.out) (Kd.R_base ho0) hb); have n5_ := Aside0.mk (Kd.R_elder' (by (with_reducible repeat (first | apply Kd.R_alloc | apply Kd.R_drewN | apply Kd.R_drew)); exact HO282.out) (Kd.R_base ho0) hb); have n6_ := Aside0.mk (Kd.R_lower (Kd.R_new' (Kd.R_new' (Kd.R_new' (Kd.R_new' ho0 (Kd.R_lt (by (with_reducible repeat (first | apply Kd.R_alloc | apply Kd.R_drewN | apply Kd.R_drew)); exact HO_12.out))) (Kd.R_lt (by (with_reducible repeat (first | apply Kd.R_alloc | apply Kd.R_drewN | apply Kd.R_drew)); exact HO275.out))) (Kd.R_lt (by (with_reducible repeat (first | apply Kd.R_alloc | apply Kd.R_drewN | apply Kd.R_drew)); exact HO279.out))) (Kd.R_lt (by (with_reducible repeat (first | apply Kd.R_alloc | apply Kd.R_drewN | apply Kd.R_drew)); exact HO282.out))) (below_size (by repeat (first | (with_reducible first | exact HB.out | apply below_alloc | apply pw_below_drewN | apply below_drew1) | exact HB.out)))); have n7_ := Aside0.mk (below_step (by repeat (first | (with_reducible first | exact HB.out | apply below_alloc | apply pw_below_drewN | apply below_drew1) | exact HB.out)) hb); clear HO_8; clear HO_12; clear HO272; clear HO275; clear HO279; clear HO282; clear HB; have HO_8 := n0_; have HO_12 := n1_; have HO272 := n2_; have HO275 := n3_; have HO279 := n4_; have HO282 := n5_; have HO286 := n6_; have HB := n7_; clear n0_ n1_ n2_ n3_ n4_ n5_ n6_ n7_; (try clear hb); (try clear hb2); (try clear hk); (try clear hi); (try clear ho0); obtain ⟨Ao55, co55, eo55⟩ := Kd.R_slice HO279.out; subst eo55; obtain ⟨Ao56, co56, eo56⟩ := Kd.R_slice HO286.out; subst eo56; have p287 : 0 ≤ (0 : Int) := (by omega); have q287 : 0 < (t283.length : Int) := of_decide_eq_true (by first | (with_reducible assumption) | assumption); obtain ⟨ad287, e287, hx287_0⟩ := Kd.at_int (Kd.R_reads' HO286.out).2.2 0 p287 q287; cases e287; have qi287 : (0 < t283.length) = True := eq_true (by omega); (try rw [show ((0 : Int)).toNat = 0 from rfl] at hx287_0); (try rw [Addr.add_zero'] at hx287_0); replace p287 := eq_true p287; replace q287 := eq_true q287))
                                      go_ret
                                      exact ⟨by first | rfl | (simp [errW_none, errW_some] <;> rfl) | (simp [*, errW_none, errW_some] <;> rfl), by repeat (first | (with_reducible first | exact HB.out | apply below_alloc | apply pw_below_drewN | apply below_drew1) | exact HB.out)⟩
                                    · rw [if_neg c37] at H
                                      exact absurd H (by simp)
                                  · rw [if_neg c36] at H
                                    exact absurd H (by simp)
                              · rw [if_neg c34] at H
                                exact absurd H (by simp)
                            · replace c33 := Bool.eq_false_iff.mpr c33
                              subst c33
                              have H1 : (none) = some r := by rw [if_neg (show ¬ (false = true) by decide)] at H; exact H
                              clear H
                              have H := H1
                              clear H1
                              exact absurd H (by simp)
                          · rw [if_neg c30] at H
                            exact absurd H (by simp)
                        · rw [if_neg c29] at H
                          exact absurd H (by simp)
  · replace c5 := Bool.eq_false_iff.mpr c5
    subst c5
    have H1 : (none) = some r := by rw [if_neg (show ¬ (false = true) by decide)] at H; exact H
    clear H
    have H := H1
    clear H1
    exact absurd H (by simp)

/-- THE ONE PURE STATEMENT of manciplelaw15_PropChains: yours. -/
def manciplelaw15_PropChains.Pure : Prop := ∀ (a0 : Int) (a1 : Int) (a2 : Int), (Lit.int .u8 a0).wf = true → (Lit.int .u8 a1).wf = true → (Lit.int .u8 a2).wf = true → ∃ k, manciplelaw15_PropChains.f k a0 a1 a2 = some true
theorem manciplelaw15_PropChains.walk (P : manciplelaw15_PropChains.Pure) (a0 : Int) (a1 : Int) (a2 : Int) (w : World) (w0 : (Lit.int .u8 a0).wf = true) (w1 : (Lit.int .u8 a1).wf = true) (w2 : (Lit.int .u8 a2).wf = true) :
    Calls Try.prog 5 #[.int .u8 a0, .int .u8 a1, .int .u8 a2] w fun e w' => e = .returned (.bool true) ∧ Below w.heap.size w w' := by
  obtain ⟨k, h⟩ := P a0 a1 a2 w0 w1 w2
  refine (manciplelaw15_PropChains.calls k a0 a1 a2 true w h).mono ?_
  rintro e w' ⟨rfl, hd⟩
  exact ⟨rfl, hd⟩

end Go.Proofs.Ytjbljblhbmfbpaa.PProp
