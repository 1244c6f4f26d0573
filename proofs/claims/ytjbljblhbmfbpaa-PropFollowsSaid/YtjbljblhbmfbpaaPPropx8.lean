/- Printed by this session's program pp.py: the functions that the law uses as plain functions, and that each call comes to just what its plain function tells; in the last text the row itself. No conditions but those that stand in each statement. -/
import Derived.Test.YtjbljblhbmfbpaaPPropx0
import Derived.Test.YtjbljblhbmfbpaaPPropx1
import Derived.Test.YtjbljblhbmfbpaaPPropx2
import Derived.Test.YtjbljblhbmfbpaaPPropx6
import Derived.Test.YtjbljblhbmfbpaaPPropx7
namespace Go.Proofs.Ytjbljblhbmfbpaa.PProp
open Go.RowKit Go.Proofs.YtjbljblhbmfbpaaW.PrintWords Go.Proofs.YtjbljblhbmfbpaaW.PrintLast Go.Proofs.YtjbljblhbmfbpaaW.PrintMore
attribute [local go_sem] max2_int min2_int max_two min_two max_three min_three max_four min_four   -- for this text's walks alone
set_option linter.unusedVariables false
set_option linter.unusedSimpArgs false

/-! ### manciplelaw15_PropFollows: function 4 -/
mutual
def manciplelaw15_PropFollows.j0 : Nat → Int → List (List Int) → List Int → Bool → Option (Bool)
  | 0, _, _, _, _ => none
  | k + 1, x0, x1, x2, x27 => if x27 = true then (some true) else ((manciplelaw13_To.f k x1).bind fun t329 => ((prop_Close.f x0 t329 x2).bind fun bt332 => (manciplelaw15_PropFollows.l0 k x0 x1 x2 bt332.1 bt332.2 0)))
def manciplelaw15_PropFollows.l0 : Nat → Int → List (List Int) → List Int → List Int → Bool → Int → Option (Bool)
  | 0, _, _, _, _, _, _ => none
  | k + 1, x0, x1, x2, x7, x8, x9 => if 0 ≤ (IntKind.u64.wrap (x0)) then (if x9 < (shl .i64 1 (IntKind.u64.wrap (x0))) then ((mancipleref14_SetOf.f k x0 x9).bind fun t336 => ((mancipleref14_Model.f k t336 x0).bind fun t339 => ((mancipleref14_First.f k x1 t339).bind fun t342 => (manciplelaw15_PropFollows.l1 k x0 x1 x2 x7 x8 x9 t339 (decide (t342 < 0)) 0)))) else (if x8 = true then (some ((x7.length : Int) == 0)) else ((manciplelaw13_To.f k x1).bind fun t350 => ((prop_Close.f x0 t350 x7).bind fun bt353 => (if bt353.2 = true then (none) else ((manciplelaw7_Ints.f k x7 bt353.1).bind fun t357 => (some t357))))))) else (none)
def manciplelaw15_PropFollows.j3 : Nat → Int → List (List Int) → List Int → List Int → Bool → Int → List Bool → Bool → Option (Bool)
  | 0, _, _, _, _, _, _, _, _ => none
  | k + 1, x0, x1, x2, x7, x8, x9, x10, x11 => if x11 = true then (if x8 = true then (none) else (manciplelaw15_PropFollows.l2 k x0 x1 x2 x7 x8 x9 x10 0)) else (manciplelaw15_PropFollows.l0 k x0 x1 x2 x7 x8 (wrap64 (x9 + 1)))
def manciplelaw15_PropFollows.l2 : Nat → Int → List (List Int) → List Int → List Int → Bool → Int → List Bool → Int → Option (Bool)
  | 0, _, _, _, _, _, _, _, _ => none
  | k + 1, x0, x1, x2, x7, x8, x9, x10, x13 => if x13 < (x7.length : Int) then (if 0 ≤ x13 then (if x13 ≤ (wrap64 (x13 + 1)) then (if (wrap64 (x13 + 1)) ≤ (x7.length : Int) then ((mancipleref14_HoldsClause.f k ((x7.take ((wrap64 (x13 + 1)) : Int).toNat).drop (x13 : Int).toNat) x10).bind fun t349 => (if t349 = true then (manciplelaw15_PropFollows.l2 k x0 x1 x2 x7 x8 x9 x10 (wrap64 (x13 + 1))) else (none))) else (none)) else (none)) else (none)) else (manciplelaw15_PropFollows.l0 k x0 x1 x2 x7 x8 (wrap64 (x9 + 1)))
def manciplelaw15_PropFollows.l1 : Nat → Int → List (List Int) → List Int → List Int → Bool → Int → List Bool → Bool → Int → Option (Bool)
  | 0, _, _, _, _, _, _, _, _, _ => none
  | k + 1, x0, x1, x2, x7, x8, x9, x10, x11, x12 => if x12 < (x2.length : Int) then (if x11 = true then (if 0 ≤ x12 then (if x12 ≤ (wrap64 (x12 + 1)) then (if (wrap64 (x12 + 1)) ≤ (x2.length : Int) then ((mancipleref14_HoldsClause.f k ((x2.take ((wrap64 (x12 + 1)) : Int).toNat).drop (x12 : Int).toNat) x10).bind fun t344 => (manciplelaw15_PropFollows.l1 k x0 x1 x2 x7 x8 x9 x10 t344 (wrap64 (x12 + 1)))) else (none)) else (none)) else (none)) else (manciplelaw15_PropFollows.j3 k x0 x1 x2 x7 x8 x9 x10 x11)) else (manciplelaw15_PropFollows.j3 k x0 x1 x2 x7 x8 x9 x10 x11)
end
def manciplelaw15_PropFollows.f (k : Nat) (a0 : Int) (l1 : List (List Int)) (l2 : List Int) : Option (Bool) := (manciplelaw15_known.f k).bind fun t326 => (if t326 = true then ((manciplelaw15_Small.f k a0 l1 10).bind fun t327 => (if t327 = true then ((manciplelaw15_Lits.f k a0 l2).bind fun t328 => (manciplelaw15_PropFollows.j0 k a0 l1 l2 (!t328))) else (manciplelaw15_PropFollows.j0 k a0 l1 l2 true))) else (none))
theorem manciplelaw15_PropFollows.mono_l : ∀ k, (∀ y0 y1 y2 y3, LeO (manciplelaw15_PropFollows.j0 k y0 y1 y2 y3) (manciplelaw15_PropFollows.j0 (k + 1) y0 y1 y2 y3)) ∧ (∀ y0 y1 y2 y3 y4 y5, LeO (manciplelaw15_PropFollows.l0 k y0 y1 y2 y3 y4 y5) (manciplelaw15_PropFollows.l0 (k + 1) y0 y1 y2 y3 y4 y5)) ∧ (∀ y0 y1 y2 y3 y4 y5 y6 y7, LeO (manciplelaw15_PropFollows.j3 k y0 y1 y2 y3 y4 y5 y6 y7) (manciplelaw15_PropFollows.j3 (k + 1) y0 y1 y2 y3 y4 y5 y6 y7)) ∧ (∀ y0 y1 y2 y3 y4 y5 y6 y7, LeO (manciplelaw15_PropFollows.l2 k y0 y1 y2 y3 y4 y5 y6 y7) (manciplelaw15_PropFollows.l2 (k + 1) y0 y1 y2 y3 y4 y5 y6 y7)) ∧ (∀ y0 y1 y2 y3 y4 y5 y6 y7 y8, LeO (manciplelaw15_PropFollows.l1 k y0 y1 y2 y3 y4 y5 y6 y7 y8) (manciplelaw15_PropFollows.l1 (k + 1) y0 y1 y2 y3 y4 y5 y6 y7 y8))
  | 0 => ⟨fun _ _ _ _ r h => by simp [manciplelaw15_PropFollows.j0] at h, fun _ _ _ _ _ _ r h => by simp [manciplelaw15_PropFollows.l0] at h, fun _ _ _ _ _ _ _ _ r h => by simp [manciplelaw15_PropFollows.j3] at h, fun _ _ _ _ _ _ _ _ r h => by simp [manciplelaw15_PropFollows.l2] at h, fun _ _ _ _ _ _ _ _ _ r h => by simp [manciplelaw15_PropFollows.l1] at h⟩
  | k + 1 => by
    obtain ⟨ih0, ih1, ih2, ih3, ih4⟩ := manciplelaw15_PropFollows.mono_l k
    refine ⟨?_, ?_, ?_, ?_, ?_⟩
    · intro y0 y1 y2 y3
      unfold manciplelaw15_PropFollows.j0
      repeat' first
      | (with_reducible exact ih0 _ _ _ _)
      | (with_reducible exact ih1 _ _ _ _ _ _)
      | (with_reducible exact ih2 _ _ _ _ _ _ _ _)
      | (with_reducible exact ih3 _ _ _ _ _ _ _ _)
      | (with_reducible exact ih4 _ _ _ _ _ _ _ _ _)
      | (with_reducible exact manciplelaw13_To.mono _ _)
      | (with_reducible exact manciplelaw15_Lits.mono _ _ _)
      | (with_reducible exact manciplelaw15_Small.mono _ _ _ _)
      | (with_reducible exact manciplelaw15_known.mono _)
      | (with_reducible exact manciplelaw7_Ints.mono _ _ _)
      | (with_reducible exact mancipleref14_First.mono _ _ _)
      | (with_reducible exact mancipleref14_HoldsClause.mono _ _ _)
      | (with_reducible exact mancipleref14_Model.mono _ _ _)
      | (with_reducible exact mancipleref14_SetOf.mono _ _ _)
      | (with_reducible exact LeO.refl _)
      | (with_reducible exact LeO.none _)
      | (with_reducible refine LeO.ite ?_ ?_)
      | (with_reducible refine LeO.bind ?_ (fun _ => ?_))
      | exact ih0 _ _ _ _
      | exact ih1 _ _ _ _ _ _
      | exact ih2 _ _ _ _ _ _ _ _
      | exact ih3 _ _ _ _ _ _ _ _
      | exact ih4 _ _ _ _ _ _ _ _ _
      | exact manciplelaw13_To.mono _ _
      | exact manciplelaw15_Lits.mono _ _ _
      | exact manciplelaw15_Small.mono _ _ _ _
      | exact manciplelaw15_known.mono _
      | exact manciplelaw7_Ints.mono _ _ _
      | exact mancipleref14_First.mono _ _ _
      | exact mancipleref14_HoldsClause.mono _ _ _
      | exact mancipleref14_Model.mono _ _ _
      | exact mancipleref14_SetOf.mono _ _ _
      | exact LeO.none _
      | refine LeO.ite ?_ ?_
      | refine LeO.bind ?_ (fun _ => ?_)
    · intro y0 y1 y2 y3 y4 y5
      unfold manciplelaw15_PropFollows.l0
      repeat' first
      | (with_reducible exact ih0 _ _ _ _)
      | (with_reducible exact ih1 _ _ _ _ _ _)
      | (with_reducible exact ih2 _ _ _ _ _ _ _ _)
      | (with_reducible exact ih3 _ _ _ _ _ _ _ _)
      | (with_reducible exact ih4 _ _ _ _ _ _ _ _ _)
      | (with_reducible exact manciplelaw13_To.mono _ _)
      | (with_reducible exact manciplelaw15_Lits.mono _ _ _)
      | (with_reducible exact manciplelaw15_Small.mono _ _ _ _)
      | (with_reducible exact manciplelaw15_known.mono _)
      | (with_reducible exact manciplelaw7_Ints.mono _ _ _)
      | (with_reducible exact mancipleref14_First.mono _ _ _)
      | (with_reducible exact mancipleref14_HoldsClause.mono _ _ _)
      | (with_reducible exact mancipleref14_Model.mono _ _ _)
      | (with_reducible exact mancipleref14_SetOf.mono _ _ _)
      | (with_reducible exact LeO.refl _)
      | (with_reducible exact LeO.none _)
      | (with_reducible refine LeO.ite ?_ ?_)
      | (with_reducible refine LeO.bind ?_ (fun _ => ?_))
      | exact ih0 _ _ _ _
      | exact ih1 _ _ _ _ _ _
      | exact ih2 _ _ _ _ _ _ _ _
      | exact ih3 _ _ _ _ _ _ _ _
      | exact ih4 _ _ _ _ _ _ _ _ _
      | exact manciplelaw13_To.mono _ _
      | exact manciplelaw15_Lits.mono _ _ _
      | exact manciplelaw15_Small.mono _ _ _ _
      | exact manciplelaw15_known.mono _
      | exact manciplelaw7_Ints.mono _ _ _
      | exact mancipleref14_First.mono _ _ _
      | exact mancipleref14_HoldsClause.mono _ _ _
      | exact mancipleref14_Model.mono _ _ _
      | exact mancipleref14_SetOf.mono _ _ _
      | exact LeO.none _
      | refine LeO.ite ?_ ?_
      | refine LeO.bind ?_ (fun _ => ?_)
    · intro y0 y1 y2 y3 y4 y5 y6 y7
      unfold manciplelaw15_PropFollows.j3
      repeat' first
      | (with_reducible exact ih0 _ _ _ _)
      | (with_reducible exact ih1 _ _ _ _ _ _)
      | (with_reducible exact ih2 _ _ _ _ _ _ _ _)
      | (with_reducible exact ih3 _ _ _ _ _ _ _ _)
      | (with_reducible exact ih4 _ _ _ _ _ _ _ _ _)
      | (with_reducible exact manciplelaw13_To.mono _ _)
      | (with_reducible exact manciplelaw15_Lits.mono _ _ _)
      | (with_reducible exact manciplelaw15_Small.mono _ _ _ _)
      | (with_reducible exact manciplelaw15_known.mono _)
      | (with_reducible exact manciplelaw7_Ints.mono _ _ _)
      | (with_reducible exact mancipleref14_First.mono _ _ _)
      | (with_reducible exact mancipleref14_HoldsClause.mono _ _ _)
      | (with_reducible exact mancipleref14_Model.mono _ _ _)
      | (with_reducible exact mancipleref14_SetOf.mono _ _ _)
      | (with_reducible exact LeO.refl _)
      | (with_reducible exact LeO.none _)
      | (with_reducible refine LeO.ite ?_ ?_)
      | (with_reducible refine LeO.bind ?_ (fun _ => ?_))
      | exact ih0 _ _ _ _
      | exact ih1 _ _ _ _ _ _
      | exact ih2 _ _ _ _ _ _ _ _
      | exact ih3 _ _ _ _ _ _ _ _
      | exact ih4 _ _ _ _ _ _ _ _ _
      | exact manciplelaw13_To.mono _ _
      | exact manciplelaw15_Lits.mono _ _ _
      | exact manciplelaw15_Small.mono _ _ _ _
      | exact manciplelaw15_known.mono _
      | exact manciplelaw7_Ints.mono _ _ _
      | exact mancipleref14_First.mono _ _ _
      | exact mancipleref14_HoldsClause.mono _ _ _
      | exact mancipleref14_Model.mono _ _ _
      | exact mancipleref14_SetOf.mono _ _ _
      | exact LeO.none _
      | refine LeO.ite ?_ ?_
      | refine LeO.bind ?_ (fun _ => ?_)
    · intro y0 y1 y2 y3 y4 y5 y6 y7
      unfold manciplelaw15_PropFollows.l2
      repeat' first
      | (with_reducible exact ih0 _ _ _ _)
      | (with_reducible exact ih1 _ _ _ _ _ _)
      | (with_reducible exact ih2 _ _ _ _ _ _ _ _)
      | (with_reducible exact ih3 _ _ _ _ _ _ _ _)
      | (with_reducible exact ih4 _ _ _ _ _ _ _ _ _)
      | (with_reducible exact manciplelaw13_To.mono _ _)
      | (with_reducible exact manciplelaw15_Lits.mono _ _ _)
      | (with_reducible exact manciplelaw15_Small.mono _ _ _ _)
      | (with_reducible exact manciplelaw15_known.mono _)
      | (with_reducible exact manciplelaw7_Ints.mono _ _ _)
      | (with_reducible exact mancipleref14_First.mono _ _ _)
      | (with_reducible exact mancipleref14_HoldsClause.mono _ _ _)
      | (with_reducible exact mancipleref14_Model.mono _ _ _)
      | (with_reducible exact mancipleref14_SetOf.mono _ _ _)
      | (with_reducible exact LeO.refl _)
      | (with_reducible exact LeO.none _)
      | (with_reducible refine LeO.ite ?_ ?_)
      | (with_reducible refine LeO.bind ?_ (fun _ => ?_))
      | exact ih0 _ _ _ _
      | exact ih1 _ _ _ _ _ _
      | exact ih2 _ _ _ _ _ _ _ _
      | exact ih3 _ _ _ _ _ _ _ _
      | exact ih4 _ _ _ _ _ _ _ _ _
      | exact manciplelaw13_To.mono _ _
      | exact manciplelaw15_Lits.mono _ _ _
      | exact manciplelaw15_Small.mono _ _ _ _
      | exact manciplelaw15_known.mono _
      | exact manciplelaw7_Ints.mono _ _ _
      | exact mancipleref14_First.mono _ _ _
      | exact mancipleref14_HoldsClause.mono _ _ _
      | exact mancipleref14_Model.mono _ _ _
      | exact mancipleref14_SetOf.mono _ _ _
      | exact LeO.none _
      | refine LeO.ite ?_ ?_
      | refine LeO.bind ?_ (fun _ => ?_)
    · intro y0 y1 y2 y3 y4 y5 y6 y7 y8
      unfold manciplelaw15_PropFollows.l1
      repeat' first
      | (with_reducible exact ih0 _ _ _ _)
      | (with_reducible exact ih1 _ _ _ _ _ _)
      | (with_reducible exact ih2 _ _ _ _ _ _ _ _)
      | (with_reducible exact ih3 _ _ _ _ _ _ _ _)
      | (with_reducible exact ih4 _ _ _ _ _ _ _ _ _)
      | (with_reducible exact manciplelaw13_To.mono _ _)
      | (with_reducible exact manciplelaw15_Lits.mono _ _ _)
      | (with_reducible exact manciplelaw15_Small.mono _ _ _ _)
      | (with_reducible exact manciplelaw15_known.mono _)
      | (with_reducible exact manciplelaw7_Ints.mono _ _ _)
      | (with_reducible exact mancipleref14_First.mono _ _ _)
      | (with_reducible exact mancipleref14_HoldsClause.mono _ _ _)
      | (with_reducible exact mancipleref14_Model.mono _ _ _)
      | (with_reducible exact mancipleref14_SetOf.mono _ _ _)
      | (with_reducible exact LeO.refl _)
      | (with_reducible exact LeO.none _)
      | (with_reducible refine LeO.ite ?_ ?_)
      | (with_reducible refine LeO.bind ?_ (fun _ => ?_))
      | exact ih0 _ _ _ _
      | exact ih1 _ _ _ _ _ _
      | exact ih2 _ _ _ _ _ _ _ _
      | exact ih3 _ _ _ _ _ _ _ _
      | exact ih4 _ _ _ _ _ _ _ _ _
      | exact manciplelaw13_To.mono _ _
      | exact manciplelaw15_Lits.mono _ _ _
      | exact manciplelaw15_Small.mono _ _ _ _
      | exact manciplelaw15_known.mono _
      | exact manciplelaw7_Ints.mono _ _ _
      | exact mancipleref14_First.mono _ _ _
      | exact mancipleref14_HoldsClause.mono _ _ _
      | exact mancipleref14_Model.mono _ _ _
      | exact mancipleref14_SetOf.mono _ _ _
      | exact LeO.none _
      | refine LeO.ite ?_ ?_
      | refine LeO.bind ?_ (fun _ => ?_)
theorem manciplelaw15_PropFollows.mono : ∀ a0 a1 a2 k, LeO (manciplelaw15_PropFollows.f k a0 a1 a2) (manciplelaw15_PropFollows.f (k + 1) a0 a1 a2) := by
  intro a0 a1 a2 k
  obtain ⟨ih0, ih1, ih2, ih3, ih4⟩ := manciplelaw15_PropFollows.mono_l k
  unfold manciplelaw15_PropFollows.f
  repeat' first
      | (with_reducible exact ih0 _ _ _ _)
      | (with_reducible exact ih1 _ _ _ _ _ _)
      | (with_reducible exact ih2 _ _ _ _ _ _ _ _)
      | (with_reducible exact ih3 _ _ _ _ _ _ _ _)
      | (with_reducible exact ih4 _ _ _ _ _ _ _ _ _)
      | (with_reducible exact manciplelaw13_To.mono _ _)
      | (with_reducible exact manciplelaw15_Lits.mono _ _ _)
      | (with_reducible exact manciplelaw15_Small.mono _ _ _ _)
      | (with_reducible exact manciplelaw15_known.mono _)
      | (with_reducible exact manciplelaw7_Ints.mono _ _ _)
      | (with_reducible exact mancipleref14_First.mono _ _ _)
      | (with_reducible exact mancipleref14_HoldsClause.mono _ _ _)
      | (with_reducible exact mancipleref14_Model.mono _ _ _)
      | (with_reducible exact mancipleref14_SetOf.mono _ _ _)
      | (with_reducible exact LeO.refl _)
      | (with_reducible exact LeO.none _)
      | (with_reducible refine LeO.ite ?_ ?_)
      | (with_reducible refine LeO.bind ?_ (fun _ => ?_))
      | exact ih0 _ _ _ _
      | exact ih1 _ _ _ _ _ _
      | exact ih2 _ _ _ _ _ _ _ _
      | exact ih3 _ _ _ _ _ _ _ _
      | exact ih4 _ _ _ _ _ _ _ _ _
      | exact manciplelaw13_To.mono _ _
      | exact manciplelaw15_Lits.mono _ _ _
      | exact manciplelaw15_Small.mono _ _ _ _
      | exact manciplelaw15_known.mono _
      | exact manciplelaw7_Ints.mono _ _ _
      | exact mancipleref14_First.mono _ _ _
      | exact mancipleref14_HoldsClause.mono _ _ _
      | exact mancipleref14_Model.mono _ _ _
      | exact mancipleref14_SetOf.mono _ _ _
      | exact LeO.none _
      | refine LeO.ite ?_ ?_
      | refine LeO.bind ?_ (fun _ => ?_)
set_option maxHeartbeats 8000000 in
set_option maxRecDepth 100000 in
theorem manciplelaw15_PropFollows.calls (k : Nat) (a0 : Int) (A1 : Option Addr) (c1 : Nat) (l1 : List (List Int)) (A2 : Option Addr) (c2 : Nat) (l2 : List Int) (r : Bool) (w : World) (hr1 : Kd.C (Kd.slice 3 (Kd.int .i64)) w A1 l1.length l1) (hc1 : l1.length ≤ c1) (hr2 : Kd.C (Kd.int .i64) w A2 l2.length l2) (hc2 : l2.length ≤ c2) (h : manciplelaw15_PropFollows.f k a0 l1 l2 = some r) :
    Calls Try.prog 4 #[.int .i64 a0, .slice A1 l1.length c1, .slice A2 l2.length c2] w fun e w' => e = .returned (.bool r) ∧ Below w.heap.size w w' := by
  have HR1 := Aside0.mk hr1
  have HC1 := Aside0.mk hc1
  clear hr1 hc1
  have HR2 := Aside0.mk hr2
  have HC2 := Aside0.mk hc2
  clear hr2 hc2
  have HB := Aside0.mk (Below.refl w.heap.size w)
  have H : ((manciplelaw15_known.f k).bind fun t326 => (if t326 = true then ((manciplelaw15_Small.f k a0 l1 10).bind fun t327 => (if t327 = true then ((manciplelaw15_Lits.f k a0 l2).bind fun t328 => (manciplelaw15_PropFollows.j0 k a0 l1 l2 (!t328))) else (manciplelaw15_PropFollows.j0 k a0 l1 l2 true))) else (none))) = some r := h
  clear h
  replace H := Option.bind_eq_some_iff.mp H
  obtain ⟨t326, A40, H⟩ := H
  replace H : (if t326 = true then ((manciplelaw15_Small.f k a0 l1 10).bind fun t327 => (if t327 = true then ((manciplelaw15_Lits.f k a0 l2).bind fun t328 => (manciplelaw15_PropFollows.j0 k a0 l1 l2 (!t328))) else (manciplelaw15_PropFollows.j0 k a0 l1 l2 true))) else (none)) = some r := H
  have A4 := Aside0.mk A40
  clear A40
  by_cases c5 : t326 = true
  · subst c5
    have H1 : ((manciplelaw15_Small.f k a0 l1 10).bind fun t327 => (if t327 = true then ((manciplelaw15_Lits.f k a0 l2).bind fun t328 => (manciplelaw15_PropFollows.j0 k a0 l1 l2 (!t328))) else (manciplelaw15_PropFollows.j0 k a0 l1 l2 true))) = some r := by rw [if_pos rfl] at H; exact H
    clear H
    have H := H1
    clear H1
    have HC6 := Aside0.mk H
    clear H
    go_enter Try.func4, Try.ntmps4
    go_upto_region 3 with (first | ((with_reducible refine gate_callee (f := 12) rfl ?_); refine goesL_ (some 16) rfl rfl Try.func12 (by kernel_rfl) rfl #[] rfl (by (try simp only [List.map_toArray, List.map_cons, List.map_nil]); first | done | rfl | (simp only [List.length_drop, List.length_take]; rfl)) ?_; (with_reducible refine (manciplelaw15_known.calls k  true _ A4.out).mono ?_); rintro e w7 ⟨rfl, hb⟩; refine ⟨_, rfl, ?_⟩; have n0_ := Aside0.mk (below_step (by repeat (first | (with_reducible first | exact HB.out | apply below_alloc | apply pw_below_drewN | apply below_drew1) | exact HB.out)) hb); clear HB; have HB := n0_; clear n0_; (try clear hb); (try clear hb2); (try clear hk); (try clear hi)))
    (try simp only [Act.put, List.setIfInBounds_toArray, List.set_cons_zero, List.set_cons_succ])
    go_cut [27] (fun v27 wc => ∃ (kq : Nat) (x27_5 : Bool), v27 = .bool x27_5 ∧ Aside0 (manciplelaw15_PropFollows.j0 kq a0 l1 l2 x27_5 = some r) ∧ Aside0 (kq ≤ k) ∧ Aside0 (Below w.heap.size w wc))
    case first =>
      have H := HC6.out
      clear HC6
      replace H := Option.bind_eq_some_iff.mp H
      obtain ⟨t327, A80, H⟩ := H
      replace H : (if t327 = true then ((manciplelaw15_Lits.f k a0 l2).bind fun t328 => (manciplelaw15_PropFollows.j0 k a0 l1 l2 (!t328))) else (manciplelaw15_PropFollows.j0 k a0 l1 l2 true)) = some r := H
      have A8 := Aside0.mk A80
      clear A80
      by_cases c9 : t327 = true
      · subst c9
        have H1 : ((manciplelaw15_Lits.f k a0 l2).bind fun t328 => (manciplelaw15_PropFollows.j0 k a0 l1 l2 (!t328))) = some r := by rw [if_pos rfl] at H; exact H
        clear H
        have H := H1
        clear H1
        replace H := Option.bind_eq_some_iff.mp H
        obtain ⟨t328, A100, H⟩ := H
        replace H : (manciplelaw15_PropFollows.j0 k a0 l1 l2 (!t328)) = some r := H
        have A10 := Aside0.mk A100
        clear A100
        have H' := Aside0.mk H
        clear H
        go_wp2_with (first | ((with_reducible refine gate_callee (f := 13) rfl ?_); refine goesL_ (some 20) rfl rfl Try.func13 (by kernel_rfl) rfl #[.int .i64 a0, .slice A1 l1.length c1, .int .i64 10] rfl (by (try simp only [List.map_toArray, List.map_cons, List.map_nil]); first | done | rfl | (simp only [List.length_drop, List.length_take]; rfl)) ?_; (with_reducible refine (manciplelaw15_Small.calls k a0 _ _ l1 10 true _ ?side1 ?side2 A8.out).mono ?_); (case side1 => repeat (first | exact (Kd.C_below HR1.out HB.out) | (with_reducible refine Kd.C_alloc ?_ _) | (with_reducible refine Kd.C_drewN ?_ _) | (with_reducible refine Kd.C_drew ?_))); (case side2 => exact HC1.out); rintro e w' ⟨rfl, ⟨nd, rfl⟩⟩; refine ⟨_, rfl, ?_⟩) | (go_at_call 14; (with_reducible refine (manciplelaw15_Lits.calls k a0 _ _ l2 t328 _ ?side1 ?side2 A10.out).mono ?_); (case side1 => repeat (first | exact (Kd.C_below HR2.out (by repeat (first | (with_reducible first | exact HB.out | apply below_alloc | apply pw_below_drewN | apply below_drew1) | exact HB.out))) | (with_reducible refine Kd.C_alloc ?_ _) | (with_reducible refine Kd.C_drewN ?_ _) | (with_reducible refine Kd.C_drew ?_))); (case side2 => exact HC2.out); rintro e w' ⟨rfl, ⟨nd, rfl⟩⟩))
        go_meet
        case rel => exact ⟨_, (!t328), (by first | rfl | (simp; done) | (simp [*]; done)), H', ⟨by first | omega | exact Nat.le_refl _⟩, ⟨by repeat (first | (with_reducible first | exact HB.out | apply below_alloc | apply pw_below_drewN | apply below_drew1) | exact HB.out)⟩⟩
      · replace c9 := Bool.eq_false_iff.mpr c9
        subst c9
        have H1 : (manciplelaw15_PropFollows.j0 k a0 l1 l2 true) = some r := by rw [if_neg (show ¬ (false = true) by decide)] at H; exact H
        clear H
        have H := H1
        clear H1
        have H' := Aside0.mk H
        clear H
        go_wp2_with (first | ((with_reducible refine gate_callee (f := 13) rfl ?_); refine goesL_ (some 20) rfl rfl Try.func13 (by kernel_rfl) rfl #[.int .i64 a0, .slice A1 l1.length c1, .int .i64 10] rfl (by (try simp only [List.map_toArray, List.map_cons, List.map_nil]); first | done | rfl | (simp only [List.length_drop, List.length_take]; rfl)) ?_; (with_reducible refine (manciplelaw15_Small.calls k a0 _ _ l1 10 false _ ?side1 ?side2 A8.out).mono ?_); (case side1 => repeat (first | exact (Kd.C_below HR1.out HB.out) | (with_reducible refine Kd.C_alloc ?_ _) | (with_reducible refine Kd.C_drewN ?_ _) | (with_reducible refine Kd.C_drew ?_))); (case side2 => exact HC1.out); rintro e w' ⟨rfl, ⟨nd, rfl⟩⟩; refine ⟨_, rfl, ?_⟩))
        go_meet
        case rel => exact ⟨_, (true), (by first | rfl | (simp; done) | (simp [*]; done)), H', ⟨by first | omega | exact Nat.le_refl _⟩, ⟨by repeat (first | (with_reducible first | exact HB.out | apply below_alloc | apply pw_below_drewN | apply below_drew1) | exact HB.out)⟩⟩
    case rest =>
      clear HC6
      try clear c1
      try clear c2
      try clear p2
      try clear c4
      try clear c5
      try clear c9
      obtain ⟨kq, x27_5, rfl, HA, HJ5, HB⟩ := hcut
      cases kq with
      | zero => exact absurd HA.out (by simp [manciplelaw15_PropFollows.j0])
      | succ kj5 =>
        have H := HA.out
        clear HA
        simp only [manciplelaw15_PropFollows.j0] at H
        by_cases c11 : x27_5 = true
        · subst c11
          have H1 : (some true) = some r := by rw [if_pos rfl] at H; exact H
          clear H
          have H := H1
          clear H1
          obtain rfl := Option.some.inj H
          go_wp2
          go_ret
          exact ⟨by first | rfl | (simp [errW_none, errW_some] <;> rfl) | (simp [*, errW_none, errW_some] <;> rfl), by repeat (first | (with_reducible first | exact HB.out | apply below_alloc | apply pw_below_drewN | apply below_drew1) | exact HB.out)⟩
        · replace c11 := Bool.eq_false_iff.mpr c11
          subst c11
          have H1 : ((manciplelaw13_To.f kj5 l1).bind fun t329 => ((prop_Close.f a0 t329 l2).bind fun bt332 => (manciplelaw15_PropFollows.l0 kj5 a0 l1 l2 bt332.1 bt332.2 0))) = some r := by rw [if_neg (show ¬ (false = true) by decide)] at H; exact H
          clear H
          have H := H1
          clear H1
          replace H := Option.bind_eq_some_iff.mp H
          obtain ⟨t329, A120, H⟩ := H
          replace H : ((prop_Close.f a0 t329 l2).bind fun bt332 => (manciplelaw15_PropFollows.l0 kj5 a0 l1 l2 bt332.1 bt332.2 0)) = some r := H
          have A12 := Aside0.mk A120
          clear A120
          replace H := Option.bind_eq_some_iff.mp H
          obtain ⟨⟨t332, t333⟩, A130, H⟩ := H
          replace H : (manciplelaw15_PropFollows.l0 kj5 a0 l1 l2 t332 t333 0) = some r := H
          have A13 := Aside0.mk A130
          clear A130
          have H' := Aside0.mk H
          clear H
          go_wp2_with (first | ((with_reducible refine gate_callee (f := 16) rfl ?_); refine goesL_ (some 31) rfl rfl Try.func16 (by kernel_rfl) rfl #[.slice A1 l1.length c1] rfl (by (try simp only [List.map_toArray, List.map_cons, List.map_nil]); first | done | rfl | (simp only [List.length_drop, List.length_take]; rfl)) ?_; (with_reducible refine (manciplelaw13_To.calls kj5 _ _ l1 t329 _ ?side1 ?side2 A12.out).mono ?_); (case side1 => repeat (first | exact (Kd.C_below HR1.out HB.out) | (with_reducible refine Kd.C_alloc ?_ _) | (with_reducible refine Kd.C_drewN ?_ _) | (with_reducible refine Kd.C_drew ?_))); (case side2 => exact HC1.out); rintro e w14 ⟨v330, rfl, ho0, hb⟩; refine ⟨_, rfl, ?_⟩; have n0_ := Aside0.mk (Kd.S_lower ho0 (below_size (by repeat (first | (with_reducible first | exact HB.out | apply below_alloc | apply pw_below_drewN | apply below_drew1) | exact HB.out)))); have n1_ := Aside0.mk (below_step (by repeat (first | (with_reducible first | exact HB.out | apply below_alloc | apply pw_below_drewN | apply below_drew1) | exact HB.out)) hb); clear HB; have HO331 := n0_; have HB := n1_; clear n0_ n1_; (try clear hb); (try clear hb2); (try clear hk); (try clear hi); (try clear ho0); obtain ⟨Ao15, co15, eo15⟩ := Kd.S_slice HO331.out; subst eo15) | ((with_reducible refine gate_callee (f := 15) rfl ?_); refine goesL_ (some 33) rfl rfl Try.func15 (by kernel_rfl) rfl #[.int .i64 a0, .slice Ao15 t329.length co15, .slice A2 l2.length c2] rfl (by (try simp only [List.map_toArray, List.map_cons, List.map_nil]); first | done | rfl | (simp only [List.length_drop, List.length_take]; rfl)) ?_; (with_reducible refine (prop_Close.calls a0 _ _ t329 _ _ l2 t332 t333 _ ?side1 ?side2 ?side3 ?side4 A13.out).mono ?_); (case side1 => repeat (first | exact (Kd.S_reads' HO331.out).2.2 | (with_reducible refine Kd.C_alloc ?_ _) | (with_reducible refine Kd.C_drewN ?_ _) | (with_reducible refine Kd.C_drew ?_))); (case side2 => exact (Kd.S_reads' HO331.out).2.1); (case side3 => repeat (first | exact (Kd.C_below HR2.out HB.out) | (with_reducible refine Kd.C_alloc ?_ _) | (with_reducible refine Kd.C_drewN ?_ _) | (with_reducible refine Kd.C_drew ?_))); (case side4 => exact HC2.out); rintro e w16 ⟨v334, rfl, ho0, hb⟩; refine ⟨_, rfl, ?_⟩; have n0_ := Aside0.mk (Kd.S_elder' (by (with_reducible repeat (first | apply Kd.S_alloc | apply Kd.S_drewN | apply Kd.S_drew)); exact HO331.out) (Kd.R_base ho0) hb); have n1_ := Aside0.mk (Kd.R_lower ho0 (below_size (by repeat (first | (with_reducible first | exact HB.out | apply below_alloc | apply pw_below_drewN | apply below_drew1) | exact HB.out)))); have n2_ := Aside0.mk (below_step (by repeat (first | (with_reducible first | exact HB.out | apply below_alloc | apply pw_below_drewN | apply below_drew1) | exact HB.out)) hb); clear HO331; clear HB; have HO331 := n0_; have HO335 := n1_; have HB := n2_; clear n0_ n1_ n2_; (try clear hb); (try clear hb2); (try clear hk); (try clear hi); (try clear ho0)))
          go_loopg [9] kj5 (fun kq v9 w' => ∃ (x9_2 : Int), v9 = .int .i64 x9_2 ∧ Aside0 (manciplelaw15_PropFollows.l0 kq a0 l1 l2 t332 t333 x9_2 = some r) ∧ Aside0 (kq ≤ kj5) ∧ Aside0 (Kd.R (Kd.int .i64) 3 w' w.heap.size (fun _ => True) v334 t332) ∧ Aside0 (Below w.heap.size w w'))
          case atStart => exact ⟨(0), (by first | rfl | (simp; done) | (simp [*]; done)), H', ⟨Nat.le_refl _⟩, ⟨by (with_reducible repeat (first | apply Kd.R_alloc | apply Kd.R_drewN | apply Kd.R_drew)); exact HO335.out⟩, ⟨by repeat (first | (with_reducible first | exact HB.out | apply below_alloc | apply pw_below_drewN | apply below_drew1) | exact HB.out)⟩⟩
          case round =>
            clear H'
            try clear c1
            try clear c2
            try clear p2
            try clear c4
            try clear c5
            try clear c9
            try clear c11
            try clear c12
            try clear c13
            try clear c15
            try clear c16
            try clear p2
            obtain ⟨x9_2, rfl, HA, HK2, HO_7, HB⟩ := hrel
            cases gk with
            | zero => exact absurd HA.out (by simp [manciplelaw15_PropFollows.l0])
            | succ k2 =>
              have H := HA.out
              clear HA
              simp only [manciplelaw15_PropFollows.l0] at H
              obtain ⟨ji17, hji17⟩ : ∃ j_ : Int, (IntKind.u64.wrap (a0)) = j_ := ⟨_, rfl⟩
              replace H : (if 0 ≤ (ji17) then (if x9_2 < (shl .i64 1 (ji17)) then ((mancipleref14_SetOf.f k2 a0 x9_2).bind fun t336 => ((mancipleref14_Model.f k2 t336 a0).bind fun t339 => ((mancipleref14_First.f k2 l1 t339).bind fun t342 => (manciplelaw15_PropFollows.l1 k2 a0 l1 l2 t332 t333 x9_2 t339 (decide (t342 < 0)) 0)))) else (if t333 = true then (some ((t332.length : Int) == 0)) else ((manciplelaw13_To.f k2 l1).bind fun t350 => ((prop_Close.f a0 t350 t332).bind fun bt353 => (if bt353.2 = true then (none) else ((manciplelaw7_Ints.f k2 t332 bt353.1).bind fun t357 => (some t357))))))) else (none)) = some r := by first | (rw [hji17] at H; exact H) | (simp only [hji17] at H ⊢; exact H)
              by_cases c18 : 0 ≤ (ji17)
              · rw [if_pos c18] at H
                have c18b0 := eq_true c18
                have c18b1 : decide (0 ≤ (ji17)) = true := decide_eq_true c18
                clear c18
                obtain ⟨ji19, hji19⟩ : ∃ j_ : Int, (shl .i64 1 (ji17)) = j_ := ⟨_, rfl⟩
                replace H : (if x9_2 < (ji19) then ((mancipleref14_SetOf.f k2 a0 x9_2).bind fun t336 => ((mancipleref14_Model.f k2 t336 a0).bind fun t339 => ((mancipleref14_First.f k2 l1 t339).bind fun t342 => (manciplelaw15_PropFollows.l1 k2 a0 l1 l2 t332 t333 x9_2 t339 (decide (t342 < 0)) 0)))) else (if t333 = true then (some ((t332.length : Int) == 0)) else ((manciplelaw13_To.f k2 l1).bind fun t350 => ((prop_Close.f a0 t350 t332).bind fun bt353 => (if bt353.2 = true then (none) else ((manciplelaw7_Ints.f k2 t332 bt353.1).bind fun t357 => (some t357))))))) = some r := by first | (rw [hji19] at H; exact H) | (simp only [hji19] at H ⊢; exact H)
                have hji19_ : (IntKind.i64.wrap (1 * 2 ^ min (ji17).toNat 64)) = ji19 := hji19
                have hji19z : (ji17) ≤ 64 → (IntKind.i64.wrap (1 * 2 ^ (ji17).toNat)) = ji19 := shl_small hji19
                have hji19u : (IntKind.i64.wrap (2 ^ min (ji17).toNat 64)) = ji19 := by have h_ := hji19_; rw [Int.one_mul] at h_; exact h_
                have hji19v : (ji17) ≤ 64 → (IntKind.i64.wrap (2 ^ (ji17).toNat)) = ji19 := fun hle_ => by have h_ := hji19z hle_; rw [Int.one_mul] at h_; exact h_
                have hji19y : (wrap64 (1 * 2 ^ min (ji17).toNat 64)) = ji19 := (i64_w _).symm.trans hji19_
                have hji19x : (ji17) ≤ 64 → (wrap64 (1 * 2 ^ (ji17).toNat)) = ji19 := fun h_ => (i64_w _).symm.trans (hji19z h_)
                by_cases c20 : x9_2 < (ji19)
                · rw [if_pos c20] at H
                  have c20b0 : decide (x9_2 < (ji19)) = true := decide_eq_true c20
                  clear c20
                  replace H := Option.bind_eq_some_iff.mp H
                  obtain ⟨t336, A210, H⟩ := H
                  replace H : ((mancipleref14_Model.f k2 t336 a0).bind fun t339 => ((mancipleref14_First.f k2 l1 t339).bind fun t342 => (manciplelaw15_PropFollows.l1 k2 a0 l1 l2 t332 t333 x9_2 t339 (decide (t342 < 0)) 0))) = some r := H
                  have A21 := Aside0.mk A210
                  clear A210
                  replace H := Option.bind_eq_some_iff.mp H
                  obtain ⟨t339, A220, H⟩ := H
                  replace H : ((mancipleref14_First.f k2 l1 t339).bind fun t342 => (manciplelaw15_PropFollows.l1 k2 a0 l1 l2 t332 t333 x9_2 t339 (decide (t342 < 0)) 0)) = some r := H
                  have A22 := Aside0.mk A220
                  clear A220
                  replace H := Option.bind_eq_some_iff.mp H
                  obtain ⟨t342, A230, H⟩ := H
                  replace H : (manciplelaw15_PropFollows.l1 k2 a0 l1 l2 t332 t333 x9_2 t339 (decide (t342 < 0)) 0) = some r := H
                  have A23 := Aside0.mk A230
                  clear A230
                  have HC24 := Aside0.mk H
                  clear H
                  go_upto_block 2 with (first | ((with_reducible refine gate_callee (f := 22) rfl ?_); refine goesL_ (some 45) rfl rfl Try.func22 (by kernel_rfl) rfl #[.int .i64 a0, .int .i64 x9_2] rfl (by (try simp only [List.map_toArray, List.map_cons, List.map_nil]); first | done | rfl | (simp only [List.length_drop, List.length_take]; rfl)) ?_; (with_reducible refine (mancipleref14_SetOf.calls k2 a0 x9_2 t336 _ A21.out).mono ?_); rintro e w25 ⟨v337, rfl, ho0, hb⟩; refine ⟨_, rfl, ?_⟩; have n0_ := Aside0.mk (Kd.R_elder' (by (with_reducible repeat (first | apply Kd.R_alloc | apply Kd.R_drewN | apply Kd.R_drew)); exact HO_7.out) (Kd.R_base ho0) hb); have n1_ := Aside0.mk (Kd.R_lower (Kd.R_new' ho0 (Kd.R_lt (by (with_reducible repeat (first | apply Kd.R_alloc | apply Kd.R_drewN | apply Kd.R_drew)); exact HO_7.out))) (below_size (by repeat (first | (with_reducible first | exact HB.out | apply below_alloc | apply pw_below_drewN | apply below_drew1) | exact HB.out)))); have n2_ := Aside0.mk (below_step (by repeat (first | (with_reducible first | exact HB.out | apply below_alloc | apply pw_below_drewN | apply below_drew1) | exact HB.out)) hb); clear HO_7; clear HB; have HO_7 := n0_; have HO338 := n1_; have HB := n2_; clear n0_ n1_ n2_; (try clear hb); (try clear hb2); (try clear hk); (try clear hi); (try clear ho0); obtain ⟨Ao26, co26, eo26⟩ := Kd.R_slice HO338.out; subst eo26) | ((with_reducible refine gate_callee (f := 21) rfl ?_); refine goesL_ (some 47) rfl rfl Try.func21 (by kernel_rfl) rfl #[.slice Ao26 t336.length co26, .int .i64 a0] rfl (by (try simp only [List.map_toArray, List.map_cons, List.map_nil]); first | done | rfl | (simp only [List.length_drop, List.length_take]; rfl)) ?_; (with_reducible refine (mancipleref14_Model.calls k2 _ _ t336 a0 t339 _ ?side1 ?side2 A22.out).mono ?_); (case side1 => repeat (first | exact (Kd.R_reads' HO338.out).2.2 | (with_reducible refine Kd.C_alloc ?_ _) | (with_reducible refine Kd.C_drewN ?_ _) | (with_reducible refine Kd.C_drew ?_))); (case side2 => exact (Kd.R_reads' HO338.out).2.1); rintro e w27 ⟨v340, rfl, ho0, hb⟩; refine ⟨_, rfl, ?_⟩; have n0_ := Aside0.mk (Kd.R_below (by (with_reducible repeat (first | apply Kd.R_alloc | apply Kd.R_drewN | apply Kd.R_drew)); exact HO_7.out) hb); have n1_ := Aside0.mk (Kd.R_below (by (with_reducible repeat (first | apply Kd.R_alloc | apply Kd.R_drewN | apply Kd.R_drew)); exact HO338.out) hb); have n2_ := Aside0.mk (Kd.R_lower ho0 (below_size (by repeat (first | (with_reducible first | exact HB.out | apply below_alloc | apply pw_below_drewN | apply below_drew1) | exact HB.out)))); have n3_ := Aside0.mk (below_step (by repeat (first | (with_reducible first | exact HB.out | apply below_alloc | apply pw_below_drewN | apply below_drew1) | exact HB.out)) hb); clear HO_7; clear HO338; clear HB; have HO_7 := n0_; have HO338 := n1_; have HO341 := n2_; have HB := n3_; clear n0_ n1_ n2_ n3_; (try clear hb); (try clear hb2); (try clear hk); (try clear hi); (try clear ho0); obtain ⟨Ao28, co28, eo28⟩ := Kd.R_slice HO341.out; subst eo28) | ((with_reducible refine gate_callee (f := 23) rfl ?_); refine goesL_ (some 50) rfl rfl Try.func23 (by kernel_rfl) rfl #[.slice A1 l1.length c1, .slice Ao28 t339.length co28] rfl (by (try simp only [List.map_toArray, List.map_cons, List.map_nil]); first | done | rfl | (simp only [List.length_drop, List.length_take]; rfl)) ?_; (with_reducible refine (mancipleref14_First.calls k2 _ _ l1 _ _ t339 t342 _ ?side1 ?side2 ?side3 ?side4 A23.out).mono ?_); (case side1 => repeat (first | exact (Kd.C_below HR1.out HB.out) | (with_reducible refine Kd.C_alloc ?_ _) | (with_reducible refine Kd.C_drewN ?_ _) | (with_reducible refine Kd.C_drew ?_))); (case side2 => exact HC1.out); (case side3 => repeat (first | exact (Kd.R_reads' HO341.out).2.2 | (with_reducible refine Kd.C_alloc ?_ _) | (with_reducible refine Kd.C_drewN ?_ _) | (with_reducible refine Kd.C_drew ?_))); (case side4 => exact (Kd.R_reads' HO341.out).2.1); rintro e w' ⟨rfl, ⟨nd, rfl⟩⟩; refine ⟨_, rfl, ?_⟩))
                  (try simp only [Act.put, List.setIfInBounds_toArray, List.set_cons_zero, List.set_cons_succ])
                  go_cut [11] (fun v11 wc => ∃ (kq : Nat) (x11_23 : Bool), v11 = .bool x11_23 ∧ Aside0 (manciplelaw15_PropFollows.j3 kq a0 l1 l2 t332 t333 x9_2 t339 x11_23 = some r) ∧ Aside0 (kq ≤ k2) ∧ Aside0 (Kd.R (Kd.int .i64) 3 wc w.heap.size (fun _ => True) v334 t332) ∧ Aside0 (Kd.R Kd.bool 4 wc w.heap.size (fun _ => True) (.slice Ao28 t339.length co28) t339) ∧ Aside0 (Below w.heap.size w wc))
                  case first =>
                    have H := HC24.out
                    clear HC24
                    have H' := Aside0.mk H
                    clear H
                    go_wp2
                    go_loopg [11, 12] k2 (fun kq v11 v12 w' => ∃ (x11_3 : Bool) (x12_3 : Int), v11 = .bool x11_3 ∧ v12 = .int .i64 x12_3 ∧ Aside0 (manciplelaw15_PropFollows.l1 kq a0 l1 l2 t332 t333 x9_2 t339 x11_3 x12_3 = some r) ∧ Aside0 (kq ≤ k2) ∧ Aside0 (Kd.R (Kd.int .i64) 3 w' w.heap.size (fun _ => True) v334 t332) ∧ Aside0 (Kd.R Kd.bool 4 w' w.heap.size (fun _ => True) (.slice Ao28 t339.length co28) t339) ∧ Aside0 (Below w.heap.size w w'))
                    case atStart => exact ⟨(decide (t342 < 0)), (0), (by first | rfl | (simp; done) | (simp [*]; done)), (by first | rfl | (simp; done) | (simp [*]; done)), H', ⟨Nat.le_refl _⟩, ⟨by (with_reducible repeat (first | apply Kd.R_alloc | apply Kd.R_drewN | apply Kd.R_drew)); exact Kd.R_mono HO_7.out (fun _ hk => trivial)⟩, ⟨by (with_reducible repeat (first | apply Kd.R_alloc | apply Kd.R_drewN | apply Kd.R_drew)); exact HO341.out⟩, ⟨by repeat (first | (with_reducible first | exact HB.out | apply below_alloc | apply pw_below_drewN | apply below_drew1) | exact HB.out)⟩⟩
                    case round =>
                      clear H'
                      try clear c1
                      try clear c2
                      try clear p2
                      try clear c4
                      try clear c5
                      try clear p6
                      try clear c9
                      try clear c11
                      try clear c12
                      try clear c13
                      try clear c15
                      try clear c16
                      try clear c18
                      try clear c18b0
                      try clear c18b1
                      try clear c20
                      try clear c20b0
                      try clear c21
                      try clear c22
                      try clear c23
                      try clear p2
                      obtain ⟨x11_3, x12_3, rfl, rfl, HA, HK3, HO_7, HO_10, HB⟩ := hrel
                      cases gk with
                      | zero => exact absurd HA.out (by simp [manciplelaw15_PropFollows.l1])
                      | succ k3 =>
                        have H := HA.out
                        clear HA
                        simp only [manciplelaw15_PropFollows.l1] at H
                        by_cases c29 : x12_3 < (l2.length : Int)
                        · rw [if_pos c29] at H
                          have c29b0 : decide (x12_3 < (l2.length : Int)) = true := decide_eq_true c29
                          clear c29
                          (first | rw [c29b0] | (simp only [i64_w, i32_w]; rw [c29b0]) | skip)
                          by_cases c30 : x11_3 = true
                          · subst c30
                            have H1 : (if 0 ≤ x12_3 then (if x12_3 ≤ (wrap64 (x12_3 + 1)) then (if (wrap64 (x12_3 + 1)) ≤ (l2.length : Int) then ((mancipleref14_HoldsClause.f k3 ((l2.take ((wrap64 (x12_3 + 1)) : Int).toNat).drop (x12_3 : Int).toNat) t339).bind fun t344 => (manciplelaw15_PropFollows.l1 k3 a0 l1 l2 t332 t333 x9_2 t339 t344 (wrap64 (x12_3 + 1)))) else (none)) else (none)) else (none)) = some r := by rw [if_pos rfl] at H; exact H
                            clear H
                            have H := H1
                            clear H1
                            by_cases c31 : 0 ≤ x12_3
                            · rw [if_pos c31] at H
                              have c31b0 := eq_true c31
                              have c31b1 : decide (0 ≤ x12_3) = true := decide_eq_true c31
                              clear c31
                              by_cases c32 : x12_3 ≤ (wrap64 (x12_3 + 1))
                              · rw [if_pos c32] at H
                                have c32b0 := eq_true c32
                                have c32b1 : decide (x12_3 ≤ (wrap64 (x12_3 + 1))) = true := decide_eq_true c32
                                by_cases c33 : (wrap64 (x12_3 + 1)) ≤ (l2.length : Int)
                                · rw [if_pos c33] at H
                                  have c33b0 := eq_true c33
                                  have c33b1 : decide ((wrap64 (x12_3 + 1)) ≤ (l2.length : Int)) = true := decide_eq_true c33
                                  replace H := Option.bind_eq_some_iff.mp H
                                  obtain ⟨t344, A340, H⟩ := H
                                  replace H : (manciplelaw15_PropFollows.l1 k3 a0 l1 l2 t332 t333 x9_2 t339 t344 (wrap64 (x12_3 + 1))) = some r := H
                                  have A34 := Aside0.mk A340
                                  clear A340
                                  have H' := Aside0.mk H
                                  clear H
                                  obtain ⟨i035, hi035, _, hsz35, _⟩ := info_parts info3
                                  obtain ⟨A35, hcut35, hA35, hC35⟩ := print_mid_of (P := Try.prog) (Value.int .i64) 0 23 3 .i64 .i64 Try.underlying23 hi035 hsz35 A2 c2 l2 x12_3 (wrap64 (x12_3 + 1)) (of_decide_eq_true (by first | (with_reducible assumption) | assumption)) (by first | omega | exact of_decide_eq_true (by first | (with_reducible assumption) | assumption)) (of_decide_eq_true (by first | (with_reducible assumption) | assumption)) HC2.out
                                  have HR343 := Aside0.mk (Kd.C_of_reads (h1 := fun _ => rfl) (hA35 _ (Kd.reads_of_C HR2.out)))
                                  have HC343 := Aside0.mk hC35
                                  clear hA35 hC35 hi035 hsz35
                                  go_wp2_with (first | ((with_reducible refine gate_callee (f := 24) rfl ?_); refine goesL_ (some 67) rfl rfl Try.func24 (by kernel_rfl) rfl #[.slice A35 ((l2.take ((wrap64 (x12_3 + 1)) : Int).toNat).drop (x12_3 : Int).toNat).length (c2 - x12_3.toNat), .slice Ao28 t339.length co28] rfl (by (try simp only [List.map_toArray, List.map_cons, List.map_nil]); first | done | (rw [show ((l2.take ((wrap64 (x12_3 + 1)) : Int).toNat).drop (x12_3 : Int).toNat).length = ((wrap64 (x12_3 + 1)).toNat - x12_3.toNat) from (by rw [List.length_drop, List.length_take]; have h_ : ((wrap64 (x12_3 + 1)) : Int) ≤ (l2.length : Int) := of_decide_eq_true (by first | (with_reducible assumption) | assumption); omega)] <;> rfl) | rfl | (simp only [List.length_drop, List.length_take]; rfl)) ?_; (with_reducible refine (mancipleref14_HoldsClause.calls k3 _ _ ((l2.take ((wrap64 (x12_3 + 1)) : Int).toNat).drop (x12_3 : Int).toNat) _ _ t339 t344 _ ?side1 ?side2 ?side3 ?side4 A34.out).mono ?_); (case side1 => repeat (first | exact (Kd.C_below HR343.out HB.out) | (with_reducible refine Kd.C_alloc ?_ _) | (with_reducible refine Kd.C_drewN ?_ _) | (with_reducible refine Kd.C_drew ?_))); (case side2 => exact HC343.out); (case side3 => repeat (first | exact (Kd.R_reads' HO_10.out).2.2 | (with_reducible refine Kd.C_alloc ?_ _) | (with_reducible refine Kd.C_drewN ?_ _) | (with_reducible refine Kd.C_drew ?_))); (case side4 => exact (Kd.R_reads' HO_10.out).2.1); rintro e w' ⟨rfl, ⟨nd, rfl⟩⟩; refine ⟨_, rfl, ?_⟩))
                                  go_roundg k3
                                  case measure => have := HJ5.out; have := HK2.out; have := HK3.out; omega
                                  case rel => exact ⟨(t344), (wrap64 (x12_3 + 1)), (by first | rfl | (simp; done) | (simp [*]; done)), (by first | rfl | (simp; done) | (simp [*]; done)), H', ⟨by have := HJ5.out; have := HK2.out; have := HK3.out; omega⟩, ⟨by (with_reducible repeat (first | apply Kd.R_alloc | apply Kd.R_drewN | apply Kd.R_drew)); exact HO_7.out⟩, ⟨by (with_reducible repeat (first | apply Kd.R_alloc | apply Kd.R_drewN | apply Kd.R_drew)); exact HO_10.out⟩, ⟨by repeat (first | (with_reducible first | exact HB.out | apply below_alloc | apply pw_below_drewN | apply below_drew1) | exact HB.out)⟩⟩
                                · rw [if_neg c33] at H
                                  exact absurd H (by simp)
                              · rw [if_neg c32] at H
                                exact absurd H (by simp)
                            · rw [if_neg c31] at H
                              exact absurd H (by simp)
                          · replace c30 := Bool.eq_false_iff.mpr c30
                            subst c30
                            have H1 : (manciplelaw15_PropFollows.j3 k3 a0 l1 l2 t332 t333 x9_2 t339 false) = some r := by rw [if_neg (show ¬ (false = true) by decide)] at H; exact H
                            clear H
                            have H := H1
                            clear H1
                            have H' := Aside0.mk H
                            clear H
                            go_wp2
                            go_meet
                            case rel => exact ⟨_, (false), (by first | rfl | (simp; done) | (simp [*]; done)), H', ⟨by have := HJ5.out; have := HK2.out; have := HK3.out; first | omega | exact Nat.le_refl _⟩, ⟨by (with_reducible repeat (first | apply Kd.R_alloc | apply Kd.R_drewN | apply Kd.R_drew)); exact HO_7.out⟩, ⟨by (with_reducible repeat (first | apply Kd.R_alloc | apply Kd.R_drewN | apply Kd.R_drew)); exact HO_10.out⟩, ⟨by repeat (first | (with_reducible first | exact HB.out | apply below_alloc | apply pw_below_drewN | apply below_drew1) | exact HB.out)⟩⟩
                        · rw [if_neg c29] at H
                          have c29b0 : decide (x12_3 < (l2.length : Int)) = false := decide_eq_false c29
                          clear c29
                          (first | rw [c29b0] | (simp only [i64_w, i32_w]; rw [c29b0]) | skip)
                          have H' := Aside0.mk H
                          clear H
                          go_wp2
                          go_meet
                          case rel => exact ⟨_, (x11_3), (by first | rfl | (simp; done) | (simp [*]; done)), H', ⟨by have := HJ5.out; have := HK2.out; have := HK3.out; first | omega | exact Nat.le_refl _⟩, ⟨by (with_reducible repeat (first | apply Kd.R_alloc | apply Kd.R_drewN | apply Kd.R_drew)); exact HO_7.out⟩, ⟨by (with_reducible repeat (first | apply Kd.R_alloc | apply Kd.R_drewN | apply Kd.R_drew)); exact HO_10.out⟩, ⟨by repeat (first | (with_reducible first | exact HB.out | apply below_alloc | apply pw_below_drewN | apply below_drew1) | exact HB.out)⟩⟩
                  case rest =>
                    clear HC24
                    try clear c1
                    try clear c2
                    try clear p2
                    try clear c3
                    try clear c4
                    try clear c5
                    try clear p6
                    try clear c9
                    try clear c11
                    try clear c12
                    try clear c13
                    try clear c15
                    try clear c16
                    try clear c18
                    try clear c18b0
                    try clear c18b1
                    try clear c20
                    try clear c20b0
                    try clear c21
                    try clear c22
                    try clear c23
                    try clear c24
                    try clear c29
                    try clear c29b0
                    try clear c30
                    try clear c31
                    try clear c31b0
                    try clear c31b1
                    try clear c32
                    try clear c32b0
                    try clear c32b1
                    try clear c33
                    try clear c33b0
                    try clear c33b1
                    try clear p2
                    try clear p6
                    obtain ⟨kq, x11_23, rfl, HA, HJ23, HO_7, HO_10, HB⟩ := hcut
                    cases kq with
                    | zero => exact absurd HA.out (by simp [manciplelaw15_PropFollows.j3])
                    | succ kj23 =>
                      have H := HA.out
                      clear HA
                      simp only [manciplelaw15_PropFollows.j3] at H
                      by_cases c36 : x11_23 = true
                      · subst c36
                        have H1 : (if t333 = true then (none) else (manciplelaw15_PropFollows.l2 kj23 a0 l1 l2 t332 t333 x9_2 t339 0)) = some r := by rw [if_pos rfl] at H; exact H
                        clear H
                        have H := H1
                        clear H1
                        by_cases c37 : t333 = true
                        · subst c37
                          have H1 : (none) = some r := by rw [if_pos rfl] at H; exact H
                          clear H
                          have H := H1
                          clear H1
                          exact absurd H (by simp)
                        · replace c37 := Bool.eq_false_iff.mpr c37
                          subst c37
                          have H1 : (manciplelaw15_PropFollows.l2 kj23 a0 l1 l2 t332 false x9_2 t339 0) = some r := by rw [if_neg (show ¬ (false = true) by decide)] at H; exact H
                          clear H
                          have H := H1
                          clear H1
                          have H' := Aside0.mk H
                          clear H
                          go_wp2
                          go_loopg [13] kj23 (fun kq v13 w' => ∃ (x13_4 : Int), v13 = .int .i64 x13_4 ∧ Aside0 (manciplelaw15_PropFollows.l2 kq a0 l1 l2 t332 false x9_2 t339 x13_4 = some r) ∧ Aside0 (kq ≤ kj23) ∧ Aside0 (Kd.R (Kd.int .i64) 3 w' w.heap.size (fun _ => True) v334 t332) ∧ Aside0 (Kd.R Kd.bool 4 w' w.heap.size (fun _ => True) (.slice Ao28 t339.length co28) t339) ∧ Aside0 (Below w.heap.size w w'))
                          case atStart => exact ⟨(0), (by first | rfl | (simp; done) | (simp [*]; done)), H', ⟨Nat.le_refl _⟩, ⟨by (with_reducible repeat (first | apply Kd.R_alloc | apply Kd.R_drewN | apply Kd.R_drew)); exact HO_7.out⟩, ⟨by (with_reducible repeat (first | apply Kd.R_alloc | apply Kd.R_drewN | apply Kd.R_drew)); exact HO_10.out⟩, ⟨by repeat (first | (with_reducible first | exact HB.out | apply below_alloc | apply pw_below_drewN | apply below_drew1) | exact HB.out)⟩⟩
                          case round =>
                            clear H'
                            try clear c1
                            try clear c2
                            try clear p2
                            try clear c3
                            try clear c4
                            try clear c5
                            try clear p6
                            try clear c9
                            try clear c11
                            try clear c12
                            try clear c13
                            try clear c15
                            try clear c16
                            try clear c18
                            try clear c18b0
                            try clear c18b1
                            try clear c20
                            try clear c20b0
                            try clear c21
                            try clear c22
                            try clear c23
                            try clear c24
                            try clear c29
                            try clear c29b0
                            try clear c30
                            try clear c31
                            try clear c31b0
                            try clear c31b1
                            try clear c32
                            try clear c32b0
                            try clear c32b1
                            try clear c33
                            try clear c33b0
                            try clear c33b1
                            try clear c36
                            try clear c37
                            try clear p2
                            try clear p6
                            obtain ⟨x13_4, rfl, HA, HK4, HO_7, HO_10, HB⟩ := hrel
                            cases gk with
                            | zero => exact absurd HA.out (by simp [manciplelaw15_PropFollows.l2])
                            | succ k4 =>
                              have H := HA.out
                              clear HA
                              simp only [manciplelaw15_PropFollows.l2] at H
                              by_cases c38 : x13_4 < (t332.length : Int)
                              · rw [if_pos c38] at H
                                have c38b0 : decide (x13_4 < (t332.length : Int)) = true := decide_eq_true c38
                                clear c38
                                by_cases c39 : 0 ≤ x13_4
                                · rw [if_pos c39] at H
                                  have c39b0 := eq_true c39
                                  have c39b1 : decide (0 ≤ x13_4) = true := decide_eq_true c39
                                  clear c39
                                  by_cases c40 : x13_4 ≤ (wrap64 (x13_4 + 1))
                                  · rw [if_pos c40] at H
                                    have c40b0 := eq_true c40
                                    have c40b1 : decide (x13_4 ≤ (wrap64 (x13_4 + 1))) = true := decide_eq_true c40
                                    by_cases c41 : (wrap64 (x13_4 + 1)) ≤ (t332.length : Int)
                                    · rw [if_pos c41] at H
                                      have c41b0 := eq_true c41
                                      have c41b1 : decide ((wrap64 (x13_4 + 1)) ≤ (t332.length : Int)) = true := decide_eq_true c41
                                      obtain ⟨y345, hy345⟩ : ∃ y_ : List Int, y_ = ((t332.take ((wrap64 (x13_4 + 1)) : Int).toNat).drop (x13_4 : Int).toNat) := ⟨_, rfl⟩
                                      replace H : ((mancipleref14_HoldsClause.f k4 y345 t339).bind fun t349 => (if t349 = true then (manciplelaw15_PropFollows.l2 k4 a0 l1 l2 t332 false x9_2 t339 (wrap64 (x13_4 + 1))) else (none))) = some r := by first | (rw [hy345]; with_reducible exact H) | (have H2_ := (Option.bind_some _ _).symm.trans H; rw [hy345]; with_reducible exact H2_) | (have H2_ := (Option.bind_some _ _).symm.trans H; with_reducible exact H2_) | with_reducible exact H | (rw [hy345]; exact H) | exact H
                                      have Ny345 := Aside0.mk hy345
                                      clear hy345
                                      replace H := Option.bind_eq_some_iff.mp H
                                      obtain ⟨t349, A420, H⟩ := H
                                      replace H : (if t349 = true then (manciplelaw15_PropFollows.l2 k4 a0 l1 l2 t332 false x9_2 t339 (wrap64 (x13_4 + 1))) else (none)) = some r := H
                                      have A42 := Aside0.mk A420
                                      clear A420
                                      by_cases c43 : t349 = true
                                      · subst c43
                                        have H1 : (manciplelaw15_PropFollows.l2 k4 a0 l1 l2 t332 false x9_2 t339 (wrap64 (x13_4 + 1))) = some r := by rw [if_pos rfl] at H; exact H
                                        clear H
                                        have H := H1
                                        clear H1
                                        have H' := Aside0.mk H
                                        clear H
                                        obtain ⟨Ao44, co44, eo44⟩ := Kd.R_slice HO_7.out
                                        subst eo44
                                        have q45 : ((wrap64 (x13_4 + 1)) : Int) ≤ ((t332.length : Int) : Int) := of_decide_eq_true (by first | (with_reducible assumption) | assumption)
                                        obtain ⟨i045, hi045, _, hsz45, _⟩ := info_parts info3
                                        have hroom45 : t332.length ≤ co44 := (Kd.R_reads' HO_7.out).2.1
                                        have hC45 : Kd.C (Kd.int .i64) _ Ao44 t332.length t332 := (Kd.R_reads' HO_7.out).2.2
                                        have ql45 : (x13_4 : Int) ≤ ((wrap64 (x13_4 + 1)) : Int) := of_decide_eq_true (by first | (with_reducible assumption) | assumption)
                                        have q045 : (0 : Int) ≤ (x13_4 : Int) := of_decide_eq_true (by first | (with_reducible assumption) | assumption)
                                        have hcut45 := cut_mid (P := Try.prog) 23 3 .i64 .i64 Try.underlying23 hi045 1 hsz45 Ao44 t332.length co44 x13_4 (wrap64 (x13_4 + 1)) q045 ql45 q45 hroom45
                                        have hr45 := Kd.C_mid (lo := (x13_4 : Int).toNat) (hi := ((wrap64 (x13_4 + 1)) : Int).toNat) (c := co44) hC45 (by omega) (by omega) hroom45
                                        obtain ⟨A45, hA45⟩ : ∃ A1, A1 = (if co44 = (x13_4 : Int).toNat then Ao44 else (Ao44 : Option Addr).map (·.add ((x13_4 : Int).toNat * 1))) := ⟨_, rfl⟩
                                        obtain ⟨c45, hc45⟩ : ∃ c1, c1 = co44 - (x13_4 : Int).toNat := ⟨_, rfl⟩
                                        have hy45 : y345.length = ((wrap64 (x13_4 + 1)) : Int).toNat - (x13_4 : Int).toNat := (by rw [Ny345.out, List.length_drop, List.length_take] <;> omega)
                                        rw [show ((t332).take ((wrap64 (x13_4 + 1)) : Int).toNat).drop (x13_4 : Int).toNat = y345 from Ny345.out.symm] at hr45
                                        replace hr45 : Kd.C (Kd.int .i64) _ A45 y345.length y345 := (by rw [hA45]; exact hr45)
                                        rw [← hy45, ← hA45, ← hc45] at hcut45
                                        have HR348 := Aside0.mk hr45
                                        have HC348 := Aside0.mk (show y345.length ≤ c45 from by rw [hy45, hc45]; exact Nat.sub_le_sub_right (Nat.le_trans (by omega) hroom45) _)
                                        clear hr45 hC45 hroom45 hi045 hsz45 hc45
                                        have KY45 := Aside0.mk hy45
                                        have KA45 := Aside0.mk hA45
                                        clear hy45 hA45
                                        have KL45 := Aside0.mk (show ((wrap64 (x13_4 + 1)) : Int).toNat ≤ t332.length from by omega)
                                        have KM45 := Aside0.mk (show (x13_4 : Int).toNat ≤ ((wrap64 (x13_4 + 1)) : Int).toNat from by omega)
                                        replace q45 := eq_true q45
                                        go_wp2_with (first | ((with_reducible refine gate_callee (f := 24) rfl ?_); refine goesL_ (some 83) rfl rfl Try.func24 (by kernel_rfl) rfl #[.slice A45 y345.length c45, .slice Ao28 t339.length co28] rfl (by (try simp only [List.map_toArray, List.map_cons, List.map_nil]); first | done | rfl | (simp only [List.length_drop, List.length_take]; rfl)) ?_; (with_reducible refine (mancipleref14_HoldsClause.calls k4 _ _ y345 _ _ t339 true _ ?side1 ?side2 ?side3 ?side4 A42.out).mono ?_); (case side1 => repeat (first | exact (by repeat (first | (with_reducible exact HR348.out) | (with_reducible refine Kd.C_alloc ?_ _) | (with_reducible refine Kd.C_drewN ?_ _) | (with_reducible refine Kd.C_drew ?_) | exact HR348.out)) | (with_reducible refine Kd.C_alloc ?_ _) | (with_reducible refine Kd.C_drewN ?_ _) | (with_reducible refine Kd.C_drew ?_))); (case side2 => exact HC348.out); (case side3 => repeat (first | exact (Kd.R_reads' HO_10.out).2.2 | (with_reducible refine Kd.C_alloc ?_ _) | (with_reducible refine Kd.C_drewN ?_ _) | (with_reducible refine Kd.C_drew ?_))); (case side4 => exact (Kd.R_reads' HO_10.out).2.1); rintro e w' ⟨rfl, ⟨nd, rfl⟩⟩; refine ⟨_, rfl, ?_⟩))
                                        go_roundg k4
                                        case measure => have := HJ5.out; have := HK2.out; have := HJ23.out; have := HK4.out; omega
                                        case rel => exact ⟨(wrap64 (x13_4 + 1)), (by first | rfl | (simp; done) | (simp [*]; done)), H', ⟨by have := HJ5.out; have := HK2.out; have := HJ23.out; have := HK4.out; omega⟩, ⟨by (with_reducible repeat (first | apply Kd.R_alloc | apply Kd.R_drewN | apply Kd.R_drew)); exact HO_7.out⟩, ⟨by (with_reducible repeat (first | apply Kd.R_alloc | apply Kd.R_drewN | apply Kd.R_drew)); exact HO_10.out⟩, ⟨by repeat (first | (with_reducible first | exact HB.out | apply below_alloc | apply pw_below_drewN | apply below_drew1) | exact HB.out)⟩⟩
                                      · replace c43 := Bool.eq_false_iff.mpr c43
                                        subst c43
                                        have H1 : (none) = some r := by rw [if_neg (show ¬ (false = true) by decide)] at H; exact H
                                        clear H
                                        have H := H1
                                        clear H1
                                        exact absurd H (by simp)
                                    · rw [if_neg c41] at H
                                      exact absurd H (by simp)
                                  · rw [if_neg c40] at H
                                    exact absurd H (by simp)
                                · rw [if_neg c39] at H
                                  exact absurd H (by simp)
                              · rw [if_neg c38] at H
                                have c38b0 : decide (x13_4 < (t332.length : Int)) = false := decide_eq_false c38
                                clear c38
                                have H' := Aside0.mk H
                                clear H
                                obtain ⟨Ao46, co46, eo46⟩ := Kd.R_slice HO_7.out
                                subst eo46
                                go_wp2
                                go_roundg k4
                                case measure => have := HJ5.out; have := HK2.out; have := HJ23.out; have := HK4.out; omega
                                case rel => exact ⟨(wrap64 (x9_2 + 1)), (by first | rfl | (simp; done) | (simp [*]; done)), H', ⟨by have := HJ5.out; have := HK2.out; have := HJ23.out; have := HK4.out; omega⟩, ⟨by (with_reducible repeat (first | apply Kd.R_alloc | apply Kd.R_drewN | apply Kd.R_drew)); exact HO_7.out⟩, ⟨by repeat (first | (with_reducible first | exact HB.out | apply below_alloc | apply pw_below_drewN | apply below_drew1) | exact HB.out)⟩⟩
                      · replace c36 := Bool.eq_false_iff.mpr c36
                        subst c36
                        have H1 : (manciplelaw15_PropFollows.l0 kj23 a0 l1 l2 t332 t333 (wrap64 (x9_2 + 1))) = some r := by rw [if_neg (show ¬ (false = true) by decide)] at H; exact H
                        clear H
                        have H := H1
                        clear H1
                        have H' := Aside0.mk H
                        clear H
                        go_wp2
                        go_roundg kj23
                        case measure => have := HJ5.out; have := HK2.out; have := HJ23.out; omega
                        case rel => exact ⟨(wrap64 (x9_2 + 1)), (by first | rfl | (simp; done) | (simp [*]; done)), H', ⟨by have := HJ5.out; have := HK2.out; have := HJ23.out; omega⟩, ⟨by (with_reducible repeat (first | apply Kd.R_alloc | apply Kd.R_drewN | apply Kd.R_drew)); exact HO_7.out⟩, ⟨by repeat (first | (with_reducible first | exact HB.out | apply below_alloc | apply pw_below_drewN | apply below_drew1) | exact HB.out)⟩⟩
                · rw [if_neg c20] at H
                  have c20b0 : decide (x9_2 < (ji19)) = false := decide_eq_false c20
                  clear c20
                  by_cases c47 : t333 = true
                  · subst c47
                    have H1 : (some ((t332.length : Int) == 0)) = some r := by rw [if_pos rfl] at H; exact H
                    clear H
                    have H := H1
                    clear H1
                    obtain rfl := Option.some.inj H
                    obtain ⟨Ao48, co48, eo48⟩ := Kd.R_slice HO_7.out
                    subst eo48
                    go_wp2
                    go_ret
                    exact ⟨by first | rfl | (simp [errW_none, errW_some] <;> rfl) | (simp only [← hji17, ← hji19]; first | rfl | (simp [errW_none, errW_some] <;> rfl)) | (simp [*, errW_none, errW_some] <;> rfl), by repeat (first | (with_reducible first | exact HB.out | apply below_alloc | apply pw_below_drewN | apply below_drew1) | exact HB.out)⟩
                  · replace c47 := Bool.eq_false_iff.mpr c47
                    subst c47
                    have H1 : ((manciplelaw13_To.f k2 l1).bind fun t350 => ((prop_Close.f a0 t350 t332).bind fun bt353 => (if bt353.2 = true then (none) else ((manciplelaw7_Ints.f k2 t332 bt353.1).bind fun t357 => (some t357))))) = some r := by rw [if_neg (show ¬ (false = true) by decide)] at H; exact H
                    clear H
                    have H := H1
                    clear H1
                    replace H := Option.bind_eq_some_iff.mp H
                    obtain ⟨t350, A490, H⟩ := H
                    replace H : ((prop_Close.f a0 t350 t332).bind fun bt353 => (if bt353.2 = true then (none) else ((manciplelaw7_Ints.f k2 t332 bt353.1).bind fun t357 => (some t357)))) = some r := H
                    have A49 := Aside0.mk A490
                    clear A490
                    replace H := Option.bind_eq_some_iff.mp H
                    obtain ⟨⟨t353, t354⟩, A500, H⟩ := H
                    replace H : (if t354 = true then (none) else ((manciplelaw7_Ints.f k2 t332 t353).bind fun t357 => (some t357))) = some r := H
                    have A50 := Aside0.mk A500
                    clear A500
                    by_cases c51 : t354 = true
                    · subst c51
                      have H1 : (none) = some r := by rw [if_pos rfl] at H; exact H
                      clear H
                      have H := H1
                      clear H1
                      exact absurd H (by simp)
                    · replace c51 := Bool.eq_false_iff.mpr c51
                      subst c51
                      have H1 : ((manciplelaw7_Ints.f k2 t332 t353).bind fun t357 => (some t357)) = some r := by rw [if_neg (show ¬ (false = true) by decide)] at H; exact H
                      clear H
                      have H := H1
                      clear H1
                      replace H := Option.bind_eq_some_iff.mp H
                      obtain ⟨t357, A520, H⟩ := H
                      replace H : (some t357) = some r := H
                      have A52 := Aside0.mk A520
                      clear A520
                      obtain rfl := Option.some.inj H
                      go_wp2_with (first | ((with_reducible refine gate_callee (f := 16) rfl ?_); refine goesL_ (some 92) rfl rfl Try.func16 (by kernel_rfl) rfl #[.slice A1 l1.length c1] rfl (by (try simp only [List.map_toArray, List.map_cons, List.map_nil]); first | done | rfl | (simp only [List.length_drop, List.length_take]; rfl)) ?_; (with_reducible refine (manciplelaw13_To.calls k2 _ _ l1 t350 _ ?side1 ?side2 A49.out).mono ?_); (case side1 => repeat (first | exact (Kd.C_below HR1.out HB.out) | (with_reducible refine Kd.C_alloc ?_ _) | (with_reducible refine Kd.C_drewN ?_ _) | (with_reducible refine Kd.C_drew ?_))); (case side2 => exact HC1.out); rintro e w53 ⟨v351, rfl, ho0, hb⟩; refine ⟨_, rfl, ?_⟩; have n0_ := Aside0.mk (Kd.R_below (by (with_reducible repeat (first | apply Kd.R_alloc | apply Kd.R_drewN | apply Kd.R_drew)); exact HO_7.out) hb); have n1_ := Aside0.mk (Kd.S_lower (Kd.S_new' ho0 (Kd.R_lt (by (with_reducible repeat (first | apply Kd.R_alloc | apply Kd.R_drewN | apply Kd.R_drew)); exact HO_7.out))) (below_size (by repeat (first | (with_reducible first | exact HB.out | apply below_alloc | apply pw_below_drewN | apply below_drew1) | exact HB.out)))); have n2_ := Aside0.mk (below_step (by repeat (first | (with_reducible first | exact HB.out | apply below_alloc | apply pw_below_drewN | apply below_drew1) | exact HB.out)) hb); clear HO_7; clear HB; have HO_7 := n0_; have HO352 := n1_; have HB := n2_; clear n0_ n1_ n2_; (try clear hb); (try clear hb2); (try clear hk); (try clear hi); (try clear ho0); obtain ⟨Ao54, co54, eo54⟩ := Kd.S_slice HO352.out; subst eo54; obtain ⟨Ao55, co55, eo55⟩ := Kd.R_slice HO_7.out; subst eo55) | ((with_reducible refine gate_callee (f := 15) rfl ?_); refine goesL_ (some 94) rfl rfl Try.func15 (by kernel_rfl) rfl #[.int .i64 a0, .slice Ao54 t350.length co54, .slice Ao55 t332.length co55] rfl (by (try simp only [List.map_toArray, List.map_cons, List.map_nil]); first | done | rfl | (simp only [List.length_drop, List.length_take]; rfl)) ?_; (with_reducible refine (prop_Close.calls a0 _ _ t350 _ _ t332 t353 false _ ?side1 ?side2 ?side3 ?side4 A50.out).mono ?_); (case side1 => repeat (first | exact (Kd.S_reads' HO352.out).2.2 | (with_reducible refine Kd.C_alloc ?_ _) | (with_reducible refine Kd.C_drewN ?_ _) | (with_reducible refine Kd.C_drew ?_))); (case side2 => exact (Kd.S_reads' HO352.out).2.1); (case side3 => repeat (first | exact (Kd.R_reads' HO_7.out).2.2 | (with_reducible refine Kd.C_alloc ?_ _) | (with_reducible refine Kd.C_drewN ?_ _) | (with_reducible refine Kd.C_drew ?_))); (case side4 => exact (Kd.R_reads' HO_7.out).2.1); rintro e w56 ⟨v355, rfl, ho0, hb⟩; refine ⟨_, rfl, ?_⟩; have n0_ := Aside0.mk (Kd.R_elder' (by (with_reducible repeat (first | apply Kd.R_alloc | apply Kd.R_drewN | apply Kd.R_drew)); exact HO_7.out) (Kd.R_base ho0) hb); have n1_ := Aside0.mk (Kd.S_elder' (by (with_reducible repeat (first | apply Kd.S_alloc | apply Kd.S_drewN | apply Kd.S_drew)); exact HO352.out) (Kd.R_base ho0) hb); have n2_ := Aside0.mk (Kd.R_lower (Kd.R_new' ho0 (Kd.R_lt (by (with_reducible repeat (first | apply Kd.R_alloc | apply Kd.R_drewN | apply Kd.R_drew)); exact HO_7.out))) (below_size (by repeat (first | (with_reducible first | exact HB.out | apply below_alloc | apply pw_below_drewN | apply below_drew1) | exact HB.out)))); have n3_ := Aside0.mk (below_step (by repeat (first | (with_reducible first | exact HB.out | apply below_alloc | apply pw_below_drewN | apply below_drew1) | exact HB.out)) hb); clear HO_7; clear HO352; clear HB; have HO_7 := n0_; have HO352 := n1_; have HO356 := n2_; have HB := n3_; clear n0_ n1_ n2_ n3_; (try clear hb); (try clear hb2); (try clear hk); (try clear hi); (try clear ho0); obtain ⟨Ao57, co57, eo57⟩ := Kd.R_slice HO356.out; subst eo57) | (go_at_call 18; (with_reducible refine (manciplelaw7_Ints.calls k2 _ _ t332 _ _ t353 t357 _ ?side1 ?side2 ?side3 ?side4 A52.out).mono ?_); (case side1 => repeat (first | exact (Kd.R_reads' HO_7.out).2.2 | (with_reducible refine Kd.C_alloc ?_ _) | (with_reducible refine Kd.C_drewN ?_ _) | (with_reducible refine Kd.C_drew ?_))); (case side2 => exact (Kd.R_reads' HO_7.out).2.1); (case side3 => repeat (first | exact (Kd.R_reads' HO356.out).2.2 | (with_reducible refine Kd.C_alloc ?_ _) | (with_reducible refine Kd.C_drewN ?_ _) | (with_reducible refine Kd.C_drew ?_))); (case side4 => exact (Kd.R_reads' HO356.out).2.1); rintro e w' ⟨rfl, ⟨nd, rfl⟩⟩))
                      go_ret
                      exact ⟨by first | rfl | (simp [errW_none, errW_some] <;> rfl) | (simp only [← hji17, ← hji19]; first | rfl | (simp [errW_none, errW_some] <;> rfl)) | (simp [*, errW_none, errW_some] <;> rfl), by repeat (first | (with_reducible first | exact HB.out | apply below_alloc | apply pw_below_drewN | apply below_drew1) | exact HB.out)⟩
              · rw [if_neg c18] at H
                exact absurd H (by simp)
  · replace c5 := Bool.eq_false_iff.mpr c5
    subst c5
    have H1 : (none) = some r := by rw [if_neg (show ¬ (false = true) by decide)] at H; exact H
    clear H
    have H := H1
    clear H1
    exact absurd H (by simp)

end Go.Proofs.Ytjbljblhbmfbpaa.PProp
