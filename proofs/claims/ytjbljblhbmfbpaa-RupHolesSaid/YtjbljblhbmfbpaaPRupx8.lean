/- Printed by this session's program pp.py: the functions that the law uses as plain functions, and that each call comes to just what its plain function tells; in the last text the row itself. No conditions but those that stand in each statement. -/
import Derived.Test.YtjbljblhbmfbpaaPRupx0
import Derived.Test.YtjbljblhbmfbpaaPRupx1
import Derived.Test.YtjbljblhbmfbpaaPRupx2
namespace Go.Proofs.Ytjbljblhbmfbpaa.PRup
open Go.RowKit Go.Proofs.YtjbljblhbmfbpaaW.PrintWords Go.Proofs.YtjbljblhbmfbpaaW.PrintLast Go.Proofs.YtjbljblhbmfbpaaW.PrintMore
attribute [local go_sem] max2_int min2_int max_two min_two max_three min_three max_four min_four   -- for this text's walks alone
set_option linter.unusedVariables false
set_option linter.unusedSimpArgs false

/-! ### manciplelaw16_RupHoles: function 11 -/
def manciplelaw16_RupHoles.f (a0 : Int) : Option (Bool) := (manciplelaw16_known.f).bind fun t379 => (if t379 = true then ((some (([(([1] : List Int)), (([2] : List Int)), (([(-1), (-2)] : List Int))] : List (List Int)) : List (List Int))).bind fun y389 => ((rup_Check.f 2 y389 (([(([(-2)] : List Int)), []] : List (List Int)))).bind fun bt398 => ((some (([] : List (List Int)) : List (List Int))).bind fun y400 => (if 0 ≤ (wrap64 (Int.tmod a0 3)) then (if (wrap64 (Int.tmod a0 3)) ≤ (y389.length : Int) then ((some (y389.take ((wrap64 (Int.tmod a0 3)) : Int).toNat : List (List Int))).bind fun y403 => (if y400.length + y403.length < 5864062014805 then ((some (y400 ++ y403 : List (List Int))).bind fun y408 => (if 0 ≤ (wrap64 ((wrap64 (Int.tmod a0 3)) + 1)) then (if (wrap64 ((wrap64 (Int.tmod a0 3)) + 1)) ≤ (y389.length : Int) then ((some (y389.drop ((wrap64 ((wrap64 (Int.tmod a0 3)) + 1)) : Int).toNat : List (List Int))).bind fun y411 => (if y408.length + y411.length < 5864062014805 then (if bt398.2 = 0 then ((rup_Ends.f 2 y389 (([[]] : List (List Int))) ([] : List Int)).bind fun t422 => (if t422 = true then ((rup_Ends.f 2 (y408 ++ y411) (([[]] : List (List Int))) ([] : List Int)).bind fun t426 => (some (!t426))) else (none))) else (none)) else (none))) else (none)) else (none))) else (none))) else (none)) else (none))))) else (none))
def manciplelaw16_RupHoles.T6 : Bool × List (List Nat × List Nat) := (true, [([], []), ([], []), ([], []), ([1, 2], [1, 2]), ([0, 3], [0, 3]), ([], []), ([], []), ([6], [6]), ([5, 7], [5, 7]), ([4, 8, 4], [4, 8]), ([9, 9, 0, 1, 2, 3, 4, 5, 6, 7, 8, 9], [9])])
def manciplelaw16_RupHoles.B6 : List Nat := [0, 0, 0, 6, 15, 0, 0, 64, 224, 511, 1023]
theorem manciplelaw16_RupHoles.tab6 : rtab .any (opsOf Try.f11 6) = manciplelaw16_RupHoles.T6 := by kernel_rfl
theorem manciplelaw16_RupHoles.bits6 : waitsOk manciplelaw16_RupHoles.T6.2 manciplelaw16_RupHoles.B6 = true := by kernel_rfl
set_option maxHeartbeats 8000000 in
set_option maxRecDepth 100000 in
theorem manciplelaw16_RupHoles.calls (a0 : Int) (r : Bool) (w : World) (h : manciplelaw16_RupHoles.f a0 = some r) :
    Calls Try.prog 11 #[.int .u8 a0] w fun e w' => e = .returned (.bool r) ∧ Below w.heap.size w w' := by
  have HB := Aside0.mk (Below.refl w.heap.size w)
  have H : ((manciplelaw16_known.f).bind fun t379 => (if t379 = true then ((some (([(([1] : List Int)), (([2] : List Int)), (([(-1), (-2)] : List Int))] : List (List Int)) : List (List Int))).bind fun y389 => ((rup_Check.f 2 y389 (([(([(-2)] : List Int)), []] : List (List Int)))).bind fun bt398 => ((some (([] : List (List Int)) : List (List Int))).bind fun y400 => (if 0 ≤ (wrap64 (Int.tmod a0 3)) then (if (wrap64 (Int.tmod a0 3)) ≤ (y389.length : Int) then ((some (y389.take ((wrap64 (Int.tmod a0 3)) : Int).toNat : List (List Int))).bind fun y403 => (if y400.length + y403.length < 5864062014805 then ((some (y400 ++ y403 : List (List Int))).bind fun y408 => (if 0 ≤ (wrap64 ((wrap64 (Int.tmod a0 3)) + 1)) then (if (wrap64 ((wrap64 (Int.tmod a0 3)) + 1)) ≤ (y389.length : Int) then ((some (y389.drop ((wrap64 ((wrap64 (Int.tmod a0 3)) + 1)) : Int).toNat : List (List Int))).bind fun y411 => (if y408.length + y411.length < 5864062014805 then (if bt398.2 = 0 then ((rup_Ends.f 2 y389 (([[]] : List (List Int))) ([] : List Int)).bind fun t422 => (if t422 = true then ((rup_Ends.f 2 (y408 ++ y411) (([[]] : List (List Int))) ([] : List Int)).bind fun t426 => (some (!t426))) else (none))) else (none)) else (none))) else (none)) else (none))) else (none))) else (none)) else (none))))) else (none))) = some r := h
  clear h
  replace H := Option.bind_eq_some_iff.mp H
  obtain ⟨t379, A20, H⟩ := H
  replace H : (if t379 = true then ((some (([(([1] : List Int)), (([2] : List Int)), (([(-1), (-2)] : List Int))] : List (List Int)) : List (List Int))).bind fun y389 => ((rup_Check.f 2 y389 (([(([(-2)] : List Int)), []] : List (List Int)))).bind fun bt398 => ((some (([] : List (List Int)) : List (List Int))).bind fun y400 => (if 0 ≤ (wrap64 (Int.tmod a0 3)) then (if (wrap64 (Int.tmod a0 3)) ≤ (y389.length : Int) then ((some (y389.take ((wrap64 (Int.tmod a0 3)) : Int).toNat : List (List Int))).bind fun y403 => (if y400.length + y403.length < 5864062014805 then ((some (y400 ++ y403 : List (List Int))).bind fun y408 => (if 0 ≤ (wrap64 ((wrap64 (Int.tmod a0 3)) + 1)) then (if (wrap64 ((wrap64 (Int.tmod a0 3)) + 1)) ≤ (y389.length : Int) then ((some (y389.drop ((wrap64 ((wrap64 (Int.tmod a0 3)) + 1)) : Int).toNat : List (List Int))).bind fun y411 => (if y408.length + y411.length < 5864062014805 then (if bt398.2 = 0 then ((rup_Ends.f 2 y389 (([[]] : List (List Int))) ([] : List Int)).bind fun t422 => (if t422 = true then ((rup_Ends.f 2 (y408 ++ y411) (([[]] : List (List Int))) ([] : List Int)).bind fun t426 => (some (!t426))) else (none))) else (none)) else (none))) else (none)) else (none))) else (none))) else (none)) else (none))))) else (none)) = some r := H
  have A2 := Aside0.mk A20
  clear A20
  by_cases c3 : t379 = true
  · subst c3
    have H1 : ((some (([(([1] : List Int)), (([2] : List Int)), (([(-1), (-2)] : List Int))] : List (List Int)) : List (List Int))).bind fun y389 => ((rup_Check.f 2 y389 (([(([(-2)] : List Int)), []] : List (List Int)))).bind fun bt398 => ((some (([] : List (List Int)) : List (List Int))).bind fun y400 => (if 0 ≤ (wrap64 (Int.tmod a0 3)) then (if (wrap64 (Int.tmod a0 3)) ≤ (y389.length : Int) then ((some (y389.take ((wrap64 (Int.tmod a0 3)) : Int).toNat : List (List Int))).bind fun y403 => (if y400.length + y403.length < 5864062014805 then ((some (y400 ++ y403 : List (List Int))).bind fun y408 => (if 0 ≤ (wrap64 ((wrap64 (Int.tmod a0 3)) + 1)) then (if (wrap64 ((wrap64 (Int.tmod a0 3)) + 1)) ≤ (y389.length : Int) then ((some (y389.drop ((wrap64 ((wrap64 (Int.tmod a0 3)) + 1)) : Int).toNat : List (List Int))).bind fun y411 => (if y408.length + y411.length < 5864062014805 then (if bt398.2 = 0 then ((rup_Ends.f 2 y389 (([[]] : List (List Int))) ([] : List Int)).bind fun t422 => (if t422 = true then ((rup_Ends.f 2 (y408 ++ y411) (([[]] : List (List Int))) ([] : List Int)).bind fun t426 => (some (!t426))) else (none))) else (none)) else (none))) else (none)) else (none))) else (none))) else (none)) else (none))))) = some r := by rw [if_pos rfl] at H; exact H
    clear H
    have H := H1
    clear H1
    obtain ⟨y380, hy380⟩ : ∃ y_ : List Int, y_ = (([1] : List Int)) := ⟨_, rfl⟩
    replace H : ((some (([y380, (([2] : List Int)), (([(-1), (-2)] : List Int))] : List (List Int)) : List (List Int))).bind fun y389 => ((rup_Check.f 2 y389 (([(([(-2)] : List Int)), []] : List (List Int)))).bind fun bt398 => ((some (([] : List (List Int)) : List (List Int))).bind fun y400 => (if 0 ≤ (wrap64 (Int.tmod a0 3)) then (if (wrap64 (Int.tmod a0 3)) ≤ (y389.length : Int) then ((some (y389.take ((wrap64 (Int.tmod a0 3)) : Int).toNat : List (List Int))).bind fun y403 => (if y400.length + y403.length < 5864062014805 then ((some (y400 ++ y403 : List (List Int))).bind fun y408 => (if 0 ≤ (wrap64 ((wrap64 (Int.tmod a0 3)) + 1)) then (if (wrap64 ((wrap64 (Int.tmod a0 3)) + 1)) ≤ (y389.length : Int) then ((some (y389.drop ((wrap64 ((wrap64 (Int.tmod a0 3)) + 1)) : Int).toNat : List (List Int))).bind fun y411 => (if y408.length + y411.length < 5864062014805 then (if bt398.2 = 0 then ((rup_Ends.f 2 y389 (([[]] : List (List Int))) ([] : List Int)).bind fun t422 => (if t422 = true then ((rup_Ends.f 2 (y408 ++ y411) (([[]] : List (List Int))) ([] : List Int)).bind fun t426 => (some (!t426))) else (none))) else (none)) else (none))) else (none)) else (none))) else (none))) else (none)) else (none))))) = some r := by first | (rw [hy380]; with_reducible exact H) | (have H2_ := (Option.bind_some _ _).symm.trans H; rw [hy380]; with_reducible exact H2_) | (have H2_ := (Option.bind_some _ _).symm.trans H; with_reducible exact H2_) | with_reducible exact H | (rw [hy380]; exact H) | exact H
    have Ny380 := Aside0.mk hy380
    clear hy380
    obtain ⟨y383, hy383⟩ : ∃ y_ : List Int, y_ = (([2] : List Int)) := ⟨_, rfl⟩
    replace H : ((some (([y380, y383, (([(-1), (-2)] : List Int))] : List (List Int)) : List (List Int))).bind fun y389 => ((rup_Check.f 2 y389 (([(([(-2)] : List Int)), []] : List (List Int)))).bind fun bt398 => ((some (([] : List (List Int)) : List (List Int))).bind fun y400 => (if 0 ≤ (wrap64 (Int.tmod a0 3)) then (if (wrap64 (Int.tmod a0 3)) ≤ (y389.length : Int) then ((some (y389.take ((wrap64 (Int.tmod a0 3)) : Int).toNat : List (List Int))).bind fun y403 => (if y400.length + y403.length < 5864062014805 then ((some (y400 ++ y403 : List (List Int))).bind fun y408 => (if 0 ≤ (wrap64 ((wrap64 (Int.tmod a0 3)) + 1)) then (if (wrap64 ((wrap64 (Int.tmod a0 3)) + 1)) ≤ (y389.length : Int) then ((some (y389.drop ((wrap64 ((wrap64 (Int.tmod a0 3)) + 1)) : Int).toNat : List (List Int))).bind fun y411 => (if y408.length + y411.length < 5864062014805 then (if bt398.2 = 0 then ((rup_Ends.f 2 y389 (([[]] : List (List Int))) ([] : List Int)).bind fun t422 => (if t422 = true then ((rup_Ends.f 2 (y408 ++ y411) (([[]] : List (List Int))) ([] : List Int)).bind fun t426 => (some (!t426))) else (none))) else (none)) else (none))) else (none)) else (none))) else (none))) else (none)) else (none))))) = some r := by first | (rw [hy383]; with_reducible exact H) | (have H2_ := (Option.bind_some _ _).symm.trans H; rw [hy383]; with_reducible exact H2_) | (have H2_ := (Option.bind_some _ _).symm.trans H; with_reducible exact H2_) | with_reducible exact H | (rw [hy383]; exact H) | exact H
    have Ny383 := Aside0.mk hy383
    clear hy383
    obtain ⟨y386, hy386⟩ : ∃ y_ : List Int, y_ = (([(-1), (-2)] : List Int)) := ⟨_, rfl⟩
    replace H : ((some (([y380, y383, y386] : List (List Int)) : List (List Int))).bind fun y389 => ((rup_Check.f 2 y389 (([(([(-2)] : List Int)), []] : List (List Int)))).bind fun bt398 => ((some (([] : List (List Int)) : List (List Int))).bind fun y400 => (if 0 ≤ (wrap64 (Int.tmod a0 3)) then (if (wrap64 (Int.tmod a0 3)) ≤ (y389.length : Int) then ((some (y389.take ((wrap64 (Int.tmod a0 3)) : Int).toNat : List (List Int))).bind fun y403 => (if y400.length + y403.length < 5864062014805 then ((some (y400 ++ y403 : List (List Int))).bind fun y408 => (if 0 ≤ (wrap64 ((wrap64 (Int.tmod a0 3)) + 1)) then (if (wrap64 ((wrap64 (Int.tmod a0 3)) + 1)) ≤ (y389.length : Int) then ((some (y389.drop ((wrap64 ((wrap64 (Int.tmod a0 3)) + 1)) : Int).toNat : List (List Int))).bind fun y411 => (if y408.length + y411.length < 5864062014805 then (if bt398.2 = 0 then ((rup_Ends.f 2 y389 (([[]] : List (List Int))) ([] : List Int)).bind fun t422 => (if t422 = true then ((rup_Ends.f 2 (y408 ++ y411) (([[]] : List (List Int))) ([] : List Int)).bind fun t426 => (some (!t426))) else (none))) else (none)) else (none))) else (none)) else (none))) else (none))) else (none)) else (none))))) = some r := by first | (rw [hy386]; with_reducible exact H) | (have H2_ := (Option.bind_some _ _).symm.trans H; rw [hy386]; with_reducible exact H2_) | (have H2_ := (Option.bind_some _ _).symm.trans H; with_reducible exact H2_) | with_reducible exact H | (rw [hy386]; exact H) | exact H
    have Ny386 := Aside0.mk hy386
    clear hy386
    obtain ⟨y389, hy389⟩ : ∃ y_ : List (List Int), y_ = (([y380, y383, y386] : List (List Int))) := ⟨_, rfl⟩
    replace H : ((rup_Check.f 2 y389 (([(([(-2)] : List Int)), []] : List (List Int)))).bind fun bt398 => ((some (([] : List (List Int)) : List (List Int))).bind fun y400 => (if 0 ≤ (wrap64 (Int.tmod a0 3)) then (if (wrap64 (Int.tmod a0 3)) ≤ (y389.length : Int) then ((some (y389.take ((wrap64 (Int.tmod a0 3)) : Int).toNat : List (List Int))).bind fun y403 => (if y400.length + y403.length < 5864062014805 then ((some (y400 ++ y403 : List (List Int))).bind fun y408 => (if 0 ≤ (wrap64 ((wrap64 (Int.tmod a0 3)) + 1)) then (if (wrap64 ((wrap64 (Int.tmod a0 3)) + 1)) ≤ (y389.length : Int) then ((some (y389.drop ((wrap64 ((wrap64 (Int.tmod a0 3)) + 1)) : Int).toNat : List (List Int))).bind fun y411 => (if y408.length + y411.length < 5864062014805 then (if bt398.2 = 0 then ((rup_Ends.f 2 y389 (([[]] : List (List Int))) ([] : List Int)).bind fun t422 => (if t422 = true then ((rup_Ends.f 2 (y408 ++ y411) (([[]] : List (List Int))) ([] : List Int)).bind fun t426 => (some (!t426))) else (none))) else (none)) else (none))) else (none)) else (none))) else (none))) else (none)) else (none)))) = some r := by first | (rw [hy389]; with_reducible exact H) | (have H2_ := (Option.bind_some _ _).symm.trans H; rw [hy389]; with_reducible exact H2_) | (have H2_ := (Option.bind_some _ _).symm.trans H; with_reducible exact H2_) | with_reducible exact H | (rw [hy389]; exact H) | exact H
    have Ny389 := Aside0.mk hy389
    clear hy389
    obtain ⟨y392, hy392⟩ : ∃ y_ : List Int, y_ = (([(-2)] : List Int)) := ⟨_, rfl⟩
    replace H : ((rup_Check.f 2 y389 (([y392, []] : List (List Int)))).bind fun bt398 => ((some (([] : List (List Int)) : List (List Int))).bind fun y400 => (if 0 ≤ (wrap64 (Int.tmod a0 3)) then (if (wrap64 (Int.tmod a0 3)) ≤ (y389.length : Int) then ((some (y389.take ((wrap64 (Int.tmod a0 3)) : Int).toNat : List (List Int))).bind fun y403 => (if y400.length + y403.length < 5864062014805 then ((some (y400 ++ y403 : List (List Int))).bind fun y408 => (if 0 ≤ (wrap64 ((wrap64 (Int.tmod a0 3)) + 1)) then (if (wrap64 ((wrap64 (Int.tmod a0 3)) + 1)) ≤ (y389.length : Int) then ((some (y389.drop ((wrap64 ((wrap64 (Int.tmod a0 3)) + 1)) : Int).toNat : List (List Int))).bind fun y411 => (if y408.length + y411.length < 5864062014805 then (if bt398.2 = 0 then ((rup_Ends.f 2 y389 (([[]] : List (List Int))) ([] : List Int)).bind fun t422 => (if t422 = true then ((rup_Ends.f 2 (y408 ++ y411) (([[]] : List (List Int))) ([] : List Int)).bind fun t426 => (some (!t426))) else (none))) else (none)) else (none))) else (none)) else (none))) else (none))) else (none)) else (none)))) = some r := by first | (rw [hy392]; with_reducible exact H) | (have H2_ := (Option.bind_some _ _).symm.trans H; rw [hy392]; with_reducible exact H2_) | (have H2_ := (Option.bind_some _ _).symm.trans H; with_reducible exact H2_) | with_reducible exact H | (rw [hy392]; exact H) | exact H
    have Ny392 := Aside0.mk hy392
    clear hy392
    obtain ⟨y395, hy395⟩ : ∃ y_ : List (List Int), y_ = (([y392, []] : List (List Int))) := ⟨_, rfl⟩
    replace H : ((rup_Check.f 2 y389 y395).bind fun bt398 => ((some (([] : List (List Int)) : List (List Int))).bind fun y400 => (if 0 ≤ (wrap64 (Int.tmod a0 3)) then (if (wrap64 (Int.tmod a0 3)) ≤ (y389.length : Int) then ((some (y389.take ((wrap64 (Int.tmod a0 3)) : Int).toNat : List (List Int))).bind fun y403 => (if y400.length + y403.length < 5864062014805 then ((some (y400 ++ y403 : List (List Int))).bind fun y408 => (if 0 ≤ (wrap64 ((wrap64 (Int.tmod a0 3)) + 1)) then (if (wrap64 ((wrap64 (Int.tmod a0 3)) + 1)) ≤ (y389.length : Int) then ((some (y389.drop ((wrap64 ((wrap64 (Int.tmod a0 3)) + 1)) : Int).toNat : List (List Int))).bind fun y411 => (if y408.length + y411.length < 5864062014805 then (if bt398.2 = 0 then ((rup_Ends.f 2 y389 (([[]] : List (List Int))) ([] : List Int)).bind fun t422 => (if t422 = true then ((rup_Ends.f 2 (y408 ++ y411) (([[]] : List (List Int))) ([] : List Int)).bind fun t426 => (some (!t426))) else (none))) else (none)) else (none))) else (none)) else (none))) else (none))) else (none)) else (none)))) = some r := by first | (rw [hy395]; with_reducible exact H) | (have H2_ := (Option.bind_some _ _).symm.trans H; rw [hy395]; with_reducible exact H2_) | (have H2_ := (Option.bind_some _ _).symm.trans H; with_reducible exact H2_) | with_reducible exact H | (rw [hy395]; exact H) | exact H
    have Ny395 := Aside0.mk hy395
    clear hy395
    replace H := Option.bind_eq_some_iff.mp H
    obtain ⟨⟨t398, t399⟩, A40, H⟩ := H
    replace H : ((some (([] : List (List Int)) : List (List Int))).bind fun y400 => (if 0 ≤ (wrap64 (Int.tmod a0 3)) then (if (wrap64 (Int.tmod a0 3)) ≤ (y389.length : Int) then ((some (y389.take ((wrap64 (Int.tmod a0 3)) : Int).toNat : List (List Int))).bind fun y403 => (if y400.length + y403.length < 5864062014805 then ((some (y400 ++ y403 : List (List Int))).bind fun y408 => (if 0 ≤ (wrap64 ((wrap64 (Int.tmod a0 3)) + 1)) then (if (wrap64 ((wrap64 (Int.tmod a0 3)) + 1)) ≤ (y389.length : Int) then ((some (y389.drop ((wrap64 ((wrap64 (Int.tmod a0 3)) + 1)) : Int).toNat : List (List Int))).bind fun y411 => (if y408.length + y411.length < 5864062014805 then (if t399 = 0 then ((rup_Ends.f 2 y389 (([[]] : List (List Int))) ([] : List Int)).bind fun t422 => (if t422 = true then ((rup_Ends.f 2 (y408 ++ y411) (([[]] : List (List Int))) ([] : List Int)).bind fun t426 => (some (!t426))) else (none))) else (none)) else (none))) else (none)) else (none))) else (none))) else (none)) else (none))) = some r := H
    have A4 := Aside0.mk A40
    clear A40
    obtain ⟨y400, hy400⟩ : ∃ y_ : List (List Int), y_ = (([] : List (List Int))) := ⟨_, rfl⟩
    replace H : (if 0 ≤ (wrap64 (Int.tmod a0 3)) then (if (wrap64 (Int.tmod a0 3)) ≤ (y389.length : Int) then ((some (y389.take ((wrap64 (Int.tmod a0 3)) : Int).toNat : List (List Int))).bind fun y403 => (if y400.length + y403.length < 5864062014805 then ((some (y400 ++ y403 : List (List Int))).bind fun y408 => (if 0 ≤ (wrap64 ((wrap64 (Int.tmod a0 3)) + 1)) then (if (wrap64 ((wrap64 (Int.tmod a0 3)) + 1)) ≤ (y389.length : Int) then ((some (y389.drop ((wrap64 ((wrap64 (Int.tmod a0 3)) + 1)) : Int).toNat : List (List Int))).bind fun y411 => (if y408.length + y411.length < 5864062014805 then (if t399 = 0 then ((rup_Ends.f 2 y389 (([[]] : List (List Int))) ([] : List Int)).bind fun t422 => (if t422 = true then ((rup_Ends.f 2 (y408 ++ y411) (([[]] : List (List Int))) ([] : List Int)).bind fun t426 => (some (!t426))) else (none))) else (none)) else (none))) else (none)) else (none))) else (none))) else (none)) else (none)) = some r := by first | (rw [hy400]; with_reducible exact H) | (have H2_ := (Option.bind_some _ _).symm.trans H; rw [hy400]; with_reducible exact H2_) | (have H2_ := (Option.bind_some _ _).symm.trans H; with_reducible exact H2_) | with_reducible exact H | (rw [hy400]; exact H) | exact H
    have Ny400 := Aside0.mk hy400
    clear hy400
    obtain ⟨ji5, hji5⟩ : ∃ j_ : Int, (wrap64 (Int.tmod a0 3)) = j_ := ⟨_, rfl⟩
    replace H : (if 0 ≤ (ji5) then (if (ji5) ≤ (y389.length : Int) then ((some (y389.take ((ji5) : Int).toNat : List (List Int))).bind fun y403 => (if y400.length + y403.length < 5864062014805 then ((some (y400 ++ y403 : List (List Int))).bind fun y408 => (if 0 ≤ (wrap64 ((ji5) + 1)) then (if (wrap64 ((ji5) + 1)) ≤ (y389.length : Int) then ((some (y389.drop ((wrap64 ((ji5) + 1)) : Int).toNat : List (List Int))).bind fun y411 => (if y408.length + y411.length < 5864062014805 then (if t399 = 0 then ((rup_Ends.f 2 y389 (([[]] : List (List Int))) ([] : List Int)).bind fun t422 => (if t422 = true then ((rup_Ends.f 2 (y408 ++ y411) (([[]] : List (List Int))) ([] : List Int)).bind fun t426 => (some (!t426))) else (none))) else (none)) else (none))) else (none)) else (none))) else (none))) else (none)) else (none)) = some r := by first | (rw [hji5] at H; exact H) | (simp only [hji5] at H ⊢; exact H)
    (try rw [hji5] at A2)
    (try rw [hji5] at A4)
    have hji5w : (IntKind.i64.wrap (Int.tmod a0 3)) = ji5 := (i64_w _).trans hji5
    by_cases c6 : 0 ≤ (ji5)
    · rw [if_pos c6] at H
      have c6b0 := eq_true c6
      have c6b1 : decide (0 ≤ (ji5)) = true := decide_eq_true c6
      clear c6
      by_cases c7 : (ji5) ≤ (y389.length : Int)
      · rw [if_pos c7] at H
        have c7b0 := eq_true c7
        have c7b1 : decide ((ji5) ≤ (y389.length : Int)) = true := decide_eq_true c7
        clear c7
        obtain ⟨y403, hy403⟩ : ∃ y_ : List (List Int), y_ = (y389.take ((ji5) : Int).toNat) := ⟨_, rfl⟩
        replace H : (if y400.length + y403.length < 5864062014805 then ((some (y400 ++ y403 : List (List Int))).bind fun y408 => (if 0 ≤ (wrap64 ((ji5) + 1)) then (if (wrap64 ((ji5) + 1)) ≤ (y389.length : Int) then ((some (y389.drop ((wrap64 ((ji5) + 1)) : Int).toNat : List (List Int))).bind fun y411 => (if y408.length + y411.length < 5864062014805 then (if t399 = 0 then ((rup_Ends.f 2 y389 (([[]] : List (List Int))) ([] : List Int)).bind fun t422 => (if t422 = true then ((rup_Ends.f 2 (y408 ++ y411) (([[]] : List (List Int))) ([] : List Int)).bind fun t426 => (some (!t426))) else (none))) else (none)) else (none))) else (none)) else (none))) else (none)) = some r := by first | (rw [hy403]; with_reducible exact H) | (have H2_ := (Option.bind_some _ _).symm.trans H; rw [hy403]; with_reducible exact H2_) | (have H2_ := (Option.bind_some _ _).symm.trans H; with_reducible exact H2_) | with_reducible exact H | (rw [hy403]; exact H) | exact H
        have Ny403 := Aside0.mk hy403
        clear hy403
        by_cases c8 : y400.length + y403.length < 5864062014805
        · rw [if_pos c8] at H
          have LMc8 := Aside0.mk c8
          clear c8
          obtain ⟨y408, hy408⟩ : ∃ y_ : List (List Int), y_ = (y400 ++ y403) := ⟨_, rfl⟩
          replace H : (if 0 ≤ (wrap64 ((ji5) + 1)) then (if (wrap64 ((ji5) + 1)) ≤ (y389.length : Int) then ((some (y389.drop ((wrap64 ((ji5) + 1)) : Int).toNat : List (List Int))).bind fun y411 => (if y408.length + y411.length < 5864062014805 then (if t399 = 0 then ((rup_Ends.f 2 y389 (([[]] : List (List Int))) ([] : List Int)).bind fun t422 => (if t422 = true then ((rup_Ends.f 2 (y408 ++ y411) (([[]] : List (List Int))) ([] : List Int)).bind fun t426 => (some (!t426))) else (none))) else (none)) else (none))) else (none)) else (none)) = some r := by first | (rw [hy408]; with_reducible exact H) | (have H2_ := (Option.bind_some _ _).symm.trans H; rw [hy408]; with_reducible exact H2_) | (have H2_ := (Option.bind_some _ _).symm.trans H; with_reducible exact H2_) | with_reducible exact H | (rw [hy408]; exact H) | exact H
          have Ny408 := Aside0.mk hy408
          clear hy408
          obtain ⟨ji9, hji9⟩ : ∃ j_ : Int, (wrap64 ((ji5) + 1)) = j_ := ⟨_, rfl⟩
          replace H : (if 0 ≤ (ji9) then (if (ji9) ≤ (y389.length : Int) then ((some (y389.drop ((ji9) : Int).toNat : List (List Int))).bind fun y411 => (if y408.length + y411.length < 5864062014805 then (if t399 = 0 then ((rup_Ends.f 2 y389 (([[]] : List (List Int))) ([] : List Int)).bind fun t422 => (if t422 = true then ((rup_Ends.f 2 (y408 ++ y411) (([[]] : List (List Int))) ([] : List Int)).bind fun t426 => (some (!t426))) else (none))) else (none)) else (none))) else (none)) else (none)) = some r := by first | (rw [hji9] at H; exact H) | (simp only [hji9] at H ⊢; exact H)
          (try rw [hji9] at A2)
          (try rw [hji9] at A4)
          have hji9w : (IntKind.i64.wrap ((ji5) + 1)) = ji9 := (i64_w _).trans hji9
          by_cases c10 : 0 ≤ (ji9)
          · rw [if_pos c10] at H
            have c10b0 := eq_true c10
            have c10b1 : decide (0 ≤ (ji9)) = true := decide_eq_true c10
            clear c10
            by_cases c11 : (ji9) ≤ (y389.length : Int)
            · rw [if_pos c11] at H
              have c11b0 := eq_true c11
              have c11b1 : decide ((ji9) ≤ (y389.length : Int)) = true := decide_eq_true c11
              clear c11
              obtain ⟨y411, hy411⟩ : ∃ y_ : List (List Int), y_ = (y389.drop ((ji9) : Int).toNat) := ⟨_, rfl⟩
              replace H : (if y408.length + y411.length < 5864062014805 then (if t399 = 0 then ((rup_Ends.f 2 y389 (([[]] : List (List Int))) ([] : List Int)).bind fun t422 => (if t422 = true then ((rup_Ends.f 2 (y408 ++ y411) (([[]] : List (List Int))) ([] : List Int)).bind fun t426 => (some (!t426))) else (none))) else (none)) else (none)) = some r := by first | (rw [hy411]; with_reducible exact H) | (have H2_ := (Option.bind_some _ _).symm.trans H; rw [hy411]; with_reducible exact H2_) | (have H2_ := (Option.bind_some _ _).symm.trans H; with_reducible exact H2_) | with_reducible exact H | (rw [hy411]; exact H) | exact H
              have Ny411 := Aside0.mk hy411
              clear hy411
              by_cases c12 : y408.length + y411.length < 5864062014805
              · rw [if_pos c12] at H
                have LMc12 := Aside0.mk c12
                clear c12
                obtain ⟨y416, hy416⟩ : ∃ y_ : List (List Int), y_ = (y408 ++ y411) := ⟨_, rfl⟩
                replace H : (if t399 = 0 then ((rup_Ends.f 2 y389 (([[]] : List (List Int))) ([] : List Int)).bind fun t422 => (if t422 = true then ((rup_Ends.f 2 y416 (([[]] : List (List Int))) ([] : List Int)).bind fun t426 => (some (!t426))) else (none))) else (none)) = some r := by first | (rw [hy416]; with_reducible exact H) | (have H2_ := (Option.bind_some _ _).symm.trans H; rw [hy416]; with_reducible exact H2_) | (have H2_ := (Option.bind_some _ _).symm.trans H; with_reducible exact H2_) | with_reducible exact H | (rw [hy416]; exact H) | exact H
                have Ny416 := Aside0.mk hy416
                clear hy416
                by_cases c13 : t399 = 0
                · rw [if_pos c13] at H
                  have c13b0 : (t399 == 0) = true := beq_iff_eq.mpr c13
                  have c13b1 : (t399 != 0) = false := bne_eq_false_iff_eq.mpr c13
                  clear c13
                  obtain ⟨y419, hy419⟩ : ∃ y_ : List (List Int), y_ = (([[]] : List (List Int))) := ⟨_, rfl⟩
                  replace H : ((rup_Ends.f 2 y389 y419 ([] : List Int)).bind fun t422 => (if t422 = true then ((rup_Ends.f 2 y416 (([[]] : List (List Int))) ([] : List Int)).bind fun t426 => (some (!t426))) else (none))) = some r := by first | (rw [hy419]; with_reducible exact H) | (have H2_ := (Option.bind_some _ _).symm.trans H; rw [hy419]; with_reducible exact H2_) | (have H2_ := (Option.bind_some _ _).symm.trans H; with_reducible exact H2_) | with_reducible exact H | (rw [hy419]; exact H) | exact H
                  have Ny419 := Aside0.mk hy419
                  clear hy419
                  replace H := Option.bind_eq_some_iff.mp H
                  obtain ⟨t422, A140, H⟩ := H
                  replace H : (if t422 = true then ((rup_Ends.f 2 y416 (([[]] : List (List Int))) ([] : List Int)).bind fun t426 => (some (!t426))) else (none)) = some r := H
                  have A14 := Aside0.mk A140
                  clear A140
                  by_cases c15 : t422 = true
                  · subst c15
                    have H1 : ((rup_Ends.f 2 y416 (([[]] : List (List Int))) ([] : List Int)).bind fun t426 => (some (!t426))) = some r := by rw [if_pos rfl] at H; exact H
                    clear H
                    have H := H1
                    clear H1
                    obtain ⟨y423, hy423⟩ : ∃ y_ : List (List Int), y_ = (([[]] : List (List Int))) := ⟨_, rfl⟩
                    replace H : ((rup_Ends.f 2 y416 y423 ([] : List Int)).bind fun t426 => (some (!t426))) = some r := by first | (rw [hy423]; with_reducible exact H) | (have H2_ := (Option.bind_some _ _).symm.trans H; rw [hy423]; with_reducible exact H2_) | (have H2_ := (Option.bind_some _ _).symm.trans H; with_reducible exact H2_) | with_reducible exact H | (rw [hy423]; exact H) | exact H
                    have Ny423 := Aside0.mk hy423
                    clear hy423
                    replace H := Option.bind_eq_some_iff.mp H
                    obtain ⟨t426, A160, H⟩ := H
                    replace H : (some (!t426)) = some r := H
                    have A16 := Aside0.mk A160
                    clear A160
                    obtain rfl := Option.some.inj H
                    go_enter Try.func11, Try.ntmps11
                    try go_wp2_with (first | ((with_reducible refine gate_callee (f := 25) rfl ?_); refine goesL_ (some 8) rfl rfl Try.func25 (by kernel_rfl) rfl #[] rfl (by (try simp only [List.map_toArray, List.map_cons, List.map_nil]); first | done | rfl | (simp only [List.length_drop, List.length_take]; rfl)) ?_; (with_reducible refine (manciplelaw16_known.calls  true _ A2.out).mono ?_); rintro e w17 ⟨rfl, hb⟩; refine ⟨_, rfl, ?_⟩; have n0_ := Aside0.mk (below_step (by repeat (first | (with_reducible first | exact HB.out | apply below_alloc | apply pw_below_drewN | apply below_drew1) | exact HB.out)) hb); clear HB; have HB := n0_; clear n0_; (try clear hb); (try clear hb2); (try clear hk); (try clear hi)) | ((with_reducible refine gate_dst (N := 10) rfl ?_); (try (refine gate_guard (by rfl) ?_; dsimp only)); refine Kd.R_lit (Kd.int .i64) _ 3 ?hg (N := 10) ?hd (xs := ([1] : List Int)) (inner := [.int .i64 1]) (ok := fun _ => True) (okp := fun _ => True) ?hr ?hp (fun _ hk => hk) trivial (Below.refl _ _) (Nat.le_refl _) (by simp) ?_; (case hd => rfl); (case hg => rfl); (case hr => first | (go_simp; done) | (go_simp; rfl)); (case hp => exact (Reps.one (show Kd.M (Kd.int .i64) _ _ _ 1 [.int .i64 1] from rfl) (Reps.none _ _))); intro v381 w18 ho19 hb hg_ hnew_; clear hg_ hnew_; (first | rw [← Ny380.out] at ho19 | (simp only [Int.reduceToNat] at ho19; rw [← Ny380.out] at ho19)); have n0_ := Aside0.mk (Kd.R_lower ho19 (below_size (by repeat (first | (with_reducible first | exact HB.out | apply below_alloc | apply pw_below_drewN | apply below_drew1) | exact HB.out)))); have n1_ := Aside0.mk (below_step (by repeat (first | (with_reducible first | exact HB.out | apply below_alloc | apply pw_below_drewN | apply below_drew1) | exact HB.out)) hb); clear HB; have HO382 := n0_; have HB := n1_; clear n0_ n1_; clear hb ho19) | ((with_reducible refine gate_dst (N := 11) rfl ?_); (try (refine gate_guard (by rfl) ?_; dsimp only)); refine Kd.R_lit (Kd.int .i64) _ 3 ?hg (N := 11) ?hd (xs := ([2] : List Int)) (inner := [.int .i64 2]) (ok := fun _ => True) (okp := fun _ => True) ?hr ?hp (fun _ hk => hk) trivial (Below.refl _ _) (Nat.le_refl _) (by simp) ?_; (case hd => rfl); (case hg => rfl); (case hr => first | (go_simp; done) | (go_simp; rfl)); (case hp => exact (Reps.one (show Kd.M (Kd.int .i64) _ _ _ 2 [.int .i64 2] from rfl) (Reps.none _ _))); intro v384 w20 ho21 hb hg_ hnew_; clear hg_ hnew_; (first | rw [← Ny383.out] at ho21 | (simp only [Int.reduceToNat] at ho21; rw [← Ny383.out] at ho21)); have n0_ := Aside0.mk (Kd.R_elder' (by (with_reducible repeat (first | apply Kd.R_alloc | apply Kd.R_drewN | apply Kd.R_drew)); exact HO382.out) (Kd.R_base ho21) hb); have n1_ := Aside0.mk (Kd.R_lower (Kd.R_new' ho21 (Kd.R_lt (by (with_reducible repeat (first | apply Kd.R_alloc | apply Kd.R_drewN | apply Kd.R_drew)); exact HO382.out))) (below_size (by repeat (first | (with_reducible first | exact HB.out | apply below_alloc | apply pw_below_drewN | apply below_drew1) | exact HB.out)))); have n2_ := Aside0.mk (below_step (by repeat (first | (with_reducible first | exact HB.out | apply below_alloc | apply pw_below_drewN | apply below_drew1) | exact HB.out)) hb); clear HO382; clear HB; have HO382 := n0_; have HO385 := n1_; have HB := n2_; clear n0_ n1_ n2_; clear hb ho21) | ((with_reducible refine gate_dst (N := 12) rfl ?_); (try (refine gate_guard (by rfl) ?_; dsimp only)); refine Kd.R_lit (Kd.int .i64) _ 3 ?hg (N := 12) ?hd (xs := ([(-1), (-2)] : List Int)) (inner := [.int .i64 (-1), .int .i64 (-2)]) (ok := fun _ => True) (okp := fun _ => True) ?hr ?hp (fun _ hk => hk) trivial (Below.refl _ _) (Nat.le_refl _) (by simp) ?_; (case hd => rfl); (case hg => rfl); (case hr => first | (go_simp; done) | (go_simp; rfl)); (case hp => exact (Reps.one (show Kd.M (Kd.int .i64) _ _ _ (-1) [.int .i64 (-1)] from rfl) (Reps.one (show Kd.M (Kd.int .i64) _ _ _ (-2) [.int .i64 (-2)] from rfl) (Reps.none _ _)))); intro v387 w22 ho23 hb hg_ hnew_; clear hg_ hnew_; (first | rw [← Ny386.out] at ho23 | (simp only [Int.reduceToNat] at ho23; rw [← Ny386.out] at ho23)); have n0_ := Aside0.mk (Kd.R_elder' (by (with_reducible repeat (first | apply Kd.R_alloc | apply Kd.R_drewN | apply Kd.R_drew)); exact HO382.out) (Kd.R_base ho23) hb); have n1_ := Aside0.mk (Kd.R_elder' (by (with_reducible repeat (first | apply Kd.R_alloc | apply Kd.R_drewN | apply Kd.R_drew)); exact HO385.out) (Kd.R_base ho23) hb); have n2_ := Aside0.mk (Kd.R_lower (Kd.R_new' (Kd.R_new' ho23 (Kd.R_lt (by (with_reducible repeat (first | apply Kd.R_alloc | apply Kd.R_drewN | apply Kd.R_drew)); exact HO382.out))) (Kd.R_lt (by (with_reducible repeat (first | apply Kd.R_alloc | apply Kd.R_drewN | apply Kd.R_drew)); exact HO385.out))) (below_size (by repeat (first | (with_reducible first | exact HB.out | apply below_alloc | apply pw_below_drewN | apply below_drew1) | exact HB.out)))); have n3_ := Aside0.mk (below_step (by repeat (first | (with_reducible first | exact HB.out | apply below_alloc | apply pw_below_drewN | apply below_drew1) | exact HB.out)) hb); clear HO382; clear HO385; clear HB; have HO382 := n0_; have HO385 := n1_; have HO388 := n2_; have HB := n3_; clear n0_ n1_ n2_ n3_; clear hb ho23; obtain ⟨Ao24, co24, eo24⟩ := Kd.R_slice HO382.out; subst eo24; obtain ⟨Ao25, co25, eo25⟩ := Kd.R_slice HO385.out; subst eo25; obtain ⟨Ao26, co26, eo26⟩ := Kd.R_slice HO388.out; subst eo26) | ((with_reducible refine gate_dst (N := 13) rfl ?_); (try (refine gate_guard (by rfl) ?_; dsimp only)); refine Kd.N_lit (Kd.slice 3 (Kd.int .i64)) _ 42 ?hg (N' := 13) ?hd (xs := ([y380, y383, y386] : List (List Int))) (inner := [.slice Ao24 y380.length co24, .slice Ao25 y383.length co25, .slice Ao26 y386.length co26]) (ok := (fun _ => True)) (okp := (fun _ => True)) ?hr ?hp (fun _ hk => hk) ((show ∀ k_, w22.heap.size ≤ k_ → (fun _ => True) k_ from fun k_ hk => trivial) _ (Nat.le_refl _)) (Below.refl _ _) (Nat.le_refl _) (by simp) ?_; (case hd => rfl); (case hg => rfl); (case hr => first | (go_simp; done) | (go_simp; rfl)); (case hp => exact (Reps.one (show Kd.FK (Kd.slice 3 (Kd.int .i64)) _ _ y380 [.slice Ao24 y380.length co24] from (Kd.FK_slice_mk (Kd.R_reads' (Kd.R_mono (ok' := (fun _ => True)) (HO382.out) (fun k_ hk => trivial))).2.1 (Kd.R_F (Kd.R_mono (ok' := (fun _ => True)) (HO382.out) (fun k_ hk => trivial))))) (Reps.one (show Kd.FK (Kd.slice 3 (Kd.int .i64)) _ _ y383 [.slice Ao25 y383.length co25] from (Kd.FK_slice_mk (Kd.R_reads' (Kd.R_mono (ok' := (fun _ => True)) (HO385.out) (fun k_ hk => trivial))).2.1 (Kd.R_F (Kd.R_mono (ok' := (fun _ => True)) (HO385.out) (fun k_ hk => trivial))))) (Reps.one (show Kd.FK (Kd.slice 3 (Kd.int .i64)) _ _ y386 [.slice Ao26 y386.length co26] from (Kd.FK_slice_mk (Kd.R_reads' (Kd.R_mono (ok' := (fun _ => True)) (HO388.out) (fun k_ hk => trivial))).2.1 (Kd.R_F (Kd.R_mono (ok' := (fun _ => True)) (HO388.out) (fun k_ hk => trivial))))) (Reps.none _ _))))); intro v390 w27 ho28 hb hg_ hnew_; clear hg_ hnew_; (first | rw [← Ny389.out] at ho28 | (simp only [Int.reduceToNat] at ho28; rw [← Ny389.out] at ho28)); have n0_ := Aside0.mk (Kd.N_lower ho28 (below_size (by repeat (first | (with_reducible first | exact HB.out | apply below_alloc | apply pw_below_drewN | apply below_drew1) | exact HB.out)))); have n1_ := Aside0.mk (below_step (by repeat (first | (with_reducible first | exact HB.out | apply below_alloc | apply pw_below_drewN | apply below_drew1) | exact HB.out)) hb); clear HB; clear HO382; clear HO385; clear HO388; have HO391 := n0_; have HB := n1_; clear n0_ n1_; clear hb ho28) | ((with_reducible refine gate_dst (N := 16) rfl ?_); (try (refine gate_guard (by rfl) ?_; dsimp only)); refine Kd.R_lit (Kd.int .i64) _ 3 ?hg (N := 16) ?hd (xs := ([(-2)] : List Int)) (inner := [.int .i64 (-2)]) (ok := fun _ => True) (okp := fun _ => True) ?hr ?hp (fun _ hk => hk) trivial (Below.refl _ _) (Nat.le_refl _) (by simp) ?_; (case hd => rfl); (case hg => rfl); (case hr => first | (go_simp; done) | (go_simp; rfl)); (case hp => exact (Reps.one (show Kd.M (Kd.int .i64) _ _ _ (-2) [.int .i64 (-2)] from rfl) (Reps.none _ _))); intro v393 w29 ho30 hb hg_ hnew_; clear hg_ hnew_; (first | rw [← Ny392.out] at ho30 | (simp only [Int.reduceToNat] at ho30; rw [← Ny392.out] at ho30)); have n0_ := Aside0.mk (Kd.N_elder' (by (with_reducible repeat (first | apply Kd.N_alloc | apply Kd.N_drewN | apply Kd.N_drew)); exact HO391.out) (Kd.R_base ho30) hb); have n1_ := Aside0.mk (Kd.R_lower ho30 (below_size (by repeat (first | (with_reducible first | exact HB.out | apply below_alloc | apply pw_below_drewN | apply below_drew1) | exact HB.out)))); have n2_ := Aside0.mk (below_step (by repeat (first | (with_reducible first | exact HB.out | apply below_alloc | apply pw_below_drewN | apply below_drew1) | exact HB.out)) hb); clear HO391; clear HB; have HO391 := n0_; have HO394 := n1_; have HB := n2_; clear n0_ n1_ n2_; clear hb ho30; obtain ⟨Ao31, co31, eo31⟩ := Kd.R_slice HO394.out; subst eo31) | ((with_reducible refine gate_dst (N := 17) rfl ?_); (try (refine gate_guard (by rfl) ?_; dsimp only)); refine Kd.N_lit (Kd.slice 3 (Kd.int .i64)) _ 42 ?hg (N' := 17) ?hd (xs := ([y392, []] : List (List Int))) (inner := [.slice Ao31 y392.length co31, .slice none 0 0]) (ok := (fun k_ => some k_ ≠ (v390 : Value).ownBlock)) (okp := (fun k_ => some k_ ≠ (v390 : Value).ownBlock)) ?hr ?hp (fun _ hk => hk) ((show ∀ k_, w29.heap.size ≤ k_ → (fun k_ => some k_ ≠ (v390 : Value).ownBlock) k_ from fun k_ hk => Kd.fresh' (Kd.N_lt (by (with_reducible repeat (first | apply Kd.N_alloc | apply Kd.N_drewN | apply Kd.N_drew)); exact HO391.out)) k_ hk) _ (Nat.le_refl _)) (Below.refl _ _) (Nat.le_refl _) (by simp) ?_; (case hd => rfl); (case hg => rfl); (case hr => first | (go_simp; done) | (go_simp; rfl)); (case hp => exact (Reps.one (show Kd.FK (Kd.slice 3 (Kd.int .i64)) _ _ y392 [.slice Ao31 y392.length co31] from (Kd.FK_slice_mk (Kd.R_reads' (Kd.R_mono (ok' := (fun k_ => some k_ ≠ (v390 : Value).ownBlock)) (Kd.R_apart' (HO394.out) (Kd.N_typed HO391.out) (by decide)) (fun k_ hk => hk.2))).2.1 (Kd.R_F (Kd.R_mono (ok' := (fun k_ => some k_ ≠ (v390 : Value).ownBlock)) (Kd.R_apart' (HO394.out) (Kd.N_typed HO391.out) (by decide)) (fun k_ hk => hk.2))))) (Reps.one (show Kd.FK (Kd.slice 3 (Kd.int .i64)) _ _ [] [.slice none 0 0] from (Kd.FK_slice_mk (Nat.le_refl _) (Kd.F_nil _ _ _))) (Reps.none _ _)))); intro v396 w32 ho33 hb hg_ hnew_; clear hg_ hnew_; (first | rw [← Ny395.out] at ho33 | (simp only [Int.reduceToNat] at ho33; rw [← Ny395.out] at ho33)); have n0_ := Aside0.mk (Kd.N_elder' (by (with_reducible repeat (first | apply Kd.N_alloc | apply Kd.N_drewN | apply Kd.N_drew)); exact HO391.out) (Kd.N_base ho33) hb); have n1_ := Aside0.mk (Kd.N_lower ho33 (below_size (by repeat (first | (with_reducible first | exact HB.out | apply below_alloc | apply pw_below_drewN | apply below_drew1) | exact HB.out)))); have n2_ := Aside0.mk (below_step (by repeat (first | (with_reducible first | exact HB.out | apply below_alloc | apply pw_below_drewN | apply below_drew1) | exact HB.out)) hb); clear HO391; clear HB; clear HO394; have HO391 := n0_; have HO397 := n1_; have HB := n2_; clear n0_ n1_ n2_; clear hb ho33; obtain ⟨Ao34, co34, eo34⟩ := Kd.N_slice HO391.out; subst eo34; obtain ⟨Ao35, co35, eo35⟩ := Kd.N_slice HO397.out; subst eo35) | ((with_reducible refine gate_callee (f := 27) rfl ?_); refine goesL_ (some 18) rfl rfl Try.func27 (by kernel_rfl) rfl #[.int .i64 2, .slice Ao34 y389.length co34, .slice Ao35 y395.length co35] rfl (by (try simp only [List.map_toArray, List.map_cons, List.map_nil]); first | done | rfl | (simp only [List.length_drop, List.length_take]; rfl)) ?_; (with_reducible refine (rup_Check.calls 2 _ _ y389 _ _ y395 t398 t399 _ ?side1 ?side2 ?side3 ?side4 A4.out).mono ?_); (case side1 => repeat (first | exact (Kd.N_reads' HO391.out).2.2 | (with_reducible refine Kd.C_alloc ?_ _) | (with_reducible refine Kd.C_drewN ?_ _) | (with_reducible refine Kd.C_drew ?_))); (case side2 => exact (Kd.N_reads' HO391.out).2.1); (case side3 => repeat (first | exact (Kd.N_reads' HO397.out).2.2 | (with_reducible refine Kd.C_alloc ?_ _) | (with_reducible refine Kd.C_drewN ?_ _) | (with_reducible refine Kd.C_drew ?_))); (case side4 => exact (Kd.N_reads' HO397.out).2.1); rintro e w36 ⟨rfl, hb⟩; refine ⟨_, rfl, ?_⟩; have n0_ := Aside0.mk (Kd.N_below (by (with_reducible repeat (first | apply Kd.N_alloc | apply Kd.N_drewN | apply Kd.N_drew)); exact HO391.out) hb); have n1_ := Aside0.mk (Kd.N_below (by (with_reducible repeat (first | apply Kd.N_alloc | apply Kd.N_drewN | apply Kd.N_drew)); exact HO397.out) hb); have n2_ := Aside0.mk (below_step (by repeat (first | (with_reducible first | exact HB.out | apply below_alloc | apply pw_below_drewN | apply below_drew1) | exact HB.out)) hb); clear HO391; clear HO397; clear HB; have HO391 := n0_; have HO397 := n1_; have HB := n2_; clear n0_ n1_ n2_; (try clear hb); (try clear hb2); (try clear hk); (try clear hi)))
                    have n0_ := Aside0.mk (Kd.N_drew HO391.out)
                    have n1_ := Aside0.mk (Kd.N_drew HO397.out)
                    have n2_ := Aside0.mk (below_drew1 HB.out)
                    clear HO391
                    clear HO397
                    clear HB
                    have HO391 := n0_
                    have HO397 := n1_
                    have HB := n2_
                    clear n0_ n1_ n2_
                    have q38 : ((ji5) : Int) ≤ ((y389.length : Int) : Int) := of_decide_eq_true (by first | (with_reducible assumption) | assumption)
                    obtain ⟨i038, hi038, _, hsz38, _⟩ := info_parts info42
                    have hroom38 : y389.length ≤ co34 := (Kd.N_reads' HO391.out).2.1
                    have hC38 : Kd.F (Kd.slice 3 (Kd.int .i64)) _ _ Ao34 y389.length y389 := (Kd.V_at (base := w.heap.size) (Kd.N_V HO391.out)).2.2
                    have hcut38 := cut_to (P := Try.prog) 29 42 .i64 Try.underlying29 hi038 Ao34 y389.length co34 (ji5) (of_decide_eq_true (by first | (with_reducible assumption) | assumption)) q38 hroom38
                    have hr38 := Kd.F_take (m := ((ji5) : Int).toNat) hC38 (by omega)
                    have hy38 : y403.length = ((ji5) : Int).toNat := (by rw [Ny403.out, List.length_take]; omega)
                    rw [← Ny403.out] at hr38
                    rw [← hy38] at hcut38
                    have HO407 := Aside0.mk (show Kd.V (Kd.slice 3 (Kd.int .i64)) 42 _ w.heap.size _ (.slice Ao34 y403.length co34) y403 from Kd.V_mk (by omega) hr38)
                    have HC407 := Aside0.mk (show y403.length ≤ co34 from by omega)
                    clear hr38 hC38 hroom38 hi038 hsz38
                    have KY38 := Aside0.mk hy38
                    clear hy38
                    replace q38 := eq_true q38
                    have q39 : ((ji9) : Int) ≤ ((y389.length : Int) : Int) := of_decide_eq_true (by first | (with_reducible assumption) | assumption)
                    obtain ⟨i039, hi039, _, hsz39, _⟩ := info_parts info42
                    have hroom39 : y389.length ≤ co34 := (Kd.N_reads' HO391.out).2.1
                    have hC39 : Kd.F (Kd.slice 3 (Kd.int .i64)) _ _ Ao34 y389.length y389 := (Kd.V_at (base := w.heap.size) (Kd.N_V HO391.out)).2.2
                    have q039 : (0 : Int) ≤ ((ji9) : Int) := of_decide_eq_true (by first | (with_reducible assumption) | assumption)
                    have hcut39 := cut_from (P := Try.prog) 29 42 .i64 Try.underlying29 hi039 1 hsz39 Ao34 y389.length co34 (ji9) q039 q39
                    have hr39 := Kd.F_cut (m := ((ji9) : Int).toNat) (c := co34) hC39 (by omega) hroom39
                    obtain ⟨A39, hA39⟩ : ∃ A1, A1 = (if co34 = ((ji9) : Int).toNat then Ao34 else (Ao34 : Option Addr).map (·.add (((ji9) : Int).toNat * 1))) := ⟨_, rfl⟩
                    obtain ⟨c39, hc39⟩ : ∃ c1, c1 = co34 - ((ji9) : Int).toNat := ⟨_, rfl⟩
                    have hy39 : y411.length = y389.length - ((ji9) : Int).toNat := (by rw [Ny411.out, List.length_drop] <;> omega)
                    rw [show (y389).drop ((ji9) : Int).toNat = y411 from Ny411.out.symm] at hr39
                    replace hr39 : Kd.F (Kd.slice 3 (Kd.int .i64)) _ _ A39 y411.length y411 := (by rw [hA39]; exact hr39)
                    rw [← hy39, ← hA39, ← hc39] at hcut39
                    have HO415 := Aside0.mk (show Kd.V (Kd.slice 3 (Kd.int .i64)) 42 _ w.heap.size _ (.slice A39 y411.length c39) y411 from Kd.V_mk (by rw [hy39, hc39]; exact Nat.sub_le_sub_right hroom39 _) hr39)
                    have HC415 := Aside0.mk (show y411.length ≤ c39 from by rw [hy39, hc39]; exact Nat.sub_le_sub_right hroom39 _)
                    clear hr39 hC39 hroom39 hi039 hsz39 hc39
                    have KY39 := Aside0.mk hy39
                    have KA39 := Aside0.mk hA39
                    clear hy39 hA39
                    replace q39 := eq_true q39
                    refine start_ (n := 11) (S := fun w' => True) (ds := []) #[false, false, false, false, false, false, false, false, false, false, false] (by kernel_rfl) rfl rfl trivial (fun hHeld => ?_); refine with_tabW manciplelaw16_RupHoles.tab6 manciplelaw16_RupHoles.bits6 (fun HT_ HW_ => ?_)
                    generalize w36.drew = w37 at HO391 HO397 HB HO407 HO415 hHeld ⊢
                    refine pure_ (i := 1) (N := some 25) (v := ?_) (a' := ?_) #[false, true, false, false, false, false, false, false, false, false, false] rfl rfl (any_of HT_.out (by kernel_rfl)) (fun _ _ _ h => h) (Or.inl ⟨by rfl, ?_⟩) ?_ ?_
                    rotate_left
                    · intro w'
                      go_simp
                      with_reducible rfl
                    rotate_left
                    · simp only [Act.put, List.setIfInBounds_toArray, List.set_cons_zero, List.set_cons_succ, i64_w, i32_w]
                      rfl
                    refine pure_ (i := 2) (N := some 26) (v := ?_) (a' := ?_) #[false, true, true, false, false, false, false, false, false, false, false] rfl rfl (any_of HT_.out (by kernel_rfl)) (fun _ _ _ h => h) (Or.inl ⟨by rfl, ?_⟩) ?_ ?_
                    rotate_left
                    · intro w'
                      go_simp
                      with_reducible rfl
                    rotate_left
                    · simp only [Act.put, List.setIfInBounds_toArray, List.set_cons_zero, List.set_cons_succ, i64_w, i32_w]
                      rfl
                    refine pure_ (i := 3) (N := some 27) (v := ?_) (a' := ?_) #[false, true, true, true, false, false, false, false, false, false, false] rfl rfl (any_of HT_.out (by kernel_rfl)) (fun _ _ _ h => h) (Or.inl ⟨by rfl, ?_⟩) ?_ ?_
                    rotate_left
                    · intro w'
                      go_simp
                      with_reducible rfl
                    rotate_left
                    · simp only [Act.put, List.setIfInBounds_toArray, List.set_cons_zero, List.set_cons_succ, i64_w, i32_w]
                      rfl
                    refine pure_ (i := 5) (N := some 29) (v := ?_) (a' := ?_) #[false, true, true, true, false, true, false, false, false, false, false] rfl rfl (any_of HT_.out (by kernel_rfl)) (fun _ _ _ h => h) (Or.inl ⟨by rfl, ?_⟩) ?_ ?_
                    rotate_left
                    · intro w'
                      go_simp
                      with_reducible rfl
                    rotate_left
                    · simp only [Act.put, List.setIfInBounds_toArray, List.set_cons_zero, List.set_cons_succ, i64_w, i32_w]
                      rfl
                    refine pure_ (i := 6) (N := some 30) (v := ?_) (a' := ?_) #[false, true, true, true, false, true, true, false, false, false, false] rfl rfl (any_of HT_.out (by kernel_rfl)) (fun _ _ _ h => h) (Or.inl ⟨by rfl, ?_⟩) ?_ ?_
                    rotate_left
                    · intro w'
                      go_simp
                      with_reducible rfl
                    rotate_left
                    · simp only [Act.put, List.setIfInBounds_toArray, List.set_cons_zero, List.set_cons_succ, i64_w, i32_w]
                      rfl
                    refine pure_ (i := 7) (N := some 31) (v := ?_) (a' := ?_) #[false, true, true, true, false, true, true, true, false, false, false] rfl rfl (any_of HT_.out (by kernel_rfl)) (fun _ _ _ h => h) (Or.inl ⟨by rfl, ?_⟩) ?_ ?_
                    rotate_left
                    · intro w'
                      go_simp
                      with_reducible rfl
                    rotate_left
                    · simp only [Act.put, List.setIfInBounds_toArray, List.set_cons_zero, List.set_cons_succ, i64_w, i32_w]
                      rfl
                    refine pure_ (i := 8) (N := some 32) (v := ?_) (a' := ?_) #[false, true, true, true, false, true, true, true, true, false, false] rfl rfl (any_of HT_.out (by kernel_rfl)) (fun _ _ _ h => h) (Or.inl ⟨by rfl, ?_⟩) ?_ ?_
                    rotate_left
                    · intro w'
                      go_simp
                      with_reducible rfl
                    rotate_left
                    · simp only [Act.put, List.setIfInBounds_toArray, List.set_cons_zero, List.set_cons_succ, i64_w, i32_w]
                      rfl
                    refine one_ (i := 0) (N := some 24) #[true, true, true, true, false, true, true, true, true, false, false] rfl rfl (one_of HT_.out (by kernel_rfl)) (by decide) (fun K hK => ?_)
                    refine Kd.N_lit_step (Kd.slice 3 (Kd.int .i64)) _ 42 ?hg (N' := 24) ?hd (xs := ([] : List (List Int))) (inner := []) (ok := (fun k_ => some k_ ≠ (.slice Ao34 y389.length co34 : Value).ownBlock ∧ some k_ ≠ (.slice Ao35 y395.length co35 : Value).ownBlock)) (okp := (fun k_ => some k_ ≠ (.slice Ao34 y389.length co34 : Value).ownBlock ∧ some k_ ≠ (.slice Ao35 y395.length co35 : Value).ownBlock)) ?hr ?hp (fun _ hk => hk) ((show ∀ k_, w37.heap.size ≤ k_ → (fun k_ => some k_ ≠ (.slice Ao34 y389.length co34 : Value).ownBlock ∧ some k_ ≠ (.slice Ao35 y395.length co35 : Value).ownBlock) k_ from fun k_ hk => ⟨Kd.fresh' (Kd.N_lt (by (with_reducible repeat (first | apply Kd.N_alloc | apply Kd.N_drewN | apply Kd.N_drew)); exact HO391.out)) k_ hk, Kd.fresh' (Kd.N_lt (by (with_reducible repeat (first | apply Kd.N_alloc | apply Kd.N_drewN | apply Kd.N_drew)); exact HO397.out)) k_ hk⟩) _ (Nat.le_refl _)) (Below.refl _ _) (Nat.le_refl _) (by simp) ?_; (case hd => rfl); (case hg => rfl); (case hr => first | (go_simp; done) | (go_simp; rfl)); (case hp => exact (Reps.none _ _))
                    intro v401 w40 ho41 hb hg_ hnew_
                    clear hg_ hnew_
                    (first | rw [← Ny400.out] at ho41 | (simp only [Int.reduceToNat] at ho41; rw [← Ny400.out] at ho41))
                    have n0_ := Aside0.mk (Kd.N_elder' (by (with_reducible repeat (first | apply Kd.N_alloc | apply Kd.N_drewN | apply Kd.N_drew)); exact HO391.out) (Kd.N_base ho41) hb)
                    have n1_ := Aside0.mk (Kd.N_elder' (by (with_reducible repeat (first | apply Kd.N_alloc | apply Kd.N_drewN | apply Kd.N_drew)); exact HO397.out) (Kd.N_base ho41) hb)
                    have n2_ := Aside0.mk (Kd.V_elder' (by (with_reducible repeat (first | apply Kd.V_alloc | apply Kd.V_drewN | apply Kd.V_drew)); exact HO407.out) (Kd.N_base ho41) hb)
                    have n3_ := Aside0.mk (Kd.V_elder' (by (with_reducible repeat (first | apply Kd.V_alloc | apply Kd.V_drewN | apply Kd.V_drew)); exact HO415.out) (Kd.N_base ho41) hb)
                    have n4_ := Aside0.mk (Kd.N_lower ho41 (below_size (by repeat (first | (with_reducible first | exact HB.out | apply below_alloc | apply pw_below_drewN | apply below_drew1) | exact HB.out))))
                    have n5_ := Aside0.mk (below_step (by repeat (first | (with_reducible first | exact HB.out | apply below_alloc | apply pw_below_drewN | apply below_drew1) | exact HB.out)) hb)
                    clear HO391
                    clear HO397
                    clear HO407
                    clear HO415
                    clear HB
                    have HO391 := n0_
                    have HO397 := n1_
                    have HO407 := n2_
                    have HO415 := n3_
                    have HO402 := n4_
                    have HB := n5_
                    clear n0_ n1_ n2_ n3_ n4_ n5_
                    clear hb ho41
                    refine hK.out _ _ trivial (fun hHeld => ?_)
                    clear hK K
                    refine norm_ (a' := ?_) ?_ ?_
                    rotate_left
                    · show Act.put _ (some 24) _ = _
                      simp only [Act.put, List.setIfInBounds_toArray, List.set_cons_zero, List.set_cons_succ, i64_w, i32_w]
                      rfl
                    refine one_ (i := 4) (N := some 28) #[true, true, true, true, true, true, true, true, true, false, false] rfl rfl (one_of HT_.out (by kernel_rfl)) (by decide) (fun K hK => ?_)
                    refine Kd.N_append_rows_step (Kd.slice 3 (Kd.int .i64)) (w0 := w) w.heap.size (by rfl) (.tmp 24) (.tmp 27) 29 42 (.slice none 0 0) 24 rfl Try.underlying29 info42 rfl (by decide) (by omega) v401 y400 y403 _ _ _ (fun k_ => some k_ ≠ (.slice Ao35 y395.length co35 : Value).ownBlock) (fun k_ => ((fun k_ => some k_ ≠ (.slice Ao35 y395.length co35 : Value).ownBlock)) k_ ∧ some k_ ≠ (v401 : Value).ownBlock) rfl rfl ?aO ?aR (fun _ hk => hk) ?aF ?aB ?aS ?aL ?_
                    (case aR => exact (by skip; exact Kd.V_F (Kd.V_mono (ok' := (fun k_ => ((fun k_ => some k_ ≠ (.slice Ao35 y395.length co35 : Value).ownBlock)) k_ ∧ some k_ ≠ (v401 : Value).ownBlock)) (HO407.out) (fun k_ hk => ⟨hk.1.2, hk.2⟩))))
                    (case aB => exact (by repeat (first | (with_reducible first | exact HB.out | apply below_alloc | apply pw_below_drewN | apply below_drew1) | exact HB.out)))
                    (case aF => exact (fun k_ hk => Kd.fresh' (Kd.N_lt (by (with_reducible repeat (first | apply Kd.N_alloc | apply Kd.N_drewN | apply Kd.N_drew)); exact HO397.out)) k_ hk))
                    (case aO => exact (by (with_reducible repeat (first | apply Kd.N_alloc | apply Kd.N_drewN | apply Kd.N_drew)); exact Kd.N_mono HO402.out (fun _ hk => hk.2)))
                    (case aS => exact (below_size (by repeat (first | (with_reducible first | exact HB.out | apply below_alloc | apply pw_below_drewN | apply below_drew1) | exact HB.out))))
                    (case aL => have := LMc8.out; omega)
                    intro v409 w42 ho hb hg hat
                    rw [← Ny408.out] at ho
                    have n0_ := Aside0.mk (Kd.N_afterv (ok := (fun k_ => some k_ ≠ (.slice Ao35 y395.length co35 : Value).ownBlock)) (by (with_reducible repeat (first | apply Kd.N_alloc | apply Kd.N_drewN | apply Kd.N_drew)); exact Kd.N_mono HO391.out (fun _ hk => ⟨hk.1.2, hk.2⟩)) hg hat)
                    have n1_ := Aside0.mk (Kd.N_afterv (ok := (fun k_ => some k_ ≠ (.slice Ao34 y389.length co34 : Value).ownBlock)) (by (with_reducible repeat (first | apply Kd.N_alloc | apply Kd.N_drewN | apply Kd.N_drew)); exact HO397.out) hg hat)
                    have n2_ := Aside0.mk (Kd.V_afterv (ok := (fun k_ => some k_ ≠ (.slice Ao35 y395.length co35 : Value).ownBlock)) (by (with_reducible repeat (first | apply Kd.V_alloc | apply Kd.V_drewN | apply Kd.V_drew)); exact Kd.V_mono HO407.out (fun _ hk => ⟨hk.1.2, hk.2⟩)) hg hat)
                    have n3_ := Aside0.mk (Kd.V_afterv (ok := (fun k_ => some k_ ≠ (.slice Ao35 y395.length co35 : Value).ownBlock)) (by (with_reducible repeat (first | apply Kd.V_alloc | apply Kd.V_drewN | apply Kd.V_drew)); exact Kd.V_mono HO415.out (fun _ hk => ⟨hk.1.2, hk.2⟩)) hg hat)
                    have n4_ := Aside0.mk (hb)
                    have n5_ := Aside0.mk (ho)
                    clear HO391
                    clear HO397
                    clear HO407
                    clear HO415
                    clear HB
                    clear HO402
                    have HO391 := n0_
                    have HO397 := n1_
                    have HO407 := n2_
                    have HO415 := n3_
                    have HB := n4_
                    have HO410 := n5_
                    clear n0_ n1_ n2_ n3_ n4_ n5_
                    clear ho hb hg hat
                    refine hK.out _ _ trivial (fun hHeld => ?_)
                    clear hK K
                    refine norm_ (a' := ?_) ?_ ?_
                    rotate_left
                    · show Act.put _ (some 28) _ = _
                      simp only [Act.put, List.setIfInBounds_toArray, List.set_cons_zero, List.set_cons_succ, i64_w, i32_w]
                      rfl
                    refine one_ (i := 9) (N := some 33) #[true, true, true, true, true, true, true, true, true, true, false] rfl rfl (one_of HT_.out (by kernel_rfl)) (by decide) (fun K hK => ?_)
                    refine Kd.N_append_rows_step (Kd.slice 3 (Kd.int .i64)) (w0 := w) w.heap.size (by rfl) (.tmp 28) (.tmp 32) 29 42 (.slice none 0 0) 24 rfl Try.underlying29 info42 rfl (by decide) (by omega) v409 y408 y411 _ _ _ (fun k_ => some k_ ≠ (.slice Ao35 y395.length co35 : Value).ownBlock) (fun k_ => ((fun k_ => some k_ ≠ (.slice Ao35 y395.length co35 : Value).ownBlock)) k_ ∧ some k_ ≠ (v409 : Value).ownBlock) rfl rfl ?aO ?aR (fun _ hk => hk) ?aF ?aB ?aS ?aL ?_
                    (case aR => exact (by skip; exact Kd.V_F (Kd.V_mono (ok' := (fun k_ => ((fun k_ => some k_ ≠ (.slice Ao35 y395.length co35 : Value).ownBlock)) k_ ∧ some k_ ≠ (v409 : Value).ownBlock)) (HO415.out) (fun k_ hk => ⟨hk.1, hk.2⟩))))
                    (case aB => exact (by repeat (first | (with_reducible first | exact HB.out | apply below_alloc | apply pw_below_drewN | apply below_drew1) | exact HB.out)))
                    (case aF => exact (fun k_ hk => Kd.fresh' (Kd.N_lt (by (with_reducible repeat (first | apply Kd.N_alloc | apply Kd.N_drewN | apply Kd.N_drew)); exact HO397.out)) k_ hk))
                    (case aO => exact (by (with_reducible repeat (first | apply Kd.N_alloc | apply Kd.N_drewN | apply Kd.N_drew)); exact HO410.out))
                    (case aS => exact (below_size (by repeat (first | (with_reducible first | exact HB.out | apply below_alloc | apply pw_below_drewN | apply below_drew1) | exact HB.out))))
                    (case aL => have := LMc12.out; omega)
                    intro v417 w43 ho hb hg hat
                    rw [← Ny416.out] at ho
                    have n0_ := Aside0.mk (Kd.N_afterv (ok := (fun k_ => some k_ ≠ (.slice Ao35 y395.length co35 : Value).ownBlock)) (by (with_reducible repeat (first | apply Kd.N_alloc | apply Kd.N_drewN | apply Kd.N_drew)); exact HO391.out) hg hat)
                    have n1_ := Aside0.mk (Kd.N_afterv (ok := (fun k_ => some k_ ≠ (.slice Ao34 y389.length co34 : Value).ownBlock)) (by (with_reducible repeat (first | apply Kd.N_alloc | apply Kd.N_drewN | apply Kd.N_drew)); exact HO397.out) hg hat)
                    have n2_ := Aside0.mk (Kd.V_afterv (ok := (fun k_ => some k_ ≠ (.slice Ao35 y395.length co35 : Value).ownBlock)) (by (with_reducible repeat (first | apply Kd.V_alloc | apply Kd.V_drewN | apply Kd.V_drew)); exact HO407.out) hg hat)
                    have n3_ := Aside0.mk (Kd.V_afterv (ok := (fun k_ => some k_ ≠ (.slice Ao35 y395.length co35 : Value).ownBlock)) (by (with_reducible repeat (first | apply Kd.V_alloc | apply Kd.V_drewN | apply Kd.V_drew)); exact HO415.out) hg hat)
                    have n4_ := Aside0.mk (hb)
                    have n5_ := Aside0.mk (ho)
                    clear HO391
                    clear HO397
                    clear HO407
                    clear HO415
                    clear HB
                    clear HO410
                    have HO391 := n0_
                    have HO397 := n1_
                    have HO407 := n2_
                    have HO415 := n3_
                    have HB := n4_
                    have HO418 := n5_
                    clear n0_ n1_ n2_ n3_ n4_ n5_
                    clear ho hb hg hat
                    refine hK.out _ _ trivial (fun hHeld => ?_)
                    clear hK K
                    refine norm_ (a' := ?_) ?_ ?_
                    rotate_left
                    · show Act.put _ (some 33) _ = _
                      simp only [Act.put, List.setIfInBounds_toArray, List.set_cons_zero, List.set_cons_succ, i64_w, i32_w]
                      rfl
                    refine pure_ (i := 10) (N := some 7) (v := ?_) (a' := ?_) #[true, true, true, true, true, true, true, true, true, true, true] rfl rfl (any_of HT_.out (by kernel_rfl)) (fun _ _ _ h => h) (Or.inl ⟨by rfl, ?_⟩) ?_ ?_
                    rotate_left
                    · intro w'
                      go_simp
                      with_reducible rfl
                    rotate_left
                    · simp only [Act.put, List.setIfInBounds_toArray, List.set_cons_zero, List.set_cons_succ, i64_w, i32_w]
                      rfl
                    refine done_ (done_of HT_.out (by kernel_rfl)) ?_
                    try go_wp2_with (first | ((with_reducible refine gate_dst (N := 38) rfl ?_); (try (refine gate_guard (by rfl) ?_; dsimp only)); refine Kd.N_lit (Kd.slice 3 (Kd.int .i64)) _ 42 ?hg (N' := 38) ?hd (xs := ([[]] : List (List Int))) (inner := [.slice none 0 0]) (ok := (fun k_ => some k_ ≠ (.slice Ao34 y389.length co34 : Value).ownBlock ∧ some k_ ≠ (.slice Ao35 y395.length co35 : Value).ownBlock ∧ some k_ ≠ (v417 : Value).ownBlock)) (okp := (fun k_ => some k_ ≠ (.slice Ao34 y389.length co34 : Value).ownBlock ∧ some k_ ≠ (.slice Ao35 y395.length co35 : Value).ownBlock ∧ some k_ ≠ (v417 : Value).ownBlock)) ?hr ?hp (fun _ hk => hk) ((show ∀ k_, w43.heap.size ≤ k_ → (fun k_ => some k_ ≠ (.slice Ao34 y389.length co34 : Value).ownBlock ∧ some k_ ≠ (.slice Ao35 y395.length co35 : Value).ownBlock ∧ some k_ ≠ (v417 : Value).ownBlock) k_ from fun k_ hk => ⟨Kd.fresh' (Kd.N_lt (by (with_reducible repeat (first | apply Kd.N_alloc | apply Kd.N_drewN | apply Kd.N_drew)); exact HO391.out)) k_ hk, Kd.fresh' (Kd.N_lt (by (with_reducible repeat (first | apply Kd.N_alloc | apply Kd.N_drewN | apply Kd.N_drew)); exact HO397.out)) k_ hk, Kd.fresh' (Kd.N_lt (by (with_reducible repeat (first | apply Kd.N_alloc | apply Kd.N_drewN | apply Kd.N_drew)); exact HO418.out)) k_ hk⟩) _ (Nat.le_refl _)) (Below.refl _ _) (Nat.le_refl _) (by simp) ?_; (case hd => rfl); (case hg => rfl); (case hr => first | (go_simp; done) | (go_simp; rfl)); (case hp => exact (Reps.one (show Kd.FK (Kd.slice 3 (Kd.int .i64)) _ _ [] [.slice none 0 0] from (Kd.FK_slice_mk (Nat.le_refl _) (Kd.F_nil _ _ _))) (Reps.none _ _))); intro v420 w44 ho45 hb hg_ hnew_; clear hg_ hnew_; (first | rw [← Ny419.out] at ho45 | (simp only [Int.reduceToNat] at ho45; rw [← Ny419.out] at ho45)); have n0_ := Aside0.mk (Kd.N_elder' (by (with_reducible repeat (first | apply Kd.N_alloc | apply Kd.N_drewN | apply Kd.N_drew)); exact HO391.out) (Kd.N_base ho45) hb); have n1_ := Aside0.mk (Kd.N_elder' (by (with_reducible repeat (first | apply Kd.N_alloc | apply Kd.N_drewN | apply Kd.N_drew)); exact HO397.out) (Kd.N_base ho45) hb); have n2_ := Aside0.mk (Kd.V_elder' (by (with_reducible repeat (first | apply Kd.V_alloc | apply Kd.V_drewN | apply Kd.V_drew)); exact HO407.out) (Kd.N_base ho45) hb); have n3_ := Aside0.mk (Kd.V_elder' (by (with_reducible repeat (first | apply Kd.V_alloc | apply Kd.V_drewN | apply Kd.V_drew)); exact HO415.out) (Kd.N_base ho45) hb); have n4_ := Aside0.mk (Kd.N_elder' (by (with_reducible repeat (first | apply Kd.N_alloc | apply Kd.N_drewN | apply Kd.N_drew)); exact HO418.out) (Kd.N_base ho45) hb); have n5_ := Aside0.mk (Kd.N_lower ho45 (below_size (by repeat (first | (with_reducible first | exact HB.out | apply below_alloc | apply pw_below_drewN | apply below_drew1) | exact HB.out)))); have n6_ := Aside0.mk (below_step (by repeat (first | (with_reducible first | exact HB.out | apply below_alloc | apply pw_below_drewN | apply below_drew1) | exact HB.out)) hb); clear HO391; clear HO397; clear HO407; clear HO415; clear HO418; clear HB; have HO391 := n0_; have HO397 := n1_; have HO407 := n2_; have HO415 := n3_; have HO418 := n4_; have HO421 := n5_; have HB := n6_; clear n0_ n1_ n2_ n3_ n4_ n5_ n6_; clear hb ho45; obtain ⟨Ao46, co46, eo46⟩ := Kd.N_slice HO421.out; subst eo46) | (go_at_call 29; (with_reducible show Calls Try.prog 29 #[.int .i64 2, .slice _ y389.length _, .slice _ y419.length _, _] _ _); (refine (rup_Ends.calls 2 _ _ y389 _ _ y419 (fun k_ => False) _ _ ([] : List Int) true _ ?side1 ?side2 ?side3 ?side4 ?side5 A14.out).mono ?_); (case side1 => repeat (first | exact (Kd.N_reads' HO391.out).2.2 | (with_reducible refine Kd.C_alloc ?_ _) | (with_reducible refine Kd.C_drewN ?_ _) | (with_reducible refine Kd.C_drew ?_))); (case side2 => exact (Kd.N_reads' HO391.out).2.1); (case side3 => repeat (first | exact (Kd.N_reads' HO421.out).2.2 | (with_reducible refine Kd.C_alloc ?_ _) | (with_reducible refine Kd.C_drewN ?_ _) | (with_reducible refine Kd.C_drew ?_))); (case side4 => exact (Kd.N_reads' HO421.out).2.1); (case side5 => exact Kd.V_nil _ _ _ _ _); rintro e w47 ⟨rfl, hb⟩; have n0_ := Aside0.mk (Kd.N_below (by (with_reducible repeat (first | apply Kd.N_alloc | apply Kd.N_drewN | apply Kd.N_drew)); exact HO391.out) hb); have n1_ := Aside0.mk (Kd.N_below (by (with_reducible repeat (first | apply Kd.N_alloc | apply Kd.N_drewN | apply Kd.N_drew)); exact HO397.out) hb); have n2_ := Aside0.mk (Kd.V_below (by (with_reducible repeat (first | apply Kd.V_alloc | apply Kd.V_drewN | apply Kd.V_drew)); exact HO407.out) hb); have n3_ := Aside0.mk (Kd.V_below (by (with_reducible repeat (first | apply Kd.V_alloc | apply Kd.V_drewN | apply Kd.V_drew)); exact HO415.out) hb); have n4_ := Aside0.mk (Kd.N_below (by (with_reducible repeat (first | apply Kd.N_alloc | apply Kd.N_drewN | apply Kd.N_drew)); exact HO418.out) hb); have n5_ := Aside0.mk (Kd.N_below (by (with_reducible repeat (first | apply Kd.N_alloc | apply Kd.N_drewN | apply Kd.N_drew)); exact HO421.out) hb); have n6_ := Aside0.mk (below_step (by repeat (first | (with_reducible first | exact HB.out | apply below_alloc | apply pw_below_drewN | apply below_drew1) | exact HB.out)) hb); clear HO391; clear HO397; clear HO407; clear HO415; clear HO418; clear HO421; clear HB; have HO391 := n0_; have HO397 := n1_; have HO407 := n2_; have HO415 := n3_; have HO418 := n4_; have HO421 := n5_; have HB := n6_; clear n0_ n1_ n2_ n3_ n4_ n5_ n6_; (try clear hb); (try clear hb2); (try clear hk); (try clear hi)) | ((with_reducible refine gate_dst (N := 43) rfl ?_); (try (refine gate_guard (by rfl) ?_; dsimp only)); refine Kd.N_lit (Kd.slice 3 (Kd.int .i64)) _ 42 ?hg (N' := 43) ?hd (xs := ([[]] : List (List Int))) (inner := [.slice none 0 0]) (ok := (fun k_ => some k_ ≠ (.slice Ao34 y389.length co34 : Value).ownBlock ∧ some k_ ≠ (.slice Ao35 y395.length co35 : Value).ownBlock ∧ some k_ ≠ (v417 : Value).ownBlock ∧ some k_ ≠ (.slice Ao46 y419.length co46 : Value).ownBlock)) (okp := (fun k_ => some k_ ≠ (.slice Ao34 y389.length co34 : Value).ownBlock ∧ some k_ ≠ (.slice Ao35 y395.length co35 : Value).ownBlock ∧ some k_ ≠ (v417 : Value).ownBlock ∧ some k_ ≠ (.slice Ao46 y419.length co46 : Value).ownBlock)) ?hr ?hp (fun _ hk => hk) ((show ∀ k_, w47.heap.size ≤ k_ → (fun k_ => some k_ ≠ (.slice Ao34 y389.length co34 : Value).ownBlock ∧ some k_ ≠ (.slice Ao35 y395.length co35 : Value).ownBlock ∧ some k_ ≠ (v417 : Value).ownBlock ∧ some k_ ≠ (.slice Ao46 y419.length co46 : Value).ownBlock) k_ from fun k_ hk => ⟨Kd.fresh' (Kd.N_lt (by (with_reducible repeat (first | apply Kd.N_alloc | apply Kd.N_drewN | apply Kd.N_drew)); exact HO391.out)) k_ hk, Kd.fresh' (Kd.N_lt (by (with_reducible repeat (first | apply Kd.N_alloc | apply Kd.N_drewN | apply Kd.N_drew)); exact HO397.out)) k_ hk, Kd.fresh' (Kd.N_lt (by (with_reducible repeat (first | apply Kd.N_alloc | apply Kd.N_drewN | apply Kd.N_drew)); exact HO418.out)) k_ hk, Kd.fresh' (Kd.N_lt (by (with_reducible repeat (first | apply Kd.N_alloc | apply Kd.N_drewN | apply Kd.N_drew)); exact HO421.out)) k_ hk⟩) _ (Nat.le_refl _)) (Below.refl _ _) (Nat.le_refl _) (by simp) ?_; (case hd => rfl); (case hg => rfl); (case hr => first | (go_simp; done) | (go_simp; rfl)); (case hp => exact (Reps.one (show Kd.FK (Kd.slice 3 (Kd.int .i64)) _ _ [] [.slice none 0 0] from (Kd.FK_slice_mk (Nat.le_refl _) (Kd.F_nil _ _ _))) (Reps.none _ _))); intro v424 w48 ho49 hb hg_ hnew_; clear hg_ hnew_; (first | rw [← Ny423.out] at ho49 | (simp only [Int.reduceToNat] at ho49; rw [← Ny423.out] at ho49)); have n0_ := Aside0.mk (Kd.N_elder' (by (with_reducible repeat (first | apply Kd.N_alloc | apply Kd.N_drewN | apply Kd.N_drew)); exact HO391.out) (Kd.N_base ho49) hb); have n1_ := Aside0.mk (Kd.N_elder' (by (with_reducible repeat (first | apply Kd.N_alloc | apply Kd.N_drewN | apply Kd.N_drew)); exact HO397.out) (Kd.N_base ho49) hb); have n2_ := Aside0.mk (Kd.V_elder' (by (with_reducible repeat (first | apply Kd.V_alloc | apply Kd.V_drewN | apply Kd.V_drew)); exact HO407.out) (Kd.N_base ho49) hb); have n3_ := Aside0.mk (Kd.V_elder' (by (with_reducible repeat (first | apply Kd.V_alloc | apply Kd.V_drewN | apply Kd.V_drew)); exact HO415.out) (Kd.N_base ho49) hb); have n4_ := Aside0.mk (Kd.N_elder' (by (with_reducible repeat (first | apply Kd.N_alloc | apply Kd.N_drewN | apply Kd.N_drew)); exact HO418.out) (Kd.N_base ho49) hb); have n5_ := Aside0.mk (Kd.N_elder' (by (with_reducible repeat (first | apply Kd.N_alloc | apply Kd.N_drewN | apply Kd.N_drew)); exact HO421.out) (Kd.N_base ho49) hb); have n6_ := Aside0.mk (Kd.N_lower ho49 (below_size (by repeat (first | (with_reducible first | exact HB.out | apply below_alloc | apply pw_below_drewN | apply below_drew1) | exact HB.out)))); have n7_ := Aside0.mk (below_step (by repeat (first | (with_reducible first | exact HB.out | apply below_alloc | apply pw_below_drewN | apply below_drew1) | exact HB.out)) hb); clear HO391; clear HO397; clear HO407; clear HO415; clear HO418; clear HO421; clear HB; have HO391 := n0_; have HO397 := n1_; have HO407 := n2_; have HO415 := n3_; have HO418 := n4_; have HO421 := n5_; have HO425 := n6_; have HB := n7_; clear n0_ n1_ n2_ n3_ n4_ n5_ n6_ n7_; clear hb ho49; obtain ⟨Ao50, co50, eo50⟩ := Kd.N_slice HO418.out; subst eo50; obtain ⟨Ao51, co51, eo51⟩ := Kd.N_slice HO425.out; subst eo51) | (go_at_call 29; (refine (rup_Ends.calls 2 _ _ y416 _ _ y423 (fun k_ => False) _ _ ([] : List Int) t426 _ ?side1 ?side2 ?side3 ?side4 ?side5 A16.out).mono ?_); (case side1 => repeat (first | exact (Kd.N_reads' HO418.out).2.2 | (with_reducible refine Kd.C_alloc ?_ _) | (with_reducible refine Kd.C_drewN ?_ _) | (with_reducible refine Kd.C_drew ?_))); (case side2 => exact (Kd.N_reads' HO418.out).2.1); (case side3 => repeat (first | exact (Kd.N_reads' HO425.out).2.2 | (with_reducible refine Kd.C_alloc ?_ _) | (with_reducible refine Kd.C_drewN ?_ _) | (with_reducible refine Kd.C_drew ?_))); (case side4 => exact (Kd.N_reads' HO425.out).2.1); (case side5 => exact Kd.V_nil _ _ _ _ _); rintro e w52 ⟨rfl, hb⟩; have n0_ := Aside0.mk (Kd.N_below (by (with_reducible repeat (first | apply Kd.N_alloc | apply Kd.N_drewN | apply Kd.N_drew)); exact HO391.out) hb); have n1_ := Aside0.mk (Kd.N_below (by (with_reducible repeat (first | apply Kd.N_alloc | apply Kd.N_drewN | apply Kd.N_drew)); exact HO397.out) hb); have n2_ := Aside0.mk (Kd.V_below (by (with_reducible repeat (first | apply Kd.V_alloc | apply Kd.V_drewN | apply Kd.V_drew)); exact HO407.out) hb); have n3_ := Aside0.mk (Kd.V_below (by (with_reducible repeat (first | apply Kd.V_alloc | apply Kd.V_drewN | apply Kd.V_drew)); exact HO415.out) hb); have n4_ := Aside0.mk (Kd.N_below (by (with_reducible repeat (first | apply Kd.N_alloc | apply Kd.N_drewN | apply Kd.N_drew)); exact HO418.out) hb); have n5_ := Aside0.mk (Kd.N_below (by (with_reducible repeat (first | apply Kd.N_alloc | apply Kd.N_drewN | apply Kd.N_drew)); exact HO421.out) hb); have n6_ := Aside0.mk (Kd.N_below (by (with_reducible repeat (first | apply Kd.N_alloc | apply Kd.N_drewN | apply Kd.N_drew)); exact HO425.out) hb); have n7_ := Aside0.mk (below_step (by repeat (first | (with_reducible first | exact HB.out | apply below_alloc | apply pw_below_drewN | apply below_drew1) | exact HB.out)) hb); clear HO391; clear HO397; clear HO407; clear HO415; clear HO418; clear HO421; clear HO425; clear HB; have HO391 := n0_; have HO397 := n1_; have HO407 := n2_; have HO415 := n3_; have HO418 := n4_; have HO421 := n5_; have HO425 := n6_; have HB := n7_; clear n0_ n1_ n2_ n3_ n4_ n5_ n6_ n7_; (try clear hb); (try clear hb2); (try clear hk); (try clear hi)))
                    go_ret
                    exact ⟨by first | rfl | (simp [errW_none, errW_some] <;> rfl) | (simp only [← hji5, ← hji9]; first | rfl | (simp [errW_none, errW_some] <;> rfl)) | (simp [*, errW_none, errW_some] <;> rfl), by repeat (first | (with_reducible first | exact HB.out | apply below_alloc | apply pw_below_drewN | apply below_drew1) | exact HB.out)⟩
                  · replace c15 := Bool.eq_false_iff.mpr c15
                    subst c15
                    have H1 : (none) = some r := by rw [if_neg (show ¬ (false = true) by decide)] at H; exact H
                    clear H
                    have H := H1
                    clear H1
                    exact absurd H (by simp)
                · rw [if_neg c13] at H
                  exact absurd H (by simp)
              · rw [if_neg c12] at H
                exact absurd H (by simp)
            · rw [if_neg c11] at H
              exact absurd H (by simp)
          · rw [if_neg c10] at H
            exact absurd H (by simp)
        · rw [if_neg c8] at H
          exact absurd H (by simp)
      · rw [if_neg c7] at H
        exact absurd H (by simp)
    · rw [if_neg c6] at H
      exact absurd H (by simp)
  · replace c3 := Bool.eq_false_iff.mpr c3
    subst c3
    have H1 : (none) = some r := by rw [if_neg (show ¬ (false = true) by decide)] at H; exact H
    clear H
    have H := H1
    clear H1
    exact absurd H (by simp)

/-- THE ONE PURE STATEMENT of manciplelaw16_RupHoles: yours. -/
def manciplelaw16_RupHoles.Pure : Prop := ∀ (a0 : Int), (Lit.int .u8 a0).wf = true → manciplelaw16_RupHoles.f a0 = some true
theorem manciplelaw16_RupHoles.walk (P : manciplelaw16_RupHoles.Pure) (a0 : Int) (w : World) (w0 : (Lit.int .u8 a0).wf = true) :
    Calls Try.prog 11 #[.int .u8 a0] w fun e w' => e = .returned (.bool true) ∧ Below w.heap.size w w' := by
  have h := P a0 w0
  refine (manciplelaw16_RupHoles.calls a0 true w h).mono ?_
  rintro e w' ⟨rfl, hd⟩
  exact ⟨rfl, hd⟩

end Go.Proofs.Ytjbljblhbmfbpaa.PRup
