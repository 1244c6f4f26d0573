/- Printed by this session's program pp.py: the functions that the law uses as plain functions, and that each call comes to just what its plain function tells; in the last text the row itself. No conditions but those that stand in each statement. -/
import Derived.Test.YtjbljblhbmfbpaaPRupx0
import Derived.Test.YtjbljblhbmfbpaaPRupx1
import Derived.Test.YtjbljblhbmfbpaaPRupx3
namespace Go.Proofs.Ytjbljblhbmfbpaa.PRup
open Go.RowKit Go.Proofs.YtjbljblhbmfbpaaW.PrintWords Go.Proofs.YtjbljblhbmfbpaaW.PrintLast Go.Proofs.YtjbljblhbmfbpaaW.PrintMore
attribute [local go_sem] max2_int min2_int max_two min_two max_three min_three max_four min_four   -- for this text's walks alone
set_option linter.unusedVariables false
set_option linter.unusedSimpArgs false

/-! ### mancipleref20_CheckProof: function 28 -/
def mancipleref20_CheckProof.l0 : Nat → Int → List (List Int) → List (List Int) → Int → Option (Int × Int)
  | 0, _, _, _, _ => none
  | k + 1, x0, x2, x10, x11 => if x11 < (x2.length : Int) then (if 0 ≤ x11 then ((mancipleref14_CheckClause.f k x0 (rd_L1 x2 x11)).bind fun t236 => (if t236 = 0 then ((mancipleref20_Follows.f k x0 x10 (rd_L1 x2 x11)).bind fun t238 => (if t238 = true then (if x10.length < 5864062014805 then (mancipleref20_CheckProof.l0 k x0 x2 (x10 ++ [rd_L1 x2 x11]) (wrap64 (x11 + 1))) else (none)) else (some (x11, 13)))) else (some (x11, t236)))) else (none)) else (some (0, 0))
def mancipleref20_CheckProof.f (k : Nat) (a0 : Int) (l1 : List (List Int)) (l2 : List (List Int)) : Option (Int × Int) := (mancipleref14_CheckAll.f k a0 l1).bind fun bt227 => (if bt227.2 = 0 then ((some (([] : List (List Int)) : List (List Int))).bind fun y229 => (if y229.length + l1.length < 5864062014805 then (mancipleref20_CheckProof.l0 k a0 l2 (y229 ++ l1) 0) else (none))) else (some (0, bt227.2)))
theorem mancipleref20_CheckProof.mono_l : ∀ k, (∀ y0 y1 y2 y3, LeO (mancipleref20_CheckProof.l0 k y0 y1 y2 y3) (mancipleref20_CheckProof.l0 (k + 1) y0 y1 y2 y3))
  | 0 => fun _ _ _ _ r h => by simp [mancipleref20_CheckProof.l0] at h
  | k + 1 => by
    have ih0 := mancipleref20_CheckProof.mono_l k
    · intro y0 y1 y2 y3
      unfold mancipleref20_CheckProof.l0
      repeat' first
      | (with_reducible exact ih0 _ _ _ _)
      | (with_reducible exact mancipleref14_CheckAll.mono _ _ _)
      | (with_reducible exact mancipleref14_CheckClause.mono _ _ _)
      | (with_reducible exact mancipleref20_Follows.mono _ _ _ _)
      | (with_reducible exact LeO.refl _)
      | (with_reducible exact LeO.none _)
      | (with_reducible refine LeO.ite ?_ ?_)
      | (with_reducible refine LeO.bind ?_ (fun _ => ?_))
      | exact ih0 _ _ _ _
      | exact mancipleref14_CheckAll.mono _ _ _
      | exact mancipleref14_CheckClause.mono _ _ _
      | exact mancipleref20_Follows.mono _ _ _ _
      | exact LeO.none _
      | refine LeO.ite ?_ ?_
      | refine LeO.bind ?_ (fun _ => ?_)
theorem mancipleref20_CheckProof.mono : ∀ a0 a1 a2 k, LeO (mancipleref20_CheckProof.f k a0 a1 a2) (mancipleref20_CheckProof.f (k + 1) a0 a1 a2) := by
  intro a0 a1 a2 k
  have ih0 := mancipleref20_CheckProof.mono_l k
  unfold mancipleref20_CheckProof.f
  repeat' first
      | (with_reducible exact ih0 _ _ _ _)
      | (with_reducible exact mancipleref14_CheckAll.mono _ _ _)
      | (with_reducible exact mancipleref14_CheckClause.mono _ _ _)
      | (with_reducible exact mancipleref20_Follows.mono _ _ _ _)
      | (with_reducible exact LeO.refl _)
      | (with_reducible exact LeO.none _)
      | (with_reducible refine LeO.ite ?_ ?_)
      | (with_reducible refine LeO.bind ?_ (fun _ => ?_))
      | exact ih0 _ _ _ _
      | exact mancipleref14_CheckAll.mono _ _ _
      | exact mancipleref14_CheckClause.mono _ _ _
      | exact mancipleref20_Follows.mono _ _ _ _
      | exact LeO.none _
      | refine LeO.ite ?_ ?_
      | refine LeO.bind ?_ (fun _ => ?_)
set_option maxHeartbeats 8000000 in
set_option maxRecDepth 100000 in
theorem mancipleref20_CheckProof.calls (k : Nat) (a0 : Int) (P1_ : Nat → Prop) (A1 : Option Addr) (c1 : Nat) (l1 : List (List Int)) (P2_ : Nat → Prop) (A2 : Option Addr) (c2 : Nat) (l2 : List (List Int)) (r1 : Int) (r2 : Int) (w : World) (hs1 : Kd.V (Kd.slice 3 (Kd.int .i64)) 23 w w.heap.size (fun k_ => P1_ k_) (.slice A1 l1.length c1) l1) (hs2 : Kd.V (Kd.slice 3 (Kd.int .i64)) 23 w w.heap.size (fun k_ => P2_ k_) (.slice A2 l2.length c2) l2) (h : mancipleref20_CheckProof.f k a0 l1 l2 = some (r1, r2)) :
    Calls Try.prog 28 #[.int .i64 a0, .slice A1 l1.length c1, .slice A2 l2.length c2] w fun e w' => e = .returned (.tuple #[.int .i64 r1, .int .i64 r2]) ∧ Below w.heap.size w w' := by
  have HO1 := Aside0.mk (show Kd.V (Kd.slice 3 (Kd.int .i64)) 23 w w.heap.size (fun k_ => ((P1_ k_ ∨ P2_ k_) ∨ w.heap.size ≤ k_)) (.slice A1 l1.length c1) l1 from Kd.V_mono hs1 (fun k_ hk => .inl (.inl hk)))
  have HO2 := Aside0.mk (show Kd.V (Kd.slice 3 (Kd.int .i64)) 23 w w.heap.size (fun k_ => ((P1_ k_ ∨ P2_ k_) ∨ w.heap.size ≤ k_)) (.slice A2 l2.length c2) l2 from Kd.V_mono hs2 (fun k_ hk => .inl (.inr hk)))
  have HB := Aside0.mk (Below.refl w.heap.size w)
  have H : ((mancipleref14_CheckAll.f k a0 l1).bind fun bt227 => (if bt227.2 = 0 then ((some (([] : List (List Int)) : List (List Int))).bind fun y229 => (if y229.length + l1.length < 5864062014805 then (mancipleref20_CheckProof.l0 k a0 l2 (y229 ++ l1) 0) else (none))) else (some (0, bt227.2)))) = some (r1, r2) := h
  clear h
  replace H := Option.bind_eq_some_iff.mp H
  obtain ⟨⟨t227, t228⟩, A40, H⟩ := H
  replace H : (if t228 = 0 then ((some (([] : List (List Int)) : List (List Int))).bind fun y229 => (if y229.length + l1.length < 5864062014805 then (mancipleref20_CheckProof.l0 k a0 l2 (y229 ++ l1) 0) else (none))) else (some (0, t228))) = some (r1, r2) := H
  have A4 := Aside0.mk A40
  clear A40
  by_cases c5 : t228 = 0
  · rw [if_pos c5] at H
    have c5b0 : (t228 == 0) = true := beq_iff_eq.mpr c5
    have c5b1 : (t228 != 0) = false := bne_eq_false_iff_eq.mpr c5
    clear c5
    obtain ⟨y229, hy229⟩ : ∃ y_ : List (List Int), y_ = (([] : List (List Int))) := ⟨_, rfl⟩
    replace H : (if y229.length + l1.length < 5864062014805 then (mancipleref20_CheckProof.l0 k a0 l2 (y229 ++ l1) 0) else (none)) = some (r1, r2) := by first | (rw [hy229]; with_reducible exact H) | (have H2_ := (Option.bind_some _ _).symm.trans H; rw [hy229]; with_reducible exact H2_) | (have H2_ := (Option.bind_some _ _).symm.trans H; with_reducible exact H2_) | with_reducible exact H | (rw [hy229]; exact H) | exact H
    have Ny229 := Aside0.mk hy229
    clear hy229
    by_cases c6 : y229.length + l1.length < 5864062014805
    · rw [if_pos c6] at H
      have LMc6 := Aside0.mk c6
      clear c6
      obtain ⟨y232, hy232⟩ : ∃ y_ : List (List Int), y_ = (y229 ++ l1) := ⟨_, rfl⟩
      replace H : (mancipleref20_CheckProof.l0 k a0 l2 y232 0) = some (r1, r2) := by first | (rw [hy232]; with_reducible exact H) | (have H2_ := (Option.bind_some _ _).symm.trans H; rw [hy232]; with_reducible exact H2_) | (have H2_ := (Option.bind_some _ _).symm.trans H; with_reducible exact H2_) | with_reducible exact H | (rw [hy232]; exact H) | exact H
      have Ny232 := Aside0.mk hy232
      clear hy232
      have H' := Aside0.mk H
      clear H
      go_enter Try.func28, Try.ntmps28
      go_wp2_with (first | ((with_reducible refine gate_callee (f := 34) rfl ?_); refine goesL_ (some 15) rfl rfl Try.func34 (by kernel_rfl) rfl #[.int .i64 a0, .slice A1 l1.length c1] rfl (by (try simp only [List.map_toArray, List.map_cons, List.map_nil]); first | done | rfl | (simp only [List.length_drop, List.length_take]; rfl)) ?_; (with_reducible refine (mancipleref14_CheckAll.calls k a0 _ _ l1 t227 t228 _ ?side1 ?side2 A4.out).mono ?_); (case side1 => repeat (first | exact (Kd.V_reads' HO1.out).2.2 | (with_reducible refine Kd.C_alloc ?_ _) | (with_reducible refine Kd.C_drewN ?_ _) | (with_reducible refine Kd.C_drew ?_))); (case side2 => exact (Kd.V_reads' HO1.out).2.1); rintro e w' ⟨rfl, ⟨nd, rfl⟩⟩; refine ⟨_, rfl, ?_⟩) | ((with_reducible refine gate_dst (N := 21) rfl ?_); refine Kd.N_lit (Kd.slice 3 (Kd.int .i64)) _ 23 ?hg (N' := 21) ?hd (xs := ([] : List (List Int))) (inner := []) (ok := (fun k_ => ((P1_ k_ ∨ P2_ k_) ∨ w.heap.size ≤ k_))) (okp := (fun k_ => ((P1_ k_ ∨ P2_ k_) ∨ w.heap.size ≤ k_))) ?hr ?hp (fun _ hk => hk) ((show ∀ k_, w.heap.size ≤ k_ → (fun k_ => ((P1_ k_ ∨ P2_ k_) ∨ w.heap.size ≤ k_)) k_ from fun k_ hk => (.inr (Nat.le_trans (below_size (by repeat (first | (with_reducible first | exact HB.out | apply below_alloc | apply pw_below_drewN | apply below_drew1) | exact HB.out))) hk))) _ (Nat.le_refl _)) (Below.refl _ _) (Nat.le_refl _) (by simp) ?_; (case hd => rfl); (case hg => rfl); (case hr => first | (go_simp; done) | (go_simp; rfl)); (case hp => exact (Reps.none _ _)); intro v230 w7 ho8 hb hg_ hnew_; clear hg_ hnew_; (first | rw [← Ny229.out] at ho8 | (simp only [Int.reduceToNat] at ho8; rw [← Ny229.out] at ho8)); have n0_ := Aside0.mk (Kd.V_elder' (by (with_reducible repeat (first | apply Kd.V_alloc | apply Kd.V_drewN | apply Kd.V_drew)); exact HO1.out) (Kd.N_base ho8) hb); have n1_ := Aside0.mk (Kd.V_elder' (by (with_reducible repeat (first | apply Kd.V_alloc | apply Kd.V_drewN | apply Kd.V_drew)); exact HO2.out) (Kd.N_base ho8) hb); have n2_ := Aside0.mk (Kd.N_lower ho8 (below_size (by repeat (first | (with_reducible first | exact HB.out | apply below_alloc | apply pw_below_drewN | apply below_drew1) | exact HB.out)))); have n3_ := Aside0.mk (below_step (by repeat (first | (with_reducible first | exact HB.out | apply below_alloc | apply pw_below_drewN | apply below_drew1) | exact HB.out)) hb); clear HO1; clear HO2; clear HB; have HO1 := n0_; have HO2 := n1_; have HO231 := n2_; have HB := n3_; clear n0_ n1_ n2_ n3_; clear hb ho8) | ((with_reducible refine gate_builtin (b := .append) (xs := #[.tmp 21, .tmp 22]) rfl ?_); at_builtin; refine Kd.N_append_rows (Kd.slice 3 (Kd.int .i64)) (w0 := w) w.heap.size rfl (.tmp 21) (.tmp 22) 22 23 (.slice none 0 0) 24 rfl Try.underlying22 info23 rfl (by decide) (by omega) v230 y229 l1 _ _ _ (fun k_ => ((P1_ k_ ∨ P2_ k_) ∨ w.heap.size ≤ k_)) (fun k_ => ((fun k_ => ((P1_ k_ ∨ P2_ k_) ∨ w.heap.size ≤ k_))) k_ ∧ some k_ ≠ (v230 : Value).ownBlock) rfl rfl ?aO ?aR (fun _ hk => hk) ?aF ?aB ?aS ?aL ?_; (case aR => exact (by skip; exact Kd.V_F (Kd.V_mono (ok' := (fun k_ => ((fun k_ => ((P1_ k_ ∨ P2_ k_) ∨ w.heap.size ≤ k_))) k_ ∧ some k_ ≠ (v230 : Value).ownBlock)) (HO1.out) (fun k_ hk => ⟨hk.1, hk.2⟩)))); (case aB => exact (by repeat (first | (with_reducible first | exact HB.out | apply below_alloc | apply pw_below_drewN | apply below_drew1) | exact HB.out))); (case aF => exact (fun k_ hk => (.inr (Nat.le_trans (below_size (by repeat (first | (with_reducible first | exact HB.out | apply below_alloc | apply pw_below_drewN | apply below_drew1) | exact HB.out))) hk)))); (case aO => exact (by (with_reducible repeat (first | apply Kd.N_alloc | apply Kd.N_drewN | apply Kd.N_drew)); exact HO231.out)); (case aS => exact (below_size (by repeat (first | (with_reducible first | exact HB.out | apply below_alloc | apply pw_below_drewN | apply below_drew1) | exact HB.out)))); (case aL => have := LMc6.out; omega); intro v233 w9 ho hb hg hat; rw [← Ny232.out] at ho; have n0_ := Aside0.mk (Kd.V_afterv (ok := (fun k_ => ((P1_ k_ ∨ P2_ k_) ∨ w.heap.size ≤ k_))) (by (with_reducible repeat (first | apply Kd.V_alloc | apply Kd.V_drewN | apply Kd.V_drew)); exact HO1.out) hg hat); have n1_ := Aside0.mk (Kd.V_afterv (ok := (fun k_ => ((P1_ k_ ∨ P2_ k_) ∨ w.heap.size ≤ k_))) (by (with_reducible repeat (first | apply Kd.V_alloc | apply Kd.V_drewN | apply Kd.V_drew)); exact HO2.out) hg hat); have n2_ := Aside0.mk (hb); have n3_ := Aside0.mk (ho); clear HO1; clear HO2; clear HB; clear HO231; have HO1 := n0_; have HO2 := n1_; have HB := n2_; have HO234 := n3_; clear n0_ n1_ n2_ n3_; clear ho hb hg hat))
      go_loopg [10, 11] k (fun kq v10 v11 w' => ∃ (x10_1 : List (List Int)) (x11_1 : Int), v11 = .int .i64 x11_1 ∧ Aside0 (mancipleref20_CheckProof.l0 kq a0 l2 x10_1 x11_1 = some (r1, r2)) ∧ Aside0 (kq ≤ k) ∧ Aside0 (Kd.V (Kd.slice 3 (Kd.int .i64)) 23 w' w.heap.size (fun k_ => ((P1_ k_ ∨ P2_ k_) ∨ w.heap.size ≤ k_) ∧ some k_ ≠ (v10 : Value).ownBlock) (.slice A2 l2.length c2) l2) ∧ Aside0 (Kd.N (Kd.slice 3 (Kd.int .i64)) 23 w' w.heap.size (fun k_ => ((P1_ k_ ∨ P2_ k_) ∨ w.heap.size ≤ k_)) v10 x10_1) ∧ Aside0 (Below w.heap.size w w'))
      case atStart => exact ⟨(y232), (0), (by first | rfl | (simp; done) | (simp [*]; done)), H', ⟨Nat.le_refl _⟩, ⟨by (with_reducible repeat (first | apply Kd.V_alloc | apply Kd.V_drewN | apply Kd.V_drew)); exact HO2.out⟩, ⟨by (with_reducible repeat (first | apply Kd.N_alloc | apply Kd.N_drewN | apply Kd.N_drew)); exact HO234.out⟩, ⟨by repeat (first | (with_reducible first | exact HB.out | apply below_alloc | apply pw_below_drewN | apply below_drew1) | exact HB.out)⟩⟩
      case round =>
        clear H'
        try clear c1
        try clear c2
        try clear p2
        try clear c3
        try clear c5
        try clear c5b0
        try clear c5b1
        try clear c6
        obtain ⟨x10_1, x11_1, rfl, HA, HK1, HO_2, HO_10, HB⟩ := hrel
        cases gk with
        | zero => exact absurd HA.out (by simp [mancipleref20_CheckProof.l0])
        | succ k1 =>
          have H := HA.out
          clear HA
          simp only [mancipleref20_CheckProof.l0] at H
          by_cases c10 : x11_1 < (l2.length : Int)
          · rw [if_pos c10] at H
            have c10b0 : decide (x11_1 < (l2.length : Int)) = true := decide_eq_true c10
            clear c10
            by_cases c11 : 0 ≤ x11_1
            · rw [if_pos c11] at H
              have c11b0 : decide (0 ≤ x11_1) = true := decide_eq_true c11
              clear c11
              replace H := Option.bind_eq_some_iff.mp H
              obtain ⟨t236, A120, H⟩ := H
              replace H : (if t236 = 0 then ((mancipleref20_Follows.f k1 a0 x10_1 (rd_L1 l2 x11_1)).bind fun t238 => (if t238 = true then (if x10_1.length < 5864062014805 then (mancipleref20_CheckProof.l0 k1 a0 l2 (x10_1 ++ [rd_L1 l2 x11_1]) (wrap64 (x11_1 + 1))) else (none)) else (some (x11_1, 13)))) else (some (x11_1, t236))) = some (r1, r2) := H
              have A12 := Aside0.mk A120
              clear A120
              by_cases c13 : t236 = 0
              · rw [if_pos c13] at H
                have c13b0 : (t236 == 0) = true := beq_iff_eq.mpr c13
                have c13b1 : (t236 != 0) = false := bne_eq_false_iff_eq.mpr c13
                clear c13
                replace H := Option.bind_eq_some_iff.mp H
                obtain ⟨t238, A140, H⟩ := H
                replace H : (if t238 = true then (if x10_1.length < 5864062014805 then (mancipleref20_CheckProof.l0 k1 a0 l2 (x10_1 ++ [rd_L1 l2 x11_1]) (wrap64 (x11_1 + 1))) else (none)) else (some (x11_1, 13))) = some (r1, r2) := H
                have A14 := Aside0.mk A140
                clear A140
                by_cases c15 : t238 = true
                · subst c15
                  have H1 : (if x10_1.length < 5864062014805 then (mancipleref20_CheckProof.l0 k1 a0 l2 (x10_1 ++ [rd_L1 l2 x11_1]) (wrap64 (x11_1 + 1))) else (none)) = some (r1, r2) := by rw [if_pos rfl] at H; exact H
                  clear H
                  have H := H1
                  clear H1
                  by_cases c16 : x10_1.length < 5864062014805
                  · rw [if_pos c16] at H
                    have LMc16 := Aside0.mk c16
                    clear c16
                    obtain ⟨y240, hy240⟩ : ∃ y_ : List (List Int), y_ = (x10_1 ++ [rd_L1 l2 x11_1]) := ⟨_, rfl⟩
                    replace H : (mancipleref20_CheckProof.l0 k1 a0 l2 y240 (wrap64 (x11_1 + 1))) = some (r1, r2) := by first | (rw [hy240]; with_reducible exact H) | (have H2_ := (Option.bind_some _ _).symm.trans H; rw [hy240]; with_reducible exact H2_) | (have H2_ := (Option.bind_some _ _).symm.trans H; with_reducible exact H2_) | with_reducible exact H | (rw [hy240]; exact H) | exact H
                    have Ny240 := Aside0.mk hy240
                    clear hy240
                    have H' := Aside0.mk H
                    clear H
                    have p235 : 0 ≤ (x11_1 : Int) := of_decide_eq_true (by first | (with_reducible assumption) | assumption)
                    have q235 : x11_1 < (l2.length : Int) := of_decide_eq_true (by first | (with_reducible assumption) | assumption)
                    obtain ⟨ad235, A235_0, c235_0, e235, hx235_0, hl235_0, hi235_0⟩ := at_L1 (Kd.V_reads' HO_2.out).2.2 x11_1 p235 q235
                    cases e235
                    obtain ⟨ce235, hce235, hMe235, hcc235⟩ := Kd.V_get HO_2.out [] x11_1 p235 (by first | exact q235 | exact of_decide_eq_true (by first | (with_reducible assumption) | assumption) | (have e_ := (Kd.V_reads' HO_2.out).1; omega))
                    obtain ⟨ua235_0, uc235_0, rfl, ul235_0, ge235_0⟩ := Kd.FK_slice_open hMe235
                    have hv235_0 := hcc235 0 _ rfl
                    rw [Nat.add_zero, show ((Kd.slice 3 (Kd.int .i64))).sz = 1 from rfl, Nat.mul_one] at hv235_0
                    replace hv235_0 := Option.some.inj (hv235_0.symm.trans hx235_0)
                    injection hv235_0 with hva_ hvn_ hvc_
                    rw [hva_] at ge235_0
                    rw [hvc_] at ul235_0
                    have HL235_0 := Aside0.mk (show Kd.V (Kd.int .i64) 3 _ w.heap.size _ _ (rd_L1 l2 x11_1) from Kd.V_mk ul235_0 ge235_0)
                    clear hva_ hvn_ hvc_ ge235_0 ul235_0
                    clear hcc235 hce235
                    have HR235_0 := Aside0.mk hi235_0
                    have HC235_0 := Aside0.mk hl235_0
                    clear hi235_0 hl235_0
                    replace p235 := eq_true p235
                    replace q235 := eq_true q235
                    go_wp2_with (first | ((with_reducible refine gate_callee (f := 31) rfl ?_); refine goesL_ (some 35) rfl rfl Try.func31 (by kernel_rfl) rfl #[.int .i64 a0, .slice A235_0 (rd_L1 l2 x11_1).length c235_0] rfl (by (try simp only [List.map_toArray, List.map_cons, List.map_nil]); first | done | rfl | (simp only [List.length_drop, List.length_take]; rfl)) ?_; (with_reducible refine (mancipleref14_CheckClause.calls k1 a0 _ _ (rd_L1 l2 x11_1) t236 _ ?side1 ?side2 A12.out).mono ?_); (case side1 => repeat (first | exact (by repeat (first | (with_reducible exact HR235_0.out) | (with_reducible refine Kd.C_alloc ?_ _) | (with_reducible refine Kd.C_drewN ?_ _) | (with_reducible refine Kd.C_drew ?_) | exact HR235_0.out)) | (with_reducible refine Kd.C_alloc ?_ _) | (with_reducible refine Kd.C_drewN ?_ _) | (with_reducible refine Kd.C_drew ?_))); (case side2 => exact HC235_0.out); rintro e w' ⟨rfl, ⟨nd, rfl⟩⟩; refine ⟨_, rfl, ?_⟩; have p237 : 0 ≤ (x11_1 : Int) := of_decide_eq_true (by first | (with_reducible assumption) | assumption); have q237 : x11_1 < (l2.length : Int) := of_decide_eq_true (by first | (with_reducible assumption) | assumption); obtain ⟨ad237, A237_0, c237_0, e237, hx237_0, hl237_0, hi237_0⟩ := at_L1 (Kd.V_reads' HO_2.out).2.2 x11_1 p237 q237; obtain rfl : ad235 = ad237 := (by injection e237); obtain ⟨ce237, hce237, hMe237, hcc237⟩ := Kd.V_get HO_2.out [] x11_1 p237 (by first | exact q237 | exact of_decide_eq_true (by first | (with_reducible assumption) | assumption) | (have e_ := (Kd.V_reads' HO_2.out).1; omega)); obtain ⟨ua237_0, uc237_0, rfl, ul237_0, ge237_0⟩ := Kd.FK_slice_open hMe237; have hv237_0 := hcc237 0 _ rfl; rw [Nat.add_zero, show ((Kd.slice 3 (Kd.int .i64))).sz = 1 from rfl, Nat.mul_one] at hv237_0; replace hv237_0 := Option.some.inj (hv237_0.symm.trans hx237_0); injection hv237_0 with hva_ hvn_ hvc_; rw [hva_] at ge237_0; rw [hvc_] at ul237_0; have HL237_0 := Aside0.mk (show Kd.V (Kd.int .i64) 3 _ w.heap.size _ _ (rd_L1 l2 x11_1) from Kd.V_mk ul237_0 ge237_0); clear hva_ hvn_ hvc_ ge237_0 ul237_0; clear hcc237 hce237; have HR237_0 := Aside0.mk hi237_0; have HC237_0 := Aside0.mk hl237_0; clear hi237_0 hl237_0; replace p237 := eq_true p237; replace q237 := eq_true q237; have ea_ := Option.some.inj (hx235_0.symm.trans hx237_0); injection ea_ with ea_ en_ ec_; subst ea_; subst ec_; clear en_; obtain ⟨Ao17, co17, eo17⟩ := Kd.N_slice HO_10.out; subst eo17) | ((with_reducible refine gate_callee (f := 33) rfl ?_); refine goesL_ (some 46) rfl rfl Try.func33 (by kernel_rfl) rfl #[.int .i64 a0, .slice Ao17 x10_1.length co17, .slice A235_0 (rd_L1 l2 x11_1).length c235_0] rfl (by (try simp only [List.map_toArray, List.map_cons, List.map_nil]); first | done | rfl | (simp only [List.length_drop, List.length_take]; rfl)) ?_; (with_reducible refine (mancipleref20_Follows.calls k1 a0 _ _ x10_1 _ _ (rd_L1 l2 x11_1) true _ ?side1 ?side2 ?side3 ?side4 A14.out).mono ?_); (case side1 => repeat (first | exact (Kd.N_reads' HO_10.out).2.2 | (with_reducible refine Kd.C_alloc ?_ _) | (with_reducible refine Kd.C_drewN ?_ _) | (with_reducible refine Kd.C_drew ?_))); (case side2 => exact (Kd.N_reads' HO_10.out).2.1); (case side3 => repeat (first | exact (by repeat (first | (with_reducible exact HR237_0.out) | (with_reducible refine Kd.C_alloc ?_ _) | (with_reducible refine Kd.C_drewN ?_ _) | (with_reducible refine Kd.C_drew ?_) | exact HR237_0.out)) | (with_reducible refine Kd.C_alloc ?_ _) | (with_reducible refine Kd.C_drewN ?_ _) | (with_reducible refine Kd.C_drew ?_))); (case side4 => exact HC237_0.out); rintro e w18 ⟨rfl, hb⟩; refine ⟨_, rfl, ?_⟩; have n0_ := Aside0.mk (Kd.V_below (by (with_reducible repeat (first | apply Kd.V_alloc | apply Kd.V_drewN | apply Kd.V_drew)); exact HO_2.out) hb); have n1_ := Aside0.mk (Kd.N_below (by (with_reducible repeat (first | apply Kd.N_alloc | apply Kd.N_drewN | apply Kd.N_drew)); exact HO_10.out) hb); have n2_ := Aside0.mk (Kd.V_below (by (with_reducible repeat (first | apply Kd.V_alloc | apply Kd.V_drewN | apply Kd.V_drew)); exact HL235_0.out) hb); have n3_ := Aside0.mk (Kd.V_below (by (with_reducible repeat (first | apply Kd.V_alloc | apply Kd.V_drewN | apply Kd.V_drew)); exact HL237_0.out) hb); have n4_ := Aside0.mk (Kd.C_below (by repeat (first | (with_reducible exact HR235_0.out) | (with_reducible refine Kd.C_alloc ?_ _) | (with_reducible refine Kd.C_drewN ?_ _) | (with_reducible refine Kd.C_drew ?_) | exact HR235_0.out)) hb); have n5_ := Aside0.mk (Kd.C_below (by repeat (first | (with_reducible exact HR237_0.out) | (with_reducible refine Kd.C_alloc ?_ _) | (with_reducible refine Kd.C_drewN ?_ _) | (with_reducible refine Kd.C_drew ?_) | exact HR237_0.out)) hb); have n6_ := Aside0.mk (below_step (by repeat (first | (with_reducible first | exact HB.out | apply below_alloc | apply pw_below_drewN | apply below_drew1) | exact HB.out)) hb); clear HO_2; clear HO_10; clear HL235_0; clear HL237_0; clear HR235_0; clear HR237_0; clear HB; have HO_2 := n0_; have HO_10 := n1_; have HL235_0 := n2_; have HL237_0 := n3_; have HR235_0 := n4_; have HR237_0 := n5_; have HB := n6_; clear n0_ n1_ n2_ n3_ n4_ n5_ n6_; (try clear hb); (try clear hb2); (try clear hk); (try clear hi); have p239 : 0 ≤ (x11_1 : Int) := of_decide_eq_true (by first | (with_reducible assumption) | assumption); have q239 : x11_1 < (l2.length : Int) := of_decide_eq_true (by first | (with_reducible assumption) | assumption); obtain ⟨ad239, A239_0, c239_0, e239, hx239_0, hl239_0, hi239_0⟩ := at_L1 (Kd.V_reads' HO_2.out).2.2 x11_1 p239 q239; obtain rfl : ad235 = ad239 := (by injection e239); obtain ⟨ce239, hce239, hMe239, hcc239⟩ := Kd.V_get HO_2.out [] x11_1 p239 (by first | exact q239 | exact of_decide_eq_true (by first | (with_reducible assumption) | assumption) | (have e_ := (Kd.V_reads' HO_2.out).1; omega)); obtain ⟨ua239_0, uc239_0, rfl, ul239_0, ge239_0⟩ := Kd.FK_slice_open hMe239; have hv239_0 := hcc239 0 _ rfl; rw [Nat.add_zero, show ((Kd.slice 3 (Kd.int .i64))).sz = 1 from rfl, Nat.mul_one] at hv239_0; replace hv239_0 := Option.some.inj (hv239_0.symm.trans hx239_0); injection hv239_0 with hva_ hvn_ hvc_; rw [hva_] at ge239_0; rw [hvc_] at ul239_0; have HL239_0 := Aside0.mk (show Kd.V (Kd.int .i64) 3 _ w.heap.size _ _ (rd_L1 l2 x11_1) from Kd.V_mk ul239_0 ge239_0); clear hva_ hvn_ hvc_ ge239_0 ul239_0; clear hcc239 hce239; have HR239_0 := Aside0.mk hi239_0; have HC239_0 := Aside0.mk hl239_0; clear hi239_0 hl239_0; replace p239 := eq_true p239; replace q239 := eq_true q239) | ((with_reducible refine gate_builtin (b := .append) (xs := #[.tmp 49, .tmp 54]) rfl ?_); at_builtin; refine Kd.N_append (Kd.slice 3 (Kd.int .i64)) (w0 := w) w.heap.size rfl (.tmp 49) (.tmp 54) 22 23 (.slice none 0 0) 24 rfl Try.underlying22 info23 rfl (by decide) (by omega) (.slice Ao17 x10_1.length co17) x10_1 (rd_L1 l2 x11_1) [.slice A239_0 (rd_L1 l2 x11_1).length c239_0] (fun k_ => ((P1_ k_ ∨ P2_ k_) ∨ w.heap.size ≤ k_)) (fun k_ => ((fun k_ => ((P1_ k_ ∨ P2_ k_) ∨ w.heap.size ≤ k_))) k_ ∧ some k_ ≠ (.slice Ao17 x10_1.length co17 : Value).ownBlock) rfl rfl ?aP (fun _ hk => hk) ?aF ?aO ?aB ?aS ?aL ?_; (case aP => exact (Kd.FK_slice_mk (Kd.V_reads' (Kd.V_mono (ok' := (fun k_ => ((fun k_ => ((P1_ k_ ∨ P2_ k_) ∨ w.heap.size ≤ k_))) k_ ∧ some k_ ≠ (.slice Ao17 x10_1.length co17 : Value).ownBlock)) (HL239_0.out) (fun k_ hk => ⟨hk.1, hk.2⟩))).2.1 (Kd.V_F (Kd.V_mono (ok' := (fun k_ => ((fun k_ => ((P1_ k_ ∨ P2_ k_) ∨ w.heap.size ≤ k_))) k_ ∧ some k_ ≠ (.slice Ao17 x10_1.length co17 : Value).ownBlock)) (HL239_0.out) (fun k_ hk => ⟨hk.1, hk.2⟩))))); (case aB => exact (by repeat (first | (with_reducible first | exact HB.out | apply below_alloc | apply pw_below_drewN | apply below_drew1) | exact HB.out))); (case aF => exact (fun k_ hk => (.inr (Nat.le_trans (below_size (by repeat (first | (with_reducible first | exact HB.out | apply below_alloc | apply pw_below_drewN | apply below_drew1) | exact HB.out))) hk)))); (case aO => exact (by (with_reducible repeat (first | apply Kd.N_alloc | apply Kd.N_drewN | apply Kd.N_drew)); exact HO_10.out)); (case aS => exact (below_size (by repeat (first | (with_reducible first | exact HB.out | apply below_alloc | apply pw_below_drewN | apply below_drew1) | exact HB.out)))); (case aL => have := LMc16.out; omega); intro v241 w19 ho hb hg hat; rw [← Ny240.out] at ho; have n0_ := Aside0.mk (Kd.V_afterv (ok := (fun k_ => ((P1_ k_ ∨ P2_ k_) ∨ w.heap.size ≤ k_))) (by (with_reducible repeat (first | apply Kd.V_alloc | apply Kd.V_drewN | apply Kd.V_drew)); exact HO_2.out) hg hat); have n1_ := Aside0.mk (Kd.V_afterv (ok := (fun k_ => ((P1_ k_ ∨ P2_ k_) ∨ w.heap.size ≤ k_))) (by (with_reducible repeat (first | apply Kd.V_alloc | apply Kd.V_drewN | apply Kd.V_drew)); exact HL235_0.out) hg hat); have n2_ := Aside0.mk (Kd.V_afterv (ok := (fun k_ => ((P1_ k_ ∨ P2_ k_) ∨ w.heap.size ≤ k_))) (by (with_reducible repeat (first | apply Kd.V_alloc | apply Kd.V_drewN | apply Kd.V_drew)); exact HL237_0.out) hg hat); have n3_ := Aside0.mk (Kd.V_afterv (ok := (fun k_ => ((P1_ k_ ∨ P2_ k_) ∨ w.heap.size ≤ k_))) (by (with_reducible repeat (first | apply Kd.V_alloc | apply Kd.V_drewN | apply Kd.V_drew)); exact HL239_0.out) hg hat); have n4_ := Aside0.mk (hb); have n5_ := Aside0.mk (ho); clear HO_2; clear HL235_0; clear HL237_0; clear HL239_0; clear HB; clear HO_10; have HO_2 := n0_; have HL235_0 := n1_; have HL237_0 := n2_; have HL239_0 := n3_; have HB := n4_; have HO242 := n5_; clear n0_ n1_ n2_ n3_ n4_ n5_; clear ho hb hg hat))
                    go_roundg k1
                    case measure => have := HK1.out; omega
                    case rel => exact ⟨(y240), (wrap64 (x11_1 + 1)), (by first | rfl | (simp; done) | (simp [*]; done)), H', ⟨by have := HK1.out; omega⟩, ⟨by (with_reducible repeat (first | apply Kd.V_alloc | apply Kd.V_drewN | apply Kd.V_drew)); exact HO_2.out⟩, ⟨by (with_reducible repeat (first | apply Kd.N_alloc | apply Kd.N_drewN | apply Kd.N_drew)); exact HO242.out⟩, ⟨by repeat (first | (with_reducible first | exact HB.out | apply below_alloc | apply pw_below_drewN | apply below_drew1) | exact HB.out)⟩⟩
                  · rw [if_neg c16] at H
                    exact absurd H (by simp)
                · replace c15 := Bool.eq_false_iff.mpr c15
                  subst c15
                  have H1 : (some (x11_1, 13)) = some (r1, r2) := by rw [if_neg (show ¬ (false = true) by decide)] at H; exact H
                  clear H
                  have H := H1
                  clear H1
                  simp only [Option.some.injEq, Prod.mk.injEq] at H
                  obtain ⟨rfl, rfl⟩ := H
                  have p235 : 0 ≤ (x11_1 : Int) := of_decide_eq_true (by first | (with_reducible assumption) | assumption)
                  have q235 : x11_1 < (l2.length : Int) := of_decide_eq_true (by first | (with_reducible assumption) | assumption)
                  obtain ⟨ad235, A235_0, c235_0, e235, hx235_0, hl235_0, hi235_0⟩ := at_L1 (Kd.V_reads' HO_2.out).2.2 x11_1 p235 q235
                  cases e235
                  obtain ⟨ce235, hce235, hMe235, hcc235⟩ := Kd.V_get HO_2.out [] x11_1 p235 (by first | exact q235 | exact of_decide_eq_true (by first | (with_reducible assumption) | assumption) | (have e_ := (Kd.V_reads' HO_2.out).1; omega))
                  obtain ⟨ua235_0, uc235_0, rfl, ul235_0, ge235_0⟩ := Kd.FK_slice_open hMe235
                  have hv235_0 := hcc235 0 _ rfl
                  rw [Nat.add_zero, show ((Kd.slice 3 (Kd.int .i64))).sz = 1 from rfl, Nat.mul_one] at hv235_0
                  replace hv235_0 := Option.some.inj (hv235_0.symm.trans hx235_0)
                  injection hv235_0 with hva_ hvn_ hvc_
                  rw [hva_] at ge235_0
                  rw [hvc_] at ul235_0
                  have HL235_0 := Aside0.mk (show Kd.V (Kd.int .i64) 3 _ w.heap.size _ _ (rd_L1 l2 x11_1) from Kd.V_mk ul235_0 ge235_0)
                  clear hva_ hvn_ hvc_ ge235_0 ul235_0
                  clear hcc235 hce235
                  have HR235_0 := Aside0.mk hi235_0
                  have HC235_0 := Aside0.mk hl235_0
                  clear hi235_0 hl235_0
                  replace p235 := eq_true p235
                  replace q235 := eq_true q235
                  go_wp2_with (first | ((with_reducible refine gate_callee (f := 31) rfl ?_); refine goesL_ (some 35) rfl rfl Try.func31 (by kernel_rfl) rfl #[.int .i64 a0, .slice A235_0 (rd_L1 l2 x11_1).length c235_0] rfl (by (try simp only [List.map_toArray, List.map_cons, List.map_nil]); first | done | rfl | (simp only [List.length_drop, List.length_take]; rfl)) ?_; (with_reducible refine (mancipleref14_CheckClause.calls k1 a0 _ _ (rd_L1 l2 x11_1) t236 _ ?side1 ?side2 A12.out).mono ?_); (case side1 => repeat (first | exact (by repeat (first | (with_reducible exact HR235_0.out) | (with_reducible refine Kd.C_alloc ?_ _) | (with_reducible refine Kd.C_drewN ?_ _) | (with_reducible refine Kd.C_drew ?_) | exact HR235_0.out)) | (with_reducible refine Kd.C_alloc ?_ _) | (with_reducible refine Kd.C_drewN ?_ _) | (with_reducible refine Kd.C_drew ?_))); (case side2 => exact HC235_0.out); rintro e w' ⟨rfl, ⟨nd, rfl⟩⟩; refine ⟨_, rfl, ?_⟩; have p237 : 0 ≤ (x11_1 : Int) := of_decide_eq_true (by first | (with_reducible assumption) | assumption); have q237 : x11_1 < (l2.length : Int) := of_decide_eq_true (by first | (with_reducible assumption) | assumption); obtain ⟨ad237, A237_0, c237_0, e237, hx237_0, hl237_0, hi237_0⟩ := at_L1 (Kd.V_reads' HO_2.out).2.2 x11_1 p237 q237; obtain rfl : ad235 = ad237 := (by injection e237); obtain ⟨ce237, hce237, hMe237, hcc237⟩ := Kd.V_get HO_2.out [] x11_1 p237 (by first | exact q237 | exact of_decide_eq_true (by first | (with_reducible assumption) | assumption) | (have e_ := (Kd.V_reads' HO_2.out).1; omega)); obtain ⟨ua237_0, uc237_0, rfl, ul237_0, ge237_0⟩ := Kd.FK_slice_open hMe237; have hv237_0 := hcc237 0 _ rfl; rw [Nat.add_zero, show ((Kd.slice 3 (Kd.int .i64))).sz = 1 from rfl, Nat.mul_one] at hv237_0; replace hv237_0 := Option.some.inj (hv237_0.symm.trans hx237_0); injection hv237_0 with hva_ hvn_ hvc_; rw [hva_] at ge237_0; rw [hvc_] at ul237_0; have HL237_0 := Aside0.mk (show Kd.V (Kd.int .i64) 3 _ w.heap.size _ _ (rd_L1 l2 x11_1) from Kd.V_mk ul237_0 ge237_0); clear hva_ hvn_ hvc_ ge237_0 ul237_0; clear hcc237 hce237; have HR237_0 := Aside0.mk hi237_0; have HC237_0 := Aside0.mk hl237_0; clear hi237_0 hl237_0; replace p237 := eq_true p237; replace q237 := eq_true q237; have ea_ := Option.some.inj (hx235_0.symm.trans hx237_0); injection ea_ with ea_ en_ ec_; subst ea_; subst ec_; clear en_; obtain ⟨Ao20, co20, eo20⟩ := Kd.N_slice HO_10.out; subst eo20) | ((with_reducible refine gate_callee (f := 33) rfl ?_); refine goesL_ (some 46) rfl rfl Try.func33 (by kernel_rfl) rfl #[.int .i64 a0, .slice Ao20 x10_1.length co20, .slice A235_0 (rd_L1 l2 x11_1).length c235_0] rfl (by (try simp only [List.map_toArray, List.map_cons, List.map_nil]); first | done | rfl | (simp only [List.length_drop, List.length_take]; rfl)) ?_; (with_reducible refine (mancipleref20_Follows.calls k1 a0 _ _ x10_1 _ _ (rd_L1 l2 x11_1) false _ ?side1 ?side2 ?side3 ?side4 A14.out).mono ?_); (case side1 => repeat (first | exact (Kd.N_reads' HO_10.out).2.2 | (with_reducible refine Kd.C_alloc ?_ _) | (with_reducible refine Kd.C_drewN ?_ _) | (with_reducible refine Kd.C_drew ?_))); (case side2 => exact (Kd.N_reads' HO_10.out).2.1); (case side3 => repeat (first | exact (by repeat (first | (with_reducible exact HR237_0.out) | (with_reducible refine Kd.C_alloc ?_ _) | (with_reducible refine Kd.C_drewN ?_ _) | (with_reducible refine Kd.C_drew ?_) | exact HR237_0.out)) | (with_reducible refine Kd.C_alloc ?_ _) | (with_reducible refine Kd.C_drewN ?_ _) | (with_reducible refine Kd.C_drew ?_))); (case side4 => exact HC237_0.out); rintro e w21 ⟨rfl, hb⟩; refine ⟨_, rfl, ?_⟩; have n0_ := Aside0.mk (Kd.V_below (by (with_reducible repeat (first | apply Kd.V_alloc | apply Kd.V_drewN | apply Kd.V_drew)); exact HO_2.out) hb); have n1_ := Aside0.mk (Kd.N_below (by (with_reducible repeat (first | apply Kd.N_alloc | apply Kd.N_drewN | apply Kd.N_drew)); exact HO_10.out) hb); have n2_ := Aside0.mk (Kd.V_below (by (with_reducible repeat (first | apply Kd.V_alloc | apply Kd.V_drewN | apply Kd.V_drew)); exact HL235_0.out) hb); have n3_ := Aside0.mk (Kd.V_below (by (with_reducible repeat (first | apply Kd.V_alloc | apply Kd.V_drewN | apply Kd.V_drew)); exact HL237_0.out) hb); have n4_ := Aside0.mk (Kd.C_below (by repeat (first | (with_reducible exact HR235_0.out) | (with_reducible refine Kd.C_alloc ?_ _) | (with_reducible refine Kd.C_drewN ?_ _) | (with_reducible refine Kd.C_drew ?_) | exact HR235_0.out)) hb); have n5_ := Aside0.mk (Kd.C_below (by repeat (first | (with_reducible exact HR237_0.out) | (with_reducible refine Kd.C_alloc ?_ _) | (with_reducible refine Kd.C_drewN ?_ _) | (with_reducible refine Kd.C_drew ?_) | exact HR237_0.out)) hb); have n6_ := Aside0.mk (below_step (by repeat (first | (with_reducible first | exact HB.out | apply below_alloc | apply pw_below_drewN | apply below_drew1) | exact HB.out)) hb); clear HO_2; clear HO_10; clear HL235_0; clear HL237_0; clear HR235_0; clear HR237_0; clear HB; have HO_2 := n0_; have HO_10 := n1_; have HL235_0 := n2_; have HL237_0 := n3_; have HR235_0 := n4_; have HR237_0 := n5_; have HB := n6_; clear n0_ n1_ n2_ n3_ n4_ n5_ n6_; (try clear hb); (try clear hb2); (try clear hk); (try clear hi)))
                  go_ret2
                  exact ⟨by first | rfl | (simp [errW_none, errW_some] <;> rfl) | (simp [*, errW_none, errW_some] <;> rfl), by repeat (first | (with_reducible first | exact HB.out | apply below_alloc | apply pw_below_drewN | apply below_drew1) | exact HB.out)⟩
              · rw [if_neg c13] at H
                have c13b0 : (t236 == 0) = false := beq_eq_false_iff_ne.mpr c13
                have c13b1 : (t236 != 0) = true := bne_iff_ne.mpr c13
                simp only [Option.some.injEq, Prod.mk.injEq] at H
                obtain ⟨rfl, rfl⟩ := H
                have p235 : 0 ≤ (x11_1 : Int) := of_decide_eq_true (by first | (with_reducible assumption) | assumption)
                have q235 : x11_1 < (l2.length : Int) := of_decide_eq_true (by first | (with_reducible assumption) | assumption)
                obtain ⟨ad235, A235_0, c235_0, e235, hx235_0, hl235_0, hi235_0⟩ := at_L1 (Kd.V_reads' HO_2.out).2.2 x11_1 p235 q235
                cases e235
                obtain ⟨ce235, hce235, hMe235, hcc235⟩ := Kd.V_get HO_2.out [] x11_1 p235 (by first | exact q235 | exact of_decide_eq_true (by first | (with_reducible assumption) | assumption) | (have e_ := (Kd.V_reads' HO_2.out).1; omega))
                obtain ⟨ua235_0, uc235_0, rfl, ul235_0, ge235_0⟩ := Kd.FK_slice_open hMe235
                have hv235_0 := hcc235 0 _ rfl
                rw [Nat.add_zero, show ((Kd.slice 3 (Kd.int .i64))).sz = 1 from rfl, Nat.mul_one] at hv235_0
                replace hv235_0 := Option.some.inj (hv235_0.symm.trans hx235_0)
                injection hv235_0 with hva_ hvn_ hvc_
                rw [hva_] at ge235_0
                rw [hvc_] at ul235_0
                have HL235_0 := Aside0.mk (show Kd.V (Kd.int .i64) 3 _ w.heap.size _ _ (rd_L1 l2 x11_1) from Kd.V_mk ul235_0 ge235_0)
                clear hva_ hvn_ hvc_ ge235_0 ul235_0
                clear hcc235 hce235
                have HR235_0 := Aside0.mk hi235_0
                have HC235_0 := Aside0.mk hl235_0
                clear hi235_0 hl235_0
                replace p235 := eq_true p235
                replace q235 := eq_true q235
                go_wp2_with (first | ((with_reducible refine gate_callee (f := 31) rfl ?_); refine goesL_ (some 35) rfl rfl Try.func31 (by kernel_rfl) rfl #[.int .i64 a0, .slice A235_0 (rd_L1 l2 x11_1).length c235_0] rfl (by (try simp only [List.map_toArray, List.map_cons, List.map_nil]); first | done | rfl | (simp only [List.length_drop, List.length_take]; rfl)) ?_; (with_reducible refine (mancipleref14_CheckClause.calls k1 a0 _ _ (rd_L1 l2 x11_1) t236 _ ?side1 ?side2 A12.out).mono ?_); (case side1 => repeat (first | exact (by repeat (first | (with_reducible exact HR235_0.out) | (with_reducible refine Kd.C_alloc ?_ _) | (with_reducible refine Kd.C_drewN ?_ _) | (with_reducible refine Kd.C_drew ?_) | exact HR235_0.out)) | (with_reducible refine Kd.C_alloc ?_ _) | (with_reducible refine Kd.C_drewN ?_ _) | (with_reducible refine Kd.C_drew ?_))); (case side2 => exact HC235_0.out); rintro e w' ⟨rfl, ⟨nd, rfl⟩⟩; refine ⟨_, rfl, ?_⟩))
                go_ret2
                exact ⟨by first | rfl | (simp [errW_none, errW_some] <;> rfl) | (simp [*, errW_none, errW_some] <;> rfl), by repeat (first | (with_reducible first | exact HB.out | apply below_alloc | apply pw_below_drewN | apply below_drew1) | exact HB.out)⟩
            · rw [if_neg c11] at H
              exact absurd H (by simp)
          · rw [if_neg c10] at H
            have c10b0 : decide (x11_1 < (l2.length : Int)) = false := decide_eq_false c10
            clear c10
            simp only [Option.some.injEq, Prod.mk.injEq] at H
            obtain ⟨rfl, rfl⟩ := H
            go_wp2
            go_ret2
            exact ⟨by first | rfl | (simp [errW_none, errW_some] <;> rfl) | (simp [*, errW_none, errW_some] <;> rfl), by repeat (first | (with_reducible first | exact HB.out | apply below_alloc | apply pw_below_drewN | apply below_drew1) | exact HB.out)⟩
    · rw [if_neg c6] at H
      exact absurd H (by simp)
  · rw [if_neg c5] at H
    have c5b0 : (t228 == 0) = false := beq_eq_false_iff_ne.mpr c5
    have c5b1 : (t228 != 0) = true := bne_iff_ne.mpr c5
    simp only [Option.some.injEq, Prod.mk.injEq] at H
    obtain ⟨rfl, rfl⟩ := H
    go_enter Try.func28, Try.ntmps28
    go_wp2_with (first | ((with_reducible refine gate_callee (f := 34) rfl ?_); refine goesL_ (some 15) rfl rfl Try.func34 (by kernel_rfl) rfl #[.int .i64 a0, .slice A1 l1.length c1] rfl (by (try simp only [List.map_toArray, List.map_cons, List.map_nil]); first | done | rfl | (simp only [List.length_drop, List.length_take]; rfl)) ?_; (with_reducible refine (mancipleref14_CheckAll.calls k a0 _ _ l1 t227 t228 _ ?side1 ?side2 A4.out).mono ?_); (case side1 => repeat (first | exact (Kd.V_reads' HO1.out).2.2 | (with_reducible refine Kd.C_alloc ?_ _) | (with_reducible refine Kd.C_drewN ?_ _) | (with_reducible refine Kd.C_drew ?_))); (case side2 => exact (Kd.V_reads' HO1.out).2.1); rintro e w' ⟨rfl, ⟨nd, rfl⟩⟩; refine ⟨_, rfl, ?_⟩))
    go_ret2
    exact ⟨by first | rfl | (simp [errW_none, errW_some] <;> rfl) | (simp [*, errW_none, errW_some] <;> rfl), by repeat (first | (with_reducible first | exact HB.out | apply below_alloc | apply pw_below_drewN | apply below_drew1) | exact HB.out)⟩

/-! ### mancipleref14_SameClause: function 47 -/
def mancipleref14_SameClause.l0 : Nat → List Int → List Int → Int → Option (Bool)
  | 0, _, _, _ => none
  | k + 1, x0, x1, x5 => if x5 < (x0.length : Int) then (if 0 ≤ x5 then (if x5 < (x1.length : Int) then (if (rd x0 x5) = (rd x1 x5) then (mancipleref14_SameClause.l0 k x0 x1 (wrap64 (x5 + 1))) else (some false)) else (none)) else (none)) else (some true)
def mancipleref14_SameClause.f (k : Nat) (l0 : List Int) (l1 : List Int) : Option (Bool) := if (l0.length : Int) = (l1.length : Int) then (mancipleref14_SameClause.l0 k l0 l1 0) else (some false)
theorem mancipleref14_SameClause.mono_l : ∀ k, (∀ y0 y1 y2, LeO (mancipleref14_SameClause.l0 k y0 y1 y2) (mancipleref14_SameClause.l0 (k + 1) y0 y1 y2))
  | 0 => fun _ _ _ r h => by simp [mancipleref14_SameClause.l0] at h
  | k + 1 => by
    have ih0 := mancipleref14_SameClause.mono_l k
    · intro y0 y1 y2
      unfold mancipleref14_SameClause.l0
      repeat' first
      | (with_reducible exact ih0 _ _ _)
      | (with_reducible exact LeO.refl _)
      | (with_reducible exact LeO.none _)
      | (with_reducible refine LeO.ite ?_ ?_)
      | (with_reducible refine LeO.bind ?_ (fun _ => ?_))
      | exact ih0 _ _ _
      | exact LeO.none _
      | refine LeO.ite ?_ ?_
      | refine LeO.bind ?_ (fun _ => ?_)
theorem mancipleref14_SameClause.mono : ∀ a0 a1 k, LeO (mancipleref14_SameClause.f k a0 a1) (mancipleref14_SameClause.f (k + 1) a0 a1) := by
  intro a0 a1 k
  have ih0 := mancipleref14_SameClause.mono_l k
  unfold mancipleref14_SameClause.f
  repeat' first
      | (with_reducible exact ih0 _ _ _)
      | (with_reducible exact LeO.refl _)
      | (with_reducible exact LeO.none _)
      | (with_reducible refine LeO.ite ?_ ?_)
      | (with_reducible refine LeO.bind ?_ (fun _ => ?_))
      | exact ih0 _ _ _
      | exact LeO.none _
      | refine LeO.ite ?_ ?_
      | refine LeO.bind ?_ (fun _ => ?_)
set_option maxHeartbeats 8000000 in
set_option maxRecDepth 100000 in
theorem mancipleref14_SameClause.calls (k : Nat) (A0 : Option Addr) (c0 : Nat) (l0 : List Int) (A1 : Option Addr) (c1 : Nat) (l1 : List Int) (r : Bool) (w : World) (hr0 : Kd.C (Kd.int .i64) w A0 l0.length l0) (hc0 : l0.length ≤ c0) (hr1 : Kd.C (Kd.int .i64) w A1 l1.length l1) (hc1 : l1.length ≤ c1) (h : mancipleref14_SameClause.f k l0 l1 = some r) :
    Calls Try.prog 47 #[.slice A0 l0.length c0, .slice A1 l1.length c1] w fun e w' => e = .returned (.bool r) ∧ Drawn0 w w' := by
  have HR0 := Aside0.mk hr0
  have HC0 := Aside0.mk hc0
  clear hr0 hc0
  have HR1 := Aside0.mk hr1
  have HC1 := Aside0.mk hc1
  clear hr1 hc1
  have H : (if (l0.length : Int) = (l1.length : Int) then (mancipleref14_SameClause.l0 k l0 l1 0) else (some false)) = some r := h
  clear h
  by_cases c3 : (l0.length : Int) = (l1.length : Int)
  · rw [if_pos c3] at H
    have c3b0 : ((l0.length : Int) == (l1.length : Int)) = true := beq_iff_eq.mpr c3
    have c3b1 : ((l0.length : Int) != (l1.length : Int)) = false := bne_eq_false_iff_eq.mpr c3
    have c3b2 : (l0.length == l1.length) = true := by first | simpa using c3 | (simp at c3 ⊢; omega)
    clear c3
    have H' := Aside0.mk H
    clear H
    go_enter Try.func47, Try.ntmps47
    go_wp2
    repeat (go_quiet (fail); try go_wp2)
    go_loopg [5] k (fun kq v5 w' => ∃ (x5_1 : Int), v5 = .int .i64 x5_1 ∧ Aside0 (mancipleref14_SameClause.l0 kq l0 l1 x5_1 = some r) ∧ Aside0 (kq ≤ k) ∧ Drawn0 w w')
    case atStart => exact ⟨(0), (by first | rfl | (simp; done) | (simp [*]; done)), H', ⟨Nat.le_refl _⟩, by repeat (first | exact Drawn0.refl _ | apply Drawn0.step)⟩
    case round =>
      clear H'
      try clear c1
      try clear p2
      try clear c3
      try clear c3b0
      try clear c3b1
      try clear c3b2
      obtain ⟨x5_1, rfl, HA, HK1, ⟨m1, rfl⟩⟩ := hrel
      cases gk with
      | zero => exact absurd HA.out (by simp [mancipleref14_SameClause.l0])
      | succ k1 =>
        have H := HA.out
        clear HA
        simp only [mancipleref14_SameClause.l0] at H
        by_cases c4 : x5_1 < (l0.length : Int)
        · rw [if_pos c4] at H
          have c4b0 : decide (x5_1 < (l0.length : Int)) = true := decide_eq_true c4
          clear c4
          by_cases c5 : 0 ≤ x5_1
          · rw [if_pos c5] at H
            have c5b0 : decide (0 ≤ x5_1) = true := decide_eq_true c5
            clear c5
            by_cases c6 : x5_1 < (l1.length : Int)
            · rw [if_pos c6] at H
              have c6b0 : decide (x5_1 < (l1.length : Int)) = true := decide_eq_true c6
              clear c6
              by_cases c7 : (rd l0 x5_1) = (rd l1 x5_1)
              · rw [if_pos c7] at H
                have c7b0 : ((rd l0 x5_1) == (rd l1 x5_1)) = true := beq_iff_eq.mpr c7
                have c7b1 : ((rd l0 x5_1) != (rd l1 x5_1)) = false := bne_eq_false_iff_eq.mpr c7
                clear c7
                have H' := Aside0.mk H
                clear H
                have p243 : 0 ≤ (x5_1 : Int) := of_decide_eq_true (by first | (with_reducible assumption) | assumption)
                have q243 : x5_1 < (l0.length : Int) := of_decide_eq_true (by first | (with_reducible assumption) | assumption)
                obtain ⟨ad243, e243, hx243_0⟩ := Kd.at_int HR0.out x5_1 p243 q243
                cases e243
                replace p243 := eq_true p243
                replace q243 := eq_true q243
                have p244 : 0 ≤ (x5_1 : Int) := of_decide_eq_true (by first | (with_reducible assumption) | assumption)
                have q244 : x5_1 < (l1.length : Int) := of_decide_eq_true (by first | (with_reducible assumption) | assumption)
                obtain ⟨ad244, e244, hx244_0⟩ := Kd.at_int HR1.out x5_1 p244 q244
                cases e244
                replace p244 := eq_true p244
                replace q244 := eq_true q244
                go_wp2
                repeat (go_quiet (fail); try go_wp2)
                go_roundg k1
                case measure => have := HK1.out; omega
                case rel => exact ⟨(wrap64 (x5_1 + 1)), (by first | rfl | (simp; done) | (simp [*]; done)), H', ⟨by have := HK1.out; omega⟩, by repeat (first | exact Drawn0.refl _ | apply Drawn0.step)⟩
              · rw [if_neg c7] at H
                have c7b0 : ((rd l0 x5_1) == (rd l1 x5_1)) = false := beq_eq_false_iff_ne.mpr c7
                have c7b1 : ((rd l0 x5_1) != (rd l1 x5_1)) = true := bne_iff_ne.mpr c7
                obtain rfl := Option.some.inj H
                have p243 : 0 ≤ (x5_1 : Int) := of_decide_eq_true (by first | (with_reducible assumption) | assumption)
                have q243 : x5_1 < (l0.length : Int) := of_decide_eq_true (by first | (with_reducible assumption) | assumption)
                obtain ⟨ad243, e243, hx243_0⟩ := Kd.at_int HR0.out x5_1 p243 q243
                cases e243
                replace p243 := eq_true p243
                replace q243 := eq_true q243
                have p244 : 0 ≤ (x5_1 : Int) := of_decide_eq_true (by first | (with_reducible assumption) | assumption)
                have q244 : x5_1 < (l1.length : Int) := of_decide_eq_true (by first | (with_reducible assumption) | assumption)
                obtain ⟨ad244, e244, hx244_0⟩ := Kd.at_int HR1.out x5_1 p244 q244
                cases e244
                replace p244 := eq_true p244
                replace q244 := eq_true q244
                go_wp2
                repeat (go_quiet (fail); try go_wp2)
                go_ret
                exact ⟨by first | rfl | (simp; done) | (simp [*]; done), by repeat (first | exact Drawn0.refl _ | apply Drawn0.step)⟩
            · rw [if_neg c6] at H
              exact absurd H (by simp)
          · rw [if_neg c5] at H
            exact absurd H (by simp)
        · rw [if_neg c4] at H
          have c4b0 : decide (x5_1 < (l0.length : Int)) = false := decide_eq_false c4
          clear c4
          obtain rfl := Option.some.inj H
          go_wp2
          repeat (go_quiet (fail); try go_wp2)
          go_ret
          exact ⟨by first | rfl | (simp; done) | (simp [*]; done), by repeat (first | exact Drawn0.refl _ | apply Drawn0.step)⟩
  · rw [if_neg c3] at H
    have c3b0 : ((l0.length : Int) == (l1.length : Int)) = false := beq_eq_false_iff_ne.mpr c3
    have c3b1 : ((l0.length : Int) != (l1.length : Int)) = true := bne_iff_ne.mpr c3
    have c3b2 : (l0.length == l1.length) = false := by first | simpa using c3 | (simp at c3 ⊢; omega)
    obtain rfl := Option.some.inj H
    go_enter Try.func47, Try.ntmps47
    go_wp2
    repeat (go_quiet (fail); try go_wp2)
    go_ret
    exact ⟨by first | rfl | (simp; done) | (simp [*]; done), by repeat (first | exact Drawn0.refl _ | apply Drawn0.step)⟩

/-! ### mancipleref20_Ends: function 30 -/
def mancipleref20_Ends.f (k : Nat) (a0 : Int) (l1 : List (List Int)) (l2 : List (List Int)) (l3 : List Int) : Option (Bool) := (mancipleref20_CheckProof.f k a0 l1 l2).bind fun bt245 => (if bt245.2 = 0 then (if (l2.length : Int) > 0 then (if 0 ≤ (wrap64 ((l2.length : Int) - 1)) then (if (wrap64 ((l2.length : Int) - 1)) < (l2.length : Int) then ((mancipleref14_SameClause.f k (rd_L1 l2 (wrap64 ((l2.length : Int) - 1))) l3).bind fun t248 => (some t248)) else (none)) else (none)) else (some false)) else (some false))
theorem mancipleref20_Ends.mono : ∀ a0 a1 a2 a3 k, LeO (mancipleref20_Ends.f k a0 a1 a2 a3) (mancipleref20_Ends.f (k + 1) a0 a1 a2 a3) := by
  intro a0 a1 a2 a3 k
  unfold mancipleref20_Ends.f
  repeat' first
      | (with_reducible exact mancipleref14_SameClause.mono _ _ _)
      | (with_reducible exact mancipleref20_CheckProof.mono _ _ _ _)
      | (with_reducible exact LeO.refl _)
      | (with_reducible exact LeO.none _)
      | (with_reducible refine LeO.ite ?_ ?_)
      | (with_reducible refine LeO.bind ?_ (fun _ => ?_))
      | exact mancipleref14_SameClause.mono _ _ _
      | exact mancipleref20_CheckProof.mono _ _ _ _
      | exact LeO.none _
      | refine LeO.ite ?_ ?_
      | refine LeO.bind ?_ (fun _ => ?_)
set_option maxHeartbeats 8000000 in
set_option maxRecDepth 100000 in
theorem mancipleref20_Ends.calls (k : Nat) (a0 : Int) (A1 : Option Addr) (c1 : Nat) (l1 : List (List Int)) (A2 : Option Addr) (c2 : Nat) (l2 : List (List Int)) (A3 : Option Addr) (c3 : Nat) (l3 : List Int) (r : Bool) (w : World) (hr1 : Kd.C (Kd.slice 3 (Kd.int .i64)) w A1 l1.length l1) (hc1 : l1.length ≤ c1) (hr2 : Kd.C (Kd.slice 3 (Kd.int .i64)) w A2 l2.length l2) (hc2 : l2.length ≤ c2) (hr3 : Kd.C (Kd.int .i64) w A3 l3.length l3) (hc3 : l3.length ≤ c3) (h : mancipleref20_Ends.f k a0 l1 l2 l3 = some r) :
    Calls Try.prog 30 #[.int .i64 a0, .slice A1 l1.length c1, .slice A2 l2.length c2, .slice A3 l3.length c3] w fun e w' => e = .returned (.bool r) ∧ Below w.heap.size w w' := by
  have HR1 := Aside0.mk hr1
  have HC1 := Aside0.mk hc1
  clear hr1 hc1
  have HR2 := Aside0.mk hr2
  have HC2 := Aside0.mk hc2
  clear hr2 hc2
  have HR3 := Aside0.mk hr3
  have HC3 := Aside0.mk hc3
  clear hr3 hc3
  have HB := Aside0.mk (Below.refl w.heap.size w)
  have H : ((mancipleref20_CheckProof.f k a0 l1 l2).bind fun bt245 => (if bt245.2 = 0 then (if (l2.length : Int) > 0 then (if 0 ≤ (wrap64 ((l2.length : Int) - 1)) then (if (wrap64 ((l2.length : Int) - 1)) < (l2.length : Int) then ((mancipleref14_SameClause.f k (rd_L1 l2 (wrap64 ((l2.length : Int) - 1))) l3).bind fun t248 => (some t248)) else (none)) else (none)) else (some false)) else (some false))) = some r := h
  clear h
  replace H := Option.bind_eq_some_iff.mp H
  obtain ⟨⟨t245, t246⟩, A50, H⟩ := H
  replace H : (if t246 = 0 then (if (l2.length : Int) > 0 then (if 0 ≤ (wrap64 ((l2.length : Int) - 1)) then (if (wrap64 ((l2.length : Int) - 1)) < (l2.length : Int) then ((mancipleref14_SameClause.f k (rd_L1 l2 (wrap64 ((l2.length : Int) - 1))) l3).bind fun t248 => (some t248)) else (none)) else (none)) else (some false)) else (some false)) = some r := H
  have A5 := Aside0.mk A50
  clear A50
  by_cases c6 : t246 = 0
  · rw [if_pos c6] at H
    have c6b0 : (t246 == 0) = true := beq_iff_eq.mpr c6
    have c6b1 : (t246 != 0) = false := bne_eq_false_iff_eq.mpr c6
    clear c6
    by_cases c7 : (l2.length : Int) > 0
    · rw [if_pos c7] at H
      have c7b0 : decide (0 < (l2.length : Int)) = true := decide_eq_true c7
      have c7b1 : decide (0 < l2.length) = true := decide_eq_true (by omega)
      clear c7
      obtain ⟨ji8, hji8⟩ : ∃ j_ : Int, (wrap64 ((l2.length : Int) - 1)) = j_ := ⟨_, rfl⟩
      replace H : (if 0 ≤ (ji8) then (if (ji8) < (l2.length : Int) then ((mancipleref14_SameClause.f k (rd_L1 l2 (ji8)) l3).bind fun t248 => (some t248)) else (none)) else (none)) = some r := by first | (rw [hji8] at H; exact H) | (simp only [hji8] at H ⊢; exact H)
      (try rw [hji8] at A5)
      have hji8w : (IntKind.i64.wrap ((l2.length : Int) - 1)) = ji8 := (i64_w _).trans hji8
      by_cases c9 : 0 ≤ (ji8)
      · rw [if_pos c9] at H
        have c9b0 : decide (0 ≤ (ji8)) = true := decide_eq_true c9
        clear c9
        by_cases c10 : (ji8) < (l2.length : Int)
        · rw [if_pos c10] at H
          have c10b0 : decide ((ji8) < (l2.length : Int)) = true := decide_eq_true c10
          clear c10
          replace H := Option.bind_eq_some_iff.mp H
          obtain ⟨t248, A110, H⟩ := H
          replace H : (some t248) = some r := H
          have A11 := Aside0.mk A110
          clear A110
          obtain rfl := Option.some.inj H
          go_enter Try.func30, Try.ntmps30
          go_wp2_with (first | ((with_reducible refine gate_callee (f := 28) rfl ?_); refine goesL_ (some 15) rfl rfl Try.func28 (by kernel_rfl) rfl #[.int .i64 a0, .slice A1 l1.length c1, .slice A2 l2.length c2] rfl (by (try simp only [List.map_toArray, List.map_cons, List.map_nil]); first | done | rfl | (simp only [List.length_drop, List.length_take]; rfl)) ?_; (with_reducible refine (mancipleref20_CheckProof.calls k a0 (fun k_ => k_ < w.heap.size) _ _ l1 (fun k_ => k_ < w.heap.size) _ _ l2 t245 t246 _ ?side1 ?side2 A5.out).mono ?_); (case side1 => exact Kd.V_mk HC1.out (Kd.F_below (Kd.C_F (Kd.heap_slice 3 (Kd.heap_int .i64)) HR1.out) (by repeat (first | (with_reducible first | exact HB.out | apply below_alloc | apply pw_below_drewN | apply below_drew1) | exact HB.out)))); (case side2 => exact Kd.V_mk HC2.out (Kd.F_below (Kd.C_F (Kd.heap_slice 3 (Kd.heap_int .i64)) HR2.out) (by repeat (first | (with_reducible first | exact HB.out | apply below_alloc | apply pw_below_drewN | apply below_drew1) | exact HB.out)))); rintro e w12 ⟨rfl, hb⟩; refine ⟨_, rfl, ?_⟩; have n0_ := Aside0.mk (below_step (by repeat (first | (with_reducible first | exact HB.out | apply below_alloc | apply pw_below_drewN | apply below_drew1) | exact HB.out)) hb); clear HB; have HB := n0_; clear n0_; (try clear hb); (try clear hb2); (try clear hk); (try clear hi); have p247 : 0 ≤ ((ji8) : Int) := of_decide_eq_true (by first | (with_reducible assumption) | assumption); have q247 : (ji8) < (l2.length : Int) := of_decide_eq_true (by first | (with_reducible assumption) | assumption); obtain ⟨ad247, A247_0, c247_0, e247, hx247_0, hl247_0, hi247_0⟩ := at_L1 HR2.out (ji8) p247 q247; cases e247; replace hx247_0 := (HB.out.cell (World.block_lt_of_cell? w _ hx247_0)).trans hx247_0; have HR247_0 := Aside0.mk hi247_0; have HC247_0 := Aside0.mk hl247_0; clear hi247_0 hl247_0; replace p247 := eq_true p247; replace q247 := eq_true q247) | (go_at_call 47; (with_reducible refine (mancipleref14_SameClause.calls k _ _ (rd_L1 l2 (ji8)) _ _ l3 t248 _ ?side1 ?side2 ?side3 ?side4 A11.out).mono ?_); (case side1 => repeat (first | exact (Kd.C_below HR247_0.out HB.out) | (with_reducible refine Kd.C_alloc ?_ _) | (with_reducible refine Kd.C_drewN ?_ _) | (with_reducible refine Kd.C_drew ?_))); (case side2 => exact HC247_0.out); (case side3 => repeat (first | exact (Kd.C_below HR3.out HB.out) | (with_reducible refine Kd.C_alloc ?_ _) | (with_reducible refine Kd.C_drewN ?_ _) | (with_reducible refine Kd.C_drew ?_))); (case side4 => exact HC3.out); rintro e w' ⟨rfl, ⟨nd, rfl⟩⟩))
          go_ret
          exact ⟨by first | rfl | (simp [errW_none, errW_some] <;> rfl) | (simp only [← hji8]; first | rfl | (simp [errW_none, errW_some] <;> rfl)) | (simp [*, errW_none, errW_some] <;> rfl), by repeat (first | (with_reducible first | exact HB.out | apply below_alloc | apply pw_below_drewN | apply below_drew1) | exact HB.out)⟩
        · rw [if_neg c10] at H
          exact absurd H (by simp)
      · rw [if_neg c9] at H
        exact absurd H (by simp)
    · rw [if_neg c7] at H
      have c7b0 : decide (0 < (l2.length : Int)) = false := decide_eq_false c7
      have c7b1 : decide (0 < l2.length) = false := decide_eq_false (by omega)
      clear c7
      obtain rfl := Option.some.inj H
      go_enter Try.func30, Try.ntmps30
      go_wp2_with (first | ((with_reducible refine gate_callee (f := 28) rfl ?_); refine goesL_ (some 15) rfl rfl Try.func28 (by kernel_rfl) rfl #[.int .i64 a0, .slice A1 l1.length c1, .slice A2 l2.length c2] rfl (by (try simp only [List.map_toArray, List.map_cons, List.map_nil]); first | done | rfl | (simp only [List.length_drop, List.length_take]; rfl)) ?_; (with_reducible refine (mancipleref20_CheckProof.calls k a0 (fun k_ => k_ < w.heap.size) _ _ l1 (fun k_ => k_ < w.heap.size) _ _ l2 t245 t246 _ ?side1 ?side2 A5.out).mono ?_); (case side1 => exact Kd.V_mk HC1.out (Kd.F_below (Kd.C_F (Kd.heap_slice 3 (Kd.heap_int .i64)) HR1.out) (by repeat (first | (with_reducible first | exact HB.out | apply below_alloc | apply pw_below_drewN | apply below_drew1) | exact HB.out)))); (case side2 => exact Kd.V_mk HC2.out (Kd.F_below (Kd.C_F (Kd.heap_slice 3 (Kd.heap_int .i64)) HR2.out) (by repeat (first | (with_reducible first | exact HB.out | apply below_alloc | apply pw_below_drewN | apply below_drew1) | exact HB.out)))); rintro e w13 ⟨rfl, hb⟩; refine ⟨_, rfl, ?_⟩; have n0_ := Aside0.mk (below_step (by repeat (first | (with_reducible first | exact HB.out | apply below_alloc | apply pw_below_drewN | apply below_drew1) | exact HB.out)) hb); clear HB; have HB := n0_; clear n0_; (try clear hb); (try clear hb2); (try clear hk); (try clear hi)))
      go_ret
      exact ⟨by first | rfl | (simp [errW_none, errW_some] <;> rfl) | (simp [*, errW_none, errW_some] <;> rfl), by repeat (first | (with_reducible first | exact HB.out | apply below_alloc | apply pw_below_drewN | apply below_drew1) | exact HB.out)⟩
  · rw [if_neg c6] at H
    have c6b0 : (t246 == 0) = false := beq_eq_false_iff_ne.mpr c6
    have c6b1 : (t246 != 0) = true := bne_iff_ne.mpr c6
    obtain rfl := Option.some.inj H
    go_enter Try.func30, Try.ntmps30
    go_wp2_with (first | ((with_reducible refine gate_callee (f := 28) rfl ?_); refine goesL_ (some 15) rfl rfl Try.func28 (by kernel_rfl) rfl #[.int .i64 a0, .slice A1 l1.length c1, .slice A2 l2.length c2] rfl (by (try simp only [List.map_toArray, List.map_cons, List.map_nil]); first | done | rfl | (simp only [List.length_drop, List.length_take]; rfl)) ?_; (with_reducible refine (mancipleref20_CheckProof.calls k a0 (fun k_ => k_ < w.heap.size) _ _ l1 (fun k_ => k_ < w.heap.size) _ _ l2 t245 t246 _ ?side1 ?side2 A5.out).mono ?_); (case side1 => exact Kd.V_mk HC1.out (Kd.F_below (Kd.C_F (Kd.heap_slice 3 (Kd.heap_int .i64)) HR1.out) (by repeat (first | (with_reducible first | exact HB.out | apply below_alloc | apply pw_below_drewN | apply below_drew1) | exact HB.out)))); (case side2 => exact Kd.V_mk HC2.out (Kd.F_below (Kd.C_F (Kd.heap_slice 3 (Kd.heap_int .i64)) HR2.out) (by repeat (first | (with_reducible first | exact HB.out | apply below_alloc | apply pw_below_drewN | apply below_drew1) | exact HB.out)))); rintro e w14 ⟨rfl, hb⟩; refine ⟨_, rfl, ?_⟩; have n0_ := Aside0.mk (below_step (by repeat (first | (with_reducible first | exact HB.out | apply below_alloc | apply pw_below_drewN | apply below_drew1) | exact HB.out)) hb); clear HB; have HB := n0_; clear n0_; (try clear hb); (try clear hb2); (try clear hk); (try clear hi)))
    go_ret
    exact ⟨by first | rfl | (simp [errW_none, errW_some] <;> rfl) | (simp [*, errW_none, errW_some] <;> rfl), by repeat (first | (with_reducible first | exact HB.out | apply below_alloc | apply pw_below_drewN | apply below_drew1) | exact HB.out)⟩

end Go.Proofs.Ytjbljblhbmfbpaa.PRup
