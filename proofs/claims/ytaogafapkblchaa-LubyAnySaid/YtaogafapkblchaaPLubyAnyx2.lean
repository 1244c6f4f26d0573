/- Printed by this session's program pp.py: the functions that the law uses as plain functions, and that each call comes to just what its plain function tells; in the last text the row itself. No conditions but those that stand in each statement. -/
import Derived.Test.YtaogafapkblchaaPLubyAnyx0
import Derived.Test.YtaogafapkblchaaPLubyAnyx1
namespace Go.Proofs.Ytaogafapkblchaa.PLubyAny
open Go.RowKit Go.Proofs.YtaogafapkblchaaW.PrintWords Go.Proofs.YtaogafapkblchaaW.PrintLast Go.Proofs.YtaogafapkblchaaW.PrintMore
attribute [local go_sem] max2_int min2_int max_two min_two max_three min_three max_four min_four   -- for this text's walks alone
set_option linter.unusedVariables false
set_option linter.unusedSimpArgs false

/-! ### manciplelaw20_LubyAny: function 3 -/
mutual
def manciplelaw20_LubyAny.j0 : Nat → Int → Int → Bool → Option (Bool)
  | 0, _, _, _ => none
  | k + 1, x2, x3, x62 => if x62 = true then (some false) else (if x2 ≥ 0 then (if x2 ≤ 1048576 then (if x2 > 5000 then (if x3 ≥ 1 then (manciplelaw20_LubyAny.j1 k x2 x3 (decide (x3 < 16))) else (manciplelaw20_LubyAny.j1 k x2 x3 false)) else (manciplelaw20_LubyAny.j1 k x2 x3 false)) else (manciplelaw20_LubyAny.j1 k x2 x3 false)) else (manciplelaw20_LubyAny.j1 k x2 x3 false))
def manciplelaw20_LubyAny.j1 : Nat → Int → Int → Bool → Option (Bool)
  | 0, _, _, _ => none
  | k + 1, x2, x3, x80 => if x80 = true then (some true) else ((luby_Due.f x2 x3).bind fun bt129 => ((mancipleref20_Due.f k x2 x3).bind fun bt131 => (if bt129.1 = bt131.1 then (some (bt129.2 == bt131.2)) else (some false))))
end
def manciplelaw20_LubyAny.f (k : Nat) (a0 : Int) (a1 : Int) (a2 : Int) (a3 : Int) : Option (Bool) := (manciplelaw20_known.f k).bind fun t120 => (if t120 = true then ((luby_At.f a0).bind fun bt121 => ((mancipleref20_Luby.f a0).bind fun bt123 => ((luby_Sum.f (wrap64 (a1))).bind fun bt125 => ((mancipleref20_LubySum.f k (wrap64 (a1))).bind fun bt127 => (if bt121.1 = bt123.1 then (if bt121.2 = bt123.2 then (if bt125.1 = bt127.1 then (manciplelaw20_LubyAny.j0 k a2 a3 (bt125.2 != bt127.2)) else (manciplelaw20_LubyAny.j0 k a2 a3 true)) else (manciplelaw20_LubyAny.j0 k a2 a3 true)) else (manciplelaw20_LubyAny.j0 k a2 a3 true)))))) else (some false))
theorem manciplelaw20_LubyAny.mono_l : ∀ k, (∀ y0 y1 y2, LeO (manciplelaw20_LubyAny.j0 k y0 y1 y2) (manciplelaw20_LubyAny.j0 (k + 1) y0 y1 y2)) ∧ (∀ y0 y1 y2, LeO (manciplelaw20_LubyAny.j1 k y0 y1 y2) (manciplelaw20_LubyAny.j1 (k + 1) y0 y1 y2))
  | 0 => ⟨fun _ _ _ r h => by simp [manciplelaw20_LubyAny.j0] at h, fun _ _ _ r h => by simp [manciplelaw20_LubyAny.j1] at h⟩
  | k + 1 => by
    obtain ⟨ih0, ih1⟩ := manciplelaw20_LubyAny.mono_l k
    refine ⟨?_, ?_⟩
    · intro y0 y1 y2
      unfold manciplelaw20_LubyAny.j0
      repeat' first
      | (with_reducible exact ih0 _ _ _)
      | (with_reducible exact ih1 _ _ _)
      | (with_reducible exact manciplelaw20_known.mono _)
      | (with_reducible exact mancipleref20_Due.mono _ _ _)
      | (with_reducible exact mancipleref20_LubySum.mono _ _)
      | (with_reducible exact LeO.refl _)
      | (with_reducible exact LeO.none _)
      | (with_reducible refine LeO.ite ?_ ?_)
      | (with_reducible refine LeO.bind ?_ (fun _ => ?_))
      | exact ih0 _ _ _
      | exact ih1 _ _ _
      | exact manciplelaw20_known.mono _
      | exact mancipleref20_Due.mono _ _ _
      | exact mancipleref20_LubySum.mono _ _
      | exact LeO.none _
      | refine LeO.ite ?_ ?_
      | refine LeO.bind ?_ (fun _ => ?_)
    · intro y0 y1 y2
      unfold manciplelaw20_LubyAny.j1
      repeat' first
      | (with_reducible exact ih0 _ _ _)
      | (with_reducible exact ih1 _ _ _)
      | (with_reducible exact manciplelaw20_known.mono _)
      | (with_reducible exact mancipleref20_Due.mono _ _ _)
      | (with_reducible exact mancipleref20_LubySum.mono _ _)
      | (with_reducible exact LeO.refl _)
      | (with_reducible exact LeO.none _)
      | (with_reducible refine LeO.ite ?_ ?_)
      | (with_reducible refine LeO.bind ?_ (fun _ => ?_))
      | exact ih0 _ _ _
      | exact ih1 _ _ _
      | exact manciplelaw20_known.mono _
      | exact mancipleref20_Due.mono _ _ _
      | exact mancipleref20_LubySum.mono _ _
      | exact LeO.none _
      | refine LeO.ite ?_ ?_
      | refine LeO.bind ?_ (fun _ => ?_)
theorem manciplelaw20_LubyAny.mono : ∀ a0 a1 a2 a3 k, LeO (manciplelaw20_LubyAny.f k a0 a1 a2 a3) (manciplelaw20_LubyAny.f (k + 1) a0 a1 a2 a3) := by
  intro a0 a1 a2 a3 k
  obtain ⟨ih0, ih1⟩ := manciplelaw20_LubyAny.mono_l k
  unfold manciplelaw20_LubyAny.f
  repeat' first
      | (with_reducible exact ih0 _ _ _)
      | (with_reducible exact ih1 _ _ _)
      | (with_reducible exact manciplelaw20_known.mono _)
      | (with_reducible exact mancipleref20_Due.mono _ _ _)
      | (with_reducible exact mancipleref20_LubySum.mono _ _)
      | (with_reducible exact LeO.refl _)
      | (with_reducible exact LeO.none _)
      | (with_reducible refine LeO.ite ?_ ?_)
      | (with_reducible refine LeO.bind ?_ (fun _ => ?_))
      | exact ih0 _ _ _
      | exact ih1 _ _ _
      | exact manciplelaw20_known.mono _
      | exact mancipleref20_Due.mono _ _ _
      | exact mancipleref20_LubySum.mono _ _
      | exact LeO.none _
      | refine LeO.ite ?_ ?_
      | refine LeO.bind ?_ (fun _ => ?_)
set_option maxHeartbeats 8000000 in
set_option maxRecDepth 100000 in
theorem manciplelaw20_LubyAny.calls (k : Nat) (a0 : Int) (a1 : Int) (a2 : Int) (a3 : Int) (r : Bool) (w : World) (h : manciplelaw20_LubyAny.f k a0 a1 a2 a3 = some r) :
    Calls Try.prog 3 #[.int .i64 a0, .int .u16 a1, .int .i64 a2, .int .i64 a3] w fun e w' => e = .returned (.bool r) ∧ Below w.heap.size w w' := by
  have HB := Aside0.mk (Below.refl w.heap.size w)
  have H : ((manciplelaw20_known.f k).bind fun t120 => (if t120 = true then ((luby_At.f a0).bind fun bt121 => ((mancipleref20_Luby.f a0).bind fun bt123 => ((luby_Sum.f (wrap64 (a1))).bind fun bt125 => ((mancipleref20_LubySum.f k (wrap64 (a1))).bind fun bt127 => (if bt121.1 = bt123.1 then (if bt121.2 = bt123.2 then (if bt125.1 = bt127.1 then (manciplelaw20_LubyAny.j0 k a2 a3 (bt125.2 != bt127.2)) else (manciplelaw20_LubyAny.j0 k a2 a3 true)) else (manciplelaw20_LubyAny.j0 k a2 a3 true)) else (manciplelaw20_LubyAny.j0 k a2 a3 true)))))) else (some false))) = some r := h
  clear h
  replace H := Option.bind_eq_some_iff.mp H
  obtain ⟨t120, A50, H⟩ := H
  replace H : (if t120 = true then ((luby_At.f a0).bind fun bt121 => ((mancipleref20_Luby.f a0).bind fun bt123 => ((luby_Sum.f (wrap64 (a1))).bind fun bt125 => ((mancipleref20_LubySum.f k (wrap64 (a1))).bind fun bt127 => (if bt121.1 = bt123.1 then (if bt121.2 = bt123.2 then (if bt125.1 = bt127.1 then (manciplelaw20_LubyAny.j0 k a2 a3 (bt125.2 != bt127.2)) else (manciplelaw20_LubyAny.j0 k a2 a3 true)) else (manciplelaw20_LubyAny.j0 k a2 a3 true)) else (manciplelaw20_LubyAny.j0 k a2 a3 true)))))) else (some false)) = some r := H
  have A5 := Aside0.mk A50
  clear A50
  by_cases c6 : t120 = true
  · subst c6
    have H1 : ((luby_At.f a0).bind fun bt121 => ((mancipleref20_Luby.f a0).bind fun bt123 => ((luby_Sum.f (wrap64 (a1))).bind fun bt125 => ((mancipleref20_LubySum.f k (wrap64 (a1))).bind fun bt127 => (if bt121.1 = bt123.1 then (if bt121.2 = bt123.2 then (if bt125.1 = bt127.1 then (manciplelaw20_LubyAny.j0 k a2 a3 (bt125.2 != bt127.2)) else (manciplelaw20_LubyAny.j0 k a2 a3 true)) else (manciplelaw20_LubyAny.j0 k a2 a3 true)) else (manciplelaw20_LubyAny.j0 k a2 a3 true)))))) = some r := by rw [if_pos rfl] at H; exact H
    clear H
    have H := H1
    clear H1
    replace H := Option.bind_eq_some_iff.mp H
    obtain ⟨⟨t121, t122⟩, A70, H⟩ := H
    replace H : ((mancipleref20_Luby.f a0).bind fun bt123 => ((luby_Sum.f (wrap64 (a1))).bind fun bt125 => ((mancipleref20_LubySum.f k (wrap64 (a1))).bind fun bt127 => (if t121 = bt123.1 then (if t122 = bt123.2 then (if bt125.1 = bt127.1 then (manciplelaw20_LubyAny.j0 k a2 a3 (bt125.2 != bt127.2)) else (manciplelaw20_LubyAny.j0 k a2 a3 true)) else (manciplelaw20_LubyAny.j0 k a2 a3 true)) else (manciplelaw20_LubyAny.j0 k a2 a3 true))))) = some r := H
    have A7 := Aside0.mk A70
    clear A70
    replace H := Option.bind_eq_some_iff.mp H
    obtain ⟨⟨t123, t124⟩, A80, H⟩ := H
    replace H : ((luby_Sum.f (wrap64 (a1))).bind fun bt125 => ((mancipleref20_LubySum.f k (wrap64 (a1))).bind fun bt127 => (if t121 = t123 then (if t122 = t124 then (if bt125.1 = bt127.1 then (manciplelaw20_LubyAny.j0 k a2 a3 (bt125.2 != bt127.2)) else (manciplelaw20_LubyAny.j0 k a2 a3 true)) else (manciplelaw20_LubyAny.j0 k a2 a3 true)) else (manciplelaw20_LubyAny.j0 k a2 a3 true)))) = some r := H
    have A8 := Aside0.mk A80
    clear A80
    replace H := Option.bind_eq_some_iff.mp H
    obtain ⟨⟨t125, t126⟩, A90, H⟩ := H
    replace H : ((mancipleref20_LubySum.f k (wrap64 (a1))).bind fun bt127 => (if t121 = t123 then (if t122 = t124 then (if t125 = bt127.1 then (manciplelaw20_LubyAny.j0 k a2 a3 (t126 != bt127.2)) else (manciplelaw20_LubyAny.j0 k a2 a3 true)) else (manciplelaw20_LubyAny.j0 k a2 a3 true)) else (manciplelaw20_LubyAny.j0 k a2 a3 true))) = some r := H
    have A9 := Aside0.mk A90
    clear A90
    replace H := Option.bind_eq_some_iff.mp H
    obtain ⟨⟨t127, t128⟩, A100, H⟩ := H
    replace H : (if t121 = t123 then (if t122 = t124 then (if t125 = t127 then (manciplelaw20_LubyAny.j0 k a2 a3 (t126 != t128)) else (manciplelaw20_LubyAny.j0 k a2 a3 true)) else (manciplelaw20_LubyAny.j0 k a2 a3 true)) else (manciplelaw20_LubyAny.j0 k a2 a3 true)) = some r := H
    have A10 := Aside0.mk A100
    clear A100
    have HC11 := Aside0.mk H
    clear H
    go_enter Try.func3, Try.ntmps3
    go_upto_region 7 with (first | ((with_reducible refine gate_callee (f := 7) rfl ?_); refine goesL_ (some 21) rfl rfl Try.func7 (by kernel_rfl) rfl #[] rfl (by (try simp only [List.map_toArray, List.map_cons, List.map_nil]); first | done | rfl | (simp only [List.length_drop, List.length_take]; rfl)) ?_; (with_reducible refine (manciplelaw20_known.calls k  true _ A5.out).mono ?_); rintro e w12 ⟨rfl, hb⟩; refine ⟨_, rfl, ?_⟩; have n0_ := Aside0.mk (below_step (by repeat (first | (with_reducible first | exact HB.out | apply below_alloc | apply pw_below_drewN | apply below_drew1) | exact HB.out)) hb); clear HB; have HB := n0_; clear n0_; (try clear hb); (try clear hb2); (try clear hk); (try clear hi)) | ((with_reducible refine gate_callee (f := 8) rfl ?_); refine goesL_ (some 25) rfl rfl Try.func8 (by kernel_rfl) rfl #[.int .i64 a0] rfl (by (try simp only [List.map_toArray, List.map_cons, List.map_nil]); first | done | rfl | (simp only [List.length_drop, List.length_take]; rfl)) ?_; (with_reducible refine (luby_At.calls a0 t121 t122 _ A7.out).mono ?_); rintro e w13 ⟨rfl, hb⟩; refine ⟨_, rfl, ?_⟩; have n0_ := Aside0.mk (below_step (by repeat (first | (with_reducible first | exact HB.out | apply below_alloc | apply pw_below_drewN | apply below_drew1) | exact HB.out)) hb); clear HB; have HB := n0_; clear n0_; (try clear hb); (try clear hb2); (try clear hk); (try clear hi)) | ((with_reducible refine gate_callee (f := 9) rfl ?_); refine goesL_ (some 30) rfl rfl Try.func9 (by kernel_rfl) rfl #[.int .i64 a0] rfl (by (try simp only [List.map_toArray, List.map_cons, List.map_nil]); first | done | rfl | (simp only [List.length_drop, List.length_take]; rfl)) ?_; (with_reducible refine (mancipleref20_Luby.calls a0 t123 t124 _ A8.out).mono ?_); rintro e w' ⟨rfl, ⟨nd, rfl⟩⟩; refine ⟨_, rfl, ?_⟩) | ((with_reducible refine gate_callee (f := 10) rfl ?_); refine goesL_ (some 36) rfl rfl Try.func10 (by kernel_rfl) rfl #[.int .i64 (wrap64 (a1))] rfl (by (try simp only [List.map_toArray, List.map_cons, List.map_nil]); first | done | rfl | (simp only [List.length_drop, List.length_take]; rfl)) ?_; (with_reducible refine (luby_Sum.calls (wrap64 (a1)) t125 t126 _ A9.out).mono ?_); rintro e w14 ⟨rfl, hb⟩; refine ⟨_, rfl, ?_⟩; have n0_ := Aside0.mk (below_step (by repeat (first | (with_reducible first | exact HB.out | apply below_alloc | apply pw_below_drewN | apply below_drew1) | exact HB.out)) hb); clear HB; have HB := n0_; clear n0_; (try clear hb); (try clear hb2); (try clear hk); (try clear hi)) | ((with_reducible refine gate_callee (f := 11) rfl ?_); refine goesL_ (some 42) rfl rfl Try.func11 (by kernel_rfl) rfl #[.int .i64 (wrap64 (a1))] rfl (by (try simp only [List.map_toArray, List.map_cons, List.map_nil]); first | done | rfl | (simp only [List.length_drop, List.length_take]; rfl)) ?_; (with_reducible refine (mancipleref20_LubySum.calls k (wrap64 (a1)) t127 t128 _ A10.out).mono ?_); rintro e w' ⟨rfl, ⟨nd, rfl⟩⟩; refine ⟨_, rfl, ?_⟩))
    (try simp only [Act.put, List.setIfInBounds_toArray, List.set_cons_zero, List.set_cons_succ])
    go_cut [62] (fun v62 wc => ∃ (kq : Nat) (x62_10 : Bool), v62 = .bool x62_10 ∧ Aside0 (manciplelaw20_LubyAny.j0 kq a2 a3 x62_10 = some r) ∧ Aside0 (kq ≤ k) ∧ Aside0 (Below w.heap.size w wc))
    case first =>
      have H := HC11.out
      clear HC11
      by_cases c15 : t121 = t123
      · rw [if_pos c15] at H
        have c15b0 : (t121 == t123) = true := beq_iff_eq.mpr c15
        have c15b1 : (t121 != t123) = false := bne_eq_false_iff_eq.mpr c15
        clear c15
        (first | rw [c15b0] | (simp only [i64_w, i32_w]; rw [c15b0]) | skip)
        by_cases c16 : t122 = t124
        · rw [if_pos c16] at H
          have c16b0 : (t122 == t124) = true := beq_iff_eq.mpr c16
          have c16b1 : (t122 != t124) = false := bne_eq_false_iff_eq.mpr c16
          clear c16
          by_cases c17 : t125 = t127
          · rw [if_pos c17] at H
            have c17b0 : (t125 == t127) = true := beq_iff_eq.mpr c17
            have c17b1 : (t125 != t127) = false := bne_eq_false_iff_eq.mpr c17
            clear c17
            have H' := Aside0.mk H
            clear H
            go_wp2
            go_meet
            case rel => exact ⟨_, ((t126 != t128)), (by first | rfl | (simp; done) | (simp [*]; done)), H', ⟨by first | omega | exact Nat.le_refl _⟩, ⟨by repeat (first | (with_reducible first | exact HB.out | apply below_alloc | apply pw_below_drewN | apply below_drew1) | exact HB.out)⟩⟩
          · rw [if_neg c17] at H
            have c17b0 : (t125 == t127) = false := beq_eq_false_iff_ne.mpr c17
            have c17b1 : (t125 != t127) = true := bne_iff_ne.mpr c17
            have H' := Aside0.mk H
            clear H
            go_wp2
            go_meet
            case rel => exact ⟨_, (true), (by first | rfl | (simp; done) | (simp [*]; done)), H', ⟨by first | omega | exact Nat.le_refl _⟩, ⟨by repeat (first | (with_reducible first | exact HB.out | apply below_alloc | apply pw_below_drewN | apply below_drew1) | exact HB.out)⟩⟩
        · rw [if_neg c16] at H
          have c16b0 : (t122 == t124) = false := beq_eq_false_iff_ne.mpr c16
          have c16b1 : (t122 != t124) = true := bne_iff_ne.mpr c16
          have H' := Aside0.mk H
          clear H
          go_wp2
          go_meet
          case rel => exact ⟨_, (true), (by first | rfl | (simp; done) | (simp [*]; done)), H', ⟨by first | omega | exact Nat.le_refl _⟩, ⟨by repeat (first | (with_reducible first | exact HB.out | apply below_alloc | apply pw_below_drewN | apply below_drew1) | exact HB.out)⟩⟩
      · rw [if_neg c15] at H
        have c15b0 : (t121 == t123) = false := beq_eq_false_iff_ne.mpr c15
        have c15b1 : (t121 != t123) = true := bne_iff_ne.mpr c15
        (first | rw [c15b0] | (simp only [i64_w, i32_w]; rw [c15b0]) | skip)
        have H' := Aside0.mk H
        clear H
        go_wp2
        go_meet
        case rel => exact ⟨_, (true), (by first | rfl | (simp; done) | (simp [*]; done)), H', ⟨by first | omega | exact Nat.le_refl _⟩, ⟨by repeat (first | (with_reducible first | exact HB.out | apply below_alloc | apply pw_below_drewN | apply below_drew1) | exact HB.out)⟩⟩
    case rest =>
      clear HC11
      try clear c1
      try clear p2
      try clear c3
      try clear c6
      try clear p6
      try clear c7
      try clear c8
      try clear c9
      try clear c10
      try clear c11
      try clear c15
      try clear c15b0
      try clear c15b1
      try clear c16
      try clear c16b0
      try clear c16b1
      try clear c17
      try clear c17b0
      try clear c17b1
      obtain ⟨kq, x62_10, rfl, HA, HJ10, HB⟩ := hcut
      cases kq with
      | zero => exact absurd HA.out (by simp [manciplelaw20_LubyAny.j0])
      | succ kj10 =>
        have H := HA.out
        clear HA
        simp only [manciplelaw20_LubyAny.j0] at H
        by_cases c18 : x62_10 = true
        · subst c18
          have H1 : (some false) = some r := by rw [if_pos rfl] at H; exact H
          clear H
          have H := H1
          clear H1
          obtain rfl := Option.some.inj H
          go_wp2
          go_ret
          exact ⟨by first | rfl | (simp [errW_none, errW_some] <;> rfl) | (simp [*, errW_none, errW_some] <;> rfl), by repeat (first | (with_reducible first | exact HB.out | apply below_alloc | apply pw_below_drewN | apply below_drew1) | exact HB.out)⟩
        · replace c18 := Bool.eq_false_iff.mpr c18
          subst c18
          have H1 : (if a2 ≥ 0 then (if a2 ≤ 1048576 then (if a2 > 5000 then (if a3 ≥ 1 then (manciplelaw20_LubyAny.j1 kj10 a2 a3 (decide (a3 < 16))) else (manciplelaw20_LubyAny.j1 kj10 a2 a3 false)) else (manciplelaw20_LubyAny.j1 kj10 a2 a3 false)) else (manciplelaw20_LubyAny.j1 kj10 a2 a3 false)) else (manciplelaw20_LubyAny.j1 kj10 a2 a3 false)) = some r := by rw [if_neg (show ¬ (false = true) by decide)] at H; exact H
          clear H
          have H := H1
          clear H1
          have HC19 := Aside0.mk H
          clear H
          go_upto_region 9 with (fail)
          go_cut [80] (fun v80 wc => ∃ (kq : Nat) (x80_18 : Bool), v80 = .bool x80_18 ∧ Aside0 (manciplelaw20_LubyAny.j1 kq a2 a3 x80_18 = some r) ∧ Aside0 (kq ≤ kj10) ∧ Aside0 (Below w.heap.size w wc))
          case first =>
            have H := HC19.out
            clear HC19
            by_cases c20 : a2 ≥ 0
            · rw [if_pos c20] at H
              have c20b0 : decide (0 ≤ a2) = true := decide_eq_true c20
              clear c20
              (first | rw [c20b0] | (simp only [i64_w, i32_w]; rw [c20b0]) | skip)
              by_cases c21 : a2 ≤ 1048576
              · rw [if_pos c21] at H
                have c21b0 : decide (a2 ≤ 1048576) = true := decide_eq_true c21
                clear c21
                by_cases c22 : a2 > 5000
                · rw [if_pos c22] at H
                  have c22b0 : decide (5000 < a2) = true := decide_eq_true c22
                  clear c22
                  by_cases c23 : a3 ≥ 1
                  · rw [if_pos c23] at H
                    have c23b0 : decide (1 ≤ a3) = true := decide_eq_true c23
                    clear c23
                    have H' := Aside0.mk H
                    clear H
                    go_wp2
                    go_meet
                    case rel => exact ⟨_, (decide (a3 < 16)), (by first | rfl | (simp; done) | (simp [*]; done)), H', ⟨by have := HJ10.out; first | omega | exact Nat.le_refl _⟩, ⟨by repeat (first | (with_reducible first | exact HB.out | apply below_alloc | apply pw_below_drewN | apply below_drew1) | exact HB.out)⟩⟩
                  · rw [if_neg c23] at H
                    have c23b0 : decide (1 ≤ a3) = false := decide_eq_false c23
                    clear c23
                    have H' := Aside0.mk H
                    clear H
                    go_wp2
                    go_meet
                    case rel => exact ⟨_, (false), (by first | rfl | (simp; done) | (simp [*]; done)), H', ⟨by have := HJ10.out; first | omega | exact Nat.le_refl _⟩, ⟨by repeat (first | (with_reducible first | exact HB.out | apply below_alloc | apply pw_below_drewN | apply below_drew1) | exact HB.out)⟩⟩
                · rw [if_neg c22] at H
                  have c22b0 : decide (5000 < a2) = false := decide_eq_false c22
                  clear c22
                  have H' := Aside0.mk H
                  clear H
                  go_wp2
                  go_meet
                  case rel => exact ⟨_, (false), (by first | rfl | (simp; done) | (simp [*]; done)), H', ⟨by have := HJ10.out; first | omega | exact Nat.le_refl _⟩, ⟨by repeat (first | (with_reducible first | exact HB.out | apply below_alloc | apply pw_below_drewN | apply below_drew1) | exact HB.out)⟩⟩
              · rw [if_neg c21] at H
                have c21b0 : decide (a2 ≤ 1048576) = false := decide_eq_false c21
                clear c21
                have H' := Aside0.mk H
                clear H
                go_wp2
                go_meet
                case rel => exact ⟨_, (false), (by first | rfl | (simp; done) | (simp [*]; done)), H', ⟨by have := HJ10.out; first | omega | exact Nat.le_refl _⟩, ⟨by repeat (first | (with_reducible first | exact HB.out | apply below_alloc | apply pw_below_drewN | apply below_drew1) | exact HB.out)⟩⟩
            · rw [if_neg c20] at H
              have c20b0 : decide (0 ≤ a2) = false := decide_eq_false c20
              clear c20
              (first | rw [c20b0] | (simp only [i64_w, i32_w]; rw [c20b0]) | skip)
              have H' := Aside0.mk H
              clear H
              go_wp2
              go_meet
              case rel => exact ⟨_, (false), (by first | rfl | (simp; done) | (simp [*]; done)), H', ⟨by have := HJ10.out; first | omega | exact Nat.le_refl _⟩, ⟨by repeat (first | (with_reducible first | exact HB.out | apply below_alloc | apply pw_below_drewN | apply below_drew1) | exact HB.out)⟩⟩
          case rest =>
            clear HC19
            try clear c1
            try clear c2
            try clear p2
            try clear c3
            try clear c6
            try clear p6
            try clear c7
            try clear c8
            try clear c9
            try clear c10
            try clear c11
            try clear c15
            try clear c15b0
            try clear c15b1
            try clear c16
            try clear c16b0
            try clear c16b1
            try clear c17
            try clear c17b0
            try clear c17b1
            try clear c18
            try clear c20
            try clear c20b0
            try clear c21
            try clear c21b0
            try clear c22
            try clear c22b0
            try clear c23
            try clear c23b0
            try clear p2
            try clear p6
            obtain ⟨kq, x80_18, rfl, HA, HJ18, HB⟩ := hcut
            cases kq with
            | zero => exact absurd HA.out (by simp [manciplelaw20_LubyAny.j1])
            | succ kj18 =>
              have H := HA.out
              clear HA
              simp only [manciplelaw20_LubyAny.j1] at H
              by_cases c24 : x80_18 = true
              · subst c24
                have H1 : (some true) = some r := by rw [if_pos rfl] at H; exact H
                clear H
                have H := H1
                clear H1
                obtain rfl := Option.some.inj H
                go_wp2
                go_ret
                exact ⟨by first | rfl | (simp [errW_none, errW_some] <;> rfl) | (simp [*, errW_none, errW_some] <;> rfl), by repeat (first | (with_reducible first | exact HB.out | apply below_alloc | apply pw_below_drewN | apply below_drew1) | exact HB.out)⟩
              · replace c24 := Bool.eq_false_iff.mpr c24
                subst c24
                have H1 : ((luby_Due.f a2 a3).bind fun bt129 => ((mancipleref20_Due.f kj18 a2 a3).bind fun bt131 => (if bt129.1 = bt131.1 then (some (bt129.2 == bt131.2)) else (some false)))) = some r := by rw [if_neg (show ¬ (false = true) by decide)] at H; exact H
                clear H
                have H := H1
                clear H1
                replace H := Option.bind_eq_some_iff.mp H
                obtain ⟨⟨t129, t130⟩, A250, H⟩ := H
                replace H : ((mancipleref20_Due.f kj18 a2 a3).bind fun bt131 => (if t129 = bt131.1 then (some (t130 == bt131.2)) else (some false))) = some r := H
                have A25 := Aside0.mk A250
                clear A250
                replace H := Option.bind_eq_some_iff.mp H
                obtain ⟨⟨t131, t132⟩, A260, H⟩ := H
                replace H : (if t129 = t131 then (some (t130 == t132)) else (some false)) = some r := H
                have A26 := Aside0.mk A260
                clear A260
                by_cases c27 : t129 = t131
                · rw [if_pos c27] at H
                  have c27b0 : (t129 == t131) = true := beq_iff_eq.mpr c27
                  have c27b1 : (t129 != t131) = false := bne_eq_false_iff_eq.mpr c27
                  clear c27
                  obtain rfl := Option.some.inj H
                  go_wp2_with (first | ((with_reducible refine gate_callee (f := 12) rfl ?_); refine goesL_ (some 84) rfl rfl Try.func12 (by kernel_rfl) rfl #[.int .i64 a2, .int .i64 a3] rfl (by (try simp only [List.map_toArray, List.map_cons, List.map_nil]); first | done | rfl | (simp only [List.length_drop, List.length_take]; rfl)) ?_; (with_reducible refine (luby_Due.calls a2 a3 t129 t130 _ A25.out).mono ?_); rintro e w28 ⟨rfl, hb⟩; refine ⟨_, rfl, ?_⟩; have n0_ := Aside0.mk (below_step (by repeat (first | (with_reducible first | exact HB.out | apply below_alloc | apply pw_below_drewN | apply below_drew1) | exact HB.out)) hb); clear HB; have HB := n0_; clear n0_; (try clear hb); (try clear hb2); (try clear hk); (try clear hi)) | ((with_reducible refine gate_callee (f := 13) rfl ?_); refine goesL_ (some 90) rfl rfl Try.func13 (by kernel_rfl) rfl #[.int .i64 a2, .int .i64 a3] rfl (by (try simp only [List.map_toArray, List.map_cons, List.map_nil]); first | done | rfl | (simp only [List.length_drop, List.length_take]; rfl)) ?_; (with_reducible refine (mancipleref20_Due.calls kj18 a2 a3 t131 t132 _ A26.out).mono ?_); rintro e w' ⟨rfl, ⟨nd, rfl⟩⟩; refine ⟨_, rfl, ?_⟩))
                  go_ret
                  exact ⟨by first | rfl | (simp [errW_none, errW_some] <;> rfl) | (simp [*, errW_none, errW_some] <;> rfl), by repeat (first | (with_reducible first | exact HB.out | apply below_alloc | apply pw_below_drewN | apply below_drew1) | exact HB.out)⟩
                · rw [if_neg c27] at H
                  have c27b0 : (t129 == t131) = false := beq_eq_false_iff_ne.mpr c27
                  have c27b1 : (t129 != t131) = true := bne_iff_ne.mpr c27
                  obtain rfl := Option.some.inj H
                  go_wp2_with (first | ((with_reducible refine gate_callee (f := 12) rfl ?_); refine goesL_ (some 84) rfl rfl Try.func12 (by kernel_rfl) rfl #[.int .i64 a2, .int .i64 a3] rfl (by (try simp only [List.map_toArray, List.map_cons, List.map_nil]); first | done | rfl | (simp only [List.length_drop, List.length_take]; rfl)) ?_; (with_reducible refine (luby_Due.calls a2 a3 t129 t130 _ A25.out).mono ?_); rintro e w29 ⟨rfl, hb⟩; refine ⟨_, rfl, ?_⟩; have n0_ := Aside0.mk (below_step (by repeat (first | (with_reducible first | exact HB.out | apply below_alloc | apply pw_below_drewN | apply below_drew1) | exact HB.out)) hb); clear HB; have HB := n0_; clear n0_; (try clear hb); (try clear hb2); (try clear hk); (try clear hi)) | ((with_reducible refine gate_callee (f := 13) rfl ?_); refine goesL_ (some 90) rfl rfl Try.func13 (by kernel_rfl) rfl #[.int .i64 a2, .int .i64 a3] rfl (by (try simp only [List.map_toArray, List.map_cons, List.map_nil]); first | done | rfl | (simp only [List.length_drop, List.length_take]; rfl)) ?_; (with_reducible refine (mancipleref20_Due.calls kj18 a2 a3 t131 t132 _ A26.out).mono ?_); rintro e w' ⟨rfl, ⟨nd, rfl⟩⟩; refine ⟨_, rfl, ?_⟩))
                  go_ret
                  exact ⟨by first | rfl | (simp [errW_none, errW_some] <;> rfl) | (simp [*, errW_none, errW_some] <;> rfl), by repeat (first | (with_reducible first | exact HB.out | apply below_alloc | apply pw_below_drewN | apply below_drew1) | exact HB.out)⟩
  · replace c6 := Bool.eq_false_iff.mpr c6
    subst c6
    have H1 : (some false) = some r := by rw [if_neg (show ¬ (false = true) by decide)] at H; exact H
    clear H
    have H := H1
    clear H1
    obtain rfl := Option.some.inj H
    go_enter Try.func3, Try.ntmps3
    go_wp2_with (first | ((with_reducible refine gate_callee (f := 7) rfl ?_); refine goesL_ (some 21) rfl rfl Try.func7 (by kernel_rfl) rfl #[] rfl (by (try simp only [List.map_toArray, List.map_cons, List.map_nil]); first | done | rfl | (simp only [List.length_drop, List.length_take]; rfl)) ?_; (with_reducible refine (manciplelaw20_known.calls k  false _ A5.out).mono ?_); rintro e w30 ⟨rfl, hb⟩; refine ⟨_, rfl, ?_⟩; have n0_ := Aside0.mk (below_step (by repeat (first | (with_reducible first | exact HB.out | apply below_alloc | apply pw_below_drewN | apply below_drew1) | exact HB.out)) hb); clear HB; have HB := n0_; clear n0_; (try clear hb); (try clear hb2); (try clear hk); (try clear hi)))
    go_ret
    exact ⟨by first | rfl | (simp [errW_none, errW_some] <;> rfl) | (simp [*, errW_none, errW_some] <;> rfl), by repeat (first | (with_reducible first | exact HB.out | apply below_alloc | apply pw_below_drewN | apply below_drew1) | exact HB.out)⟩

/-- THE ONE PURE STATEMENT of manciplelaw20_LubyAny: yours. -/
def manciplelaw20_LubyAny.Pure : Prop := ∀ (a0 : Int) (a1 : Int) (a2 : Int) (a3 : Int), (Lit.int .i64 a0).wf = true → (Lit.int .u16 a1).wf = true → (Lit.int .i64 a2).wf = true → (Lit.int .i64 a3).wf = true → ∃ k, manciplelaw20_LubyAny.f k a0 a1 a2 a3 = some true
theorem manciplelaw20_LubyAny.walk (P : manciplelaw20_LubyAny.Pure) (a0 : Int) (a1 : Int) (a2 : Int) (a3 : Int) (w : World) (w0 : (Lit.int .i64 a0).wf = true) (w1 : (Lit.int .u16 a1).wf = true) (w2 : (Lit.int .i64 a2).wf = true) (w3 : (Lit.int .i64 a3).wf = true) :
    Calls Try.prog 3 #[.int .i64 a0, .int .u16 a1, .int .i64 a2, .int .i64 a3] w fun e w' => e = .returned (.bool true) ∧ Below w.heap.size w w' := by
  obtain ⟨k, h⟩ := P a0 a1 a2 a3 w0 w1 w2 w3
  refine (manciplelaw20_LubyAny.calls k a0 a1 a2 a3 true w h).mono ?_
  rintro e w' ⟨rfl, hd⟩
  exact ⟨rfl, hd⟩

end Go.Proofs.Ytaogafapkblchaa.PLubyAny
