/-
  The walk of law 17's known.
-/
import Derived.Test.YtdcemlennobjhaaTrM
namespace Go.Proofs.Ytdcemlennobjhaa.Tr
open Go.RowKit Go.Proofs.YtdcemlennobjhaaW.PrintWords Go.Proofs.YtdcemlennobjhaaW.PrintLast Go.Proofs.YtdcemlennobjhaaW.PrintMore Go.Proofs.Ytdcemlennobjhaa.PTrailPlays
set_option linter.unusedSimpArgs false
set_option linter.unusedVariables false
def K1 : TS := impT (new 3) (-3) 0
def K2 : TS := decT K1 1
def K3 : TS := impT K2 2 1
def K4 : TS := bacT K3 0
instance (T : TS) (cs : List (List Int)) : Decidable (SoundOk T cs) := decidable_of_iff (T.of.length ≤ 257 ∧ T.l.length ≤ 100000 ∧ (∀ x ∈ T.l, x.natAbs < T.of.length) ∧ (∀ x ∈ T.l, -1 ≤ (pl T x).f2) ∧ cs.length ≤ 1000000 ∧ ∀ c ∈ cs, ∀ y ∈ c, -1000000 ≤ y ∧ y ≤ 1000000) ⟨fun h => ⟨h.1, h.2.1, h.2.2.1, h.2.2.2.1, h.2.2.2.2.1, h.2.2.2.2.2⟩, fun h => ⟨h.n2, h.ll, h.lits, h.rea, h.cl, h.cls⟩⟩
instance (T : TS) : Decidable (Fine T) := decidable_of_iff (1 ≤ T.of.length ∧ T.of.length ≤ 257 ∧ T.l.length ≤ 100000 ∧ T.frm.length ≤ 100000 ∧ (∀ x ∈ T.l, x.natAbs < T.of.length) ∧ (∀ n ∈ T.frm, 0 ≤ n ∧ n ≤ T.l.length)) ⟨fun h => ⟨h.1, h.2.1, h.2.2.1, h.2.2.2.1, h.2.2.2.2.1, h.2.2.2.2.2⟩, fun h => ⟨h.n1, h.n2, h.ll, h.fl, h.lits, h.frs⟩⟩
/-- what known asks of trails -/
structure KF (T0 T1 T2 T3 T4 : TS) : Prop where
  f0 : Fine T0
  f1 : Fine T1
  f2 : Fine T2
  f3 : Fine T3
  f4 : Fine T4
  e1 : impE T0 (-3) 0 = 0
  t1 : impT T0 (-3) 0 = T1
  e2 : decE T1 1 = 0
  t2 : decT T1 1 = T2
  e3 : impE T2 2 1 = 0
  t3 : impT T2 2 1 = T3
  e4 : decE T3 (-2) = 6
  t4 : decT T3 (-2) = T3
  e5 : impE T3 4 0 = 11
  t5 : impT T3 4 0 = T3
  s1 : SoundOk T3 [[-3], [2, -1, 3]]
  r1 : sndFrom T3 [[-3], [2, -1, 3]] [] T3.l = true
  s2 : SoundOk T3 [[-3], [2, 1]]
  r2 : sndFrom T3 [[-3], [2, 1]] [] T3.l = false
  l3 : T3.l = [-3, 1, 2]
  d3 : (T3.frm.length : Int) = 1
  v3 : lvlT T3 2 = 1
  a3 : reaT T3 2 = 1
  w3 : valT T3 (-2) = -1
  e6 : bacE T3 0 = 0
  t6 : bacT T3 0 = T4
  l4 : T4.l = [-3]
  v4 : lvlT T4 1 = -1
  e7 : bacE T4 1 = 1
  t7 : bacT T4 1 = T4
  e8 : impE T4 1 (-1) = 1
  t8 : impT T4 1 (-1) = T4
theorem kf : ∃ T0 T1 T2 T3 T4 : TS, new 3 = T0 ∧ KF T0 T1 T2 T3 T4 :=
  ⟨new 3, K1, K2, K3, K4, rfl, by
    constructor
    case t1 => rfl
    case t2 => rfl
    case t3 => rfl
    case t4 => kernel_rfl
    case t5 => kernel_rfl
    case t6 => rfl
    case t7 => kernel_rfl
    case t8 => kernel_rfl
    all_goals decide +kernel⟩
set_option maxRecDepth 100000 in
set_option maxHeartbeats 8000000 in
theorem known_walk (w : World) : Calls Try.prog 7 #[] w fun e w' => e = .returned (.bool true) ∧ Below w.heap.size w w' := by
  obtain ⟨T0, T1, T2, T3, T4, h0_, hK_⟩ := kf
  have HK := Lib.hid hK_
  clear hK_
  have HB := Lib.hid (Below.refl w.heap.size w)
  go_enter Try.func7, Try.ntmps7
  go_wp2_with fail
  refine (own_new (b := w.heap.size) 3 w (by decide) (Nat.le_refl _)).mono ?_
  rintro e w1_ ⟨g, rfl, h_, hb⟩
  rw [h0_] at h_
  have HT := Lib.hid h_
  have t_ := Lib.hid (HB.out.trans hb)
  clear HB h_ hb h0_
  have HB := t_
  clear t_
  go_wp2_with fail
  refine (new_bad 257 _ (by decide)).mono ?_
  rintro e w2_ ⟨rfl, he_⟩
  subst he_
  go_wp2_with fail
  refine (own_imply HT.out HK.out.f0 HB.out.size (-3) 0 0 T1 HK.out.e1 HK.out.t1).mono ?_
  rintro e w3_ ⟨rfl, h_, hb⟩
  clear HT
  have HT := Lib.hid h_
  have t_ := Lib.hid (HB.out.trans hb)
  clear HB h_ hb
  have HB := t_
  clear t_
  go_wp2_with fail
  refine (own_decide HT.out HK.out.f1 HB.out.size 1 0 T2 HK.out.e2 HK.out.t2).mono ?_
  rintro e w4_ ⟨rfl, h_, hb⟩
  clear HT
  have HT := Lib.hid h_
  have t_ := Lib.hid (HB.out.trans hb)
  clear HB h_ hb
  have HB := t_
  clear t_
  go_wp2_with fail
  refine (own_imply HT.out HK.out.f2 HB.out.size 2 1 0 T3 HK.out.e3 HK.out.t3).mono ?_
  rintro e w5_ ⟨rfl, h_, hb⟩
  clear HT
  have HT := Lib.hid h_
  have t_ := Lib.hid (HB.out.trans hb)
  clear HB h_ hb
  have HB := t_
  clear t_
  go_wp2_with fail
  refine (own_decide HT.out HK.out.f3 HB.out.size (-2) 6 T3 HK.out.e4 HK.out.t4).mono ?_
  rintro e w6_ ⟨rfl, h_, hb⟩
  clear HT
  have HT := Lib.hid h_
  have t_ := Lib.hid (HB.out.trans hb)
  clear HB h_ hb
  have HB := t_
  clear t_
  go_wp2_with fail
  refine (own_imply HT.out HK.out.f3 HB.out.size 4 0 11 T3 HK.out.e5 HK.out.t5).mono ?_
  rintro e w7_ ⟨rfl, h_, hb⟩
  clear HT
  have HT := Lib.hid h_
  have t_ := Lib.hid (HB.out.trans hb)
  clear HB h_ hb
  have HB := t_
  clear t_
  go_wp2_with (first
    | ((with_reducible refine gate_dst (N := 43) rfl ?_); (try (refine gate_guard (by rfl) ?_; dsimp only)); refine Kd.R_lit (Kd.int .i64) _ 3 ?hg (N := 43) ?hd (xs := ([(-3)] : List Int)) (inner := [.int .i64 (-3)]) (ok := fun _ => True) (okp := fun _ => True) ?hr ?hp (fun _ hk => hk) trivial (Below.refl _ _) (Nat.le_refl _) (by simp) ?_; (case hd => rfl); (case hg => rfl); (case hr => first | (go_simp; done) | (go_simp; rfl)); (case hp => exact (Reps.one (show Kd.M (Kd.int .i64) _ _ _ (-3) [.int .i64 (-3)] from rfl) (Reps.none _ _))); intro v_ w8_ ho hb hg_ hnew_; clear hg_ hnew_; obtain ⟨A43, c43, rfl, ha_, hb_⟩ : ∃ A_ c_, v_ = .slice A_ 1 c_ ∧ 1 ≤ c_ ∧ Kd.C (Kd.int .i64) w8_ A_ 1 [(-3)] := Kd.R_reads ho; have t43_ := Lib.hid (And.intro ha_ hb_); clear ha_ hb_ ho; have t_ := Lib.hid (One.below (foot_tr _ _ _) HT.out hb); clear HT; have HT := t_; clear t_; have t_ := Lib.hid (HB.out.trans (hb.mono HB.out.size)); clear HB; have HB := t_; clear t_ hb; have H43 := t43_; clear t43_)
    | ((with_reducible refine gate_dst (N := 44) rfl ?_); (try (refine gate_guard (by rfl) ?_; dsimp only)); refine Kd.R_lit (Kd.int .i64) _ 3 ?hg (N := 44) ?hd (xs := ([2, (-1), 3] : List Int)) (inner := [.int .i64 2, .int .i64 (-1), .int .i64 3]) (ok := fun _ => True) (okp := fun _ => True) ?hr ?hp (fun _ hk => hk) trivial (Below.refl _ _) (Nat.le_refl _) (by simp) ?_; (case hd => rfl); (case hg => rfl); (case hr => first | (go_simp; done) | (go_simp; rfl)); (case hp => exact (Reps.one (show Kd.M (Kd.int .i64) _ _ _ 2 [.int .i64 2] from rfl) (Reps.one (show Kd.M (Kd.int .i64) _ _ _ (-1) [.int .i64 (-1)] from rfl) (Reps.one (show Kd.M (Kd.int .i64) _ _ _ 3 [.int .i64 3] from rfl) (Reps.none _ _))))); intro v_ w9_ ho hb hg_ hnew_; clear hg_ hnew_; obtain ⟨A44, c44, rfl, ha_, hb_⟩ : ∃ A_ c_, v_ = .slice A_ 3 c_ ∧ 3 ≤ c_ ∧ Kd.C (Kd.int .i64) w9_ A_ 3 [2, (-1), 3] := Kd.R_reads ho; have t44_ := Lib.hid (And.intro ha_ hb_); clear ha_ hb_ ho; have t_ := Lib.hid (One.below (foot_tr _ _ _) HT.out hb); clear HT; have HT := t_; clear t_; have t_ := Lib.hid (And.intro H43.out.1 (Kd.C_below H43.out.2 hb)); clear H43; have H43 := t_; clear t_; have t_ := Lib.hid (HB.out.trans (hb.mono HB.out.size)); clear HB; have HB := t_; clear t_ hb; have H44 := t44_; clear t44_)
    | ((with_reducible refine gate_dst (N := 45) rfl ?_); (try (refine gate_guard (by rfl) ?_; dsimp only)); refine Kd.R_lit (Kd.fixed CD w9_) _ 58 ?hg (N := 45) ?hd (xs := ([[(-3)], [2, (-1), 3]] : List (List Int))) (inner := [.slice A43 1 c43, .slice A44 3 c44]) (ok := fun _ => True) (okp := fun _ => True) ?hr ?hp (fun _ hk => hk) trivial (Below.refl _ _) (Nat.le_refl _) (by simp) ?_; (case hd => rfl); (case hg => rfl); (case hr => first | (go_simp; done) | (go_simp; rfl)); (case hp => exact (Reps.one (show Kd.M (Kd.fixed CD w9_) _ _ _ [(-3)] [.slice A43 1 c43] from ⟨A43, c43, rfl, H43.out.1, H43.out.2⟩) (Reps.one (show Kd.M (Kd.fixed CD w9_) _ _ _ [2, (-1), 3] [.slice A44 3 c44] from ⟨A44, c44, rfl, H44.out.1, H44.out.2⟩) (Reps.none _ _)))); intro v_ w10_ ho hb hg_ hnew_; clear hg_ hnew_; obtain ⟨A45, c45, rfl, ha_, hb_⟩ : ∃ A_ c_, v_ = .slice A_ 2 c_ ∧ 2 ≤ c_ ∧ Kd.C (Kd.fixed CD w9_) w10_ A_ 2 [[(-3)], [2, (-1), 3]] := Kd.R_reads ho; have t45_ := Lib.hid (And.intro ha_ (C_now hb hb_)); clear ha_ hb_ ho; clear H43; clear H44; have t_ := Lib.hid (One.below (foot_tr _ _ _) HT.out hb); clear HT; have HT := t_; clear t_; have t_ := Lib.hid (HB.out.trans (hb.mono HB.out.size)); clear HB; have HB := t_; clear t_ hb; have H45 := t45_; clear t45_))
  refine (own_sound HT.out _ HK.out.s1 A45 c45 H45.out.2 true HK.out.r1).mono ?_
  rintro e w11_ ⟨rfl, hb⟩
  clear H45
  have t_ := Lib.hid (One.below (foot_tr _ _ _) HT.out hb); clear HT; have HT := t_; clear t_; have t_ := Lib.hid (HB.out.trans (hb.mono HB.out.size)); clear HB; have HB := t_; clear t_ hb
  go_wp2_with (first
    | ((with_reducible refine gate_dst (N := 48) rfl ?_); (try (refine gate_guard (by rfl) ?_; dsimp only)); refine Kd.R_lit (Kd.int .i64) _ 3 ?hg (N := 48) ?hd (xs := ([(-3)] : List Int)) (inner := [.int .i64 (-3)]) (ok := fun _ => True) (okp := fun _ => True) ?hr ?hp (fun _ hk => hk) trivial (Below.refl _ _) (Nat.le_refl _) (by simp) ?_; (case hd => rfl); (case hg => rfl); (case hr => first | (go_simp; done) | (go_simp; rfl)); (case hp => exact (Reps.one (show Kd.M (Kd.int .i64) _ _ _ (-3) [.int .i64 (-3)] from rfl) (Reps.none _ _))); intro v_ w12_ ho hb hg_ hnew_; clear hg_ hnew_; obtain ⟨A48, c48, rfl, ha_, hb_⟩ : ∃ A_ c_, v_ = .slice A_ 1 c_ ∧ 1 ≤ c_ ∧ Kd.C (Kd.int .i64) w12_ A_ 1 [(-3)] := Kd.R_reads ho; have t48_ := Lib.hid (And.intro ha_ hb_); clear ha_ hb_ ho; have t_ := Lib.hid (One.below (foot_tr _ _ _) HT.out hb); clear HT; have HT := t_; clear t_; have t_ := Lib.hid (HB.out.trans (hb.mono HB.out.size)); clear HB; have HB := t_; clear t_ hb; have H48 := t48_; clear t48_)
    | ((with_reducible refine gate_dst (N := 49) rfl ?_); (try (refine gate_guard (by rfl) ?_; dsimp only)); refine Kd.R_lit (Kd.int .i64) _ 3 ?hg (N := 49) ?hd (xs := ([2, 1] : List Int)) (inner := [.int .i64 2, .int .i64 1]) (ok := fun _ => True) (okp := fun _ => True) ?hr ?hp (fun _ hk => hk) trivial (Below.refl _ _) (Nat.le_refl _) (by simp) ?_; (case hd => rfl); (case hg => rfl); (case hr => first | (go_simp; done) | (go_simp; rfl)); (case hp => exact (Reps.one (show Kd.M (Kd.int .i64) _ _ _ 2 [.int .i64 2] from rfl) (Reps.one (show Kd.M (Kd.int .i64) _ _ _ 1 [.int .i64 1] from rfl) (Reps.none _ _)))); intro v_ w13_ ho hb hg_ hnew_; clear hg_ hnew_; obtain ⟨A49, c49, rfl, ha_, hb_⟩ : ∃ A_ c_, v_ = .slice A_ 2 c_ ∧ 2 ≤ c_ ∧ Kd.C (Kd.int .i64) w13_ A_ 2 [2, 1] := Kd.R_reads ho; have t49_ := Lib.hid (And.intro ha_ hb_); clear ha_ hb_ ho; have t_ := Lib.hid (One.below (foot_tr _ _ _) HT.out hb); clear HT; have HT := t_; clear t_; have t_ := Lib.hid (And.intro H48.out.1 (Kd.C_below H48.out.2 hb)); clear H48; have H48 := t_; clear t_; have t_ := Lib.hid (HB.out.trans (hb.mono HB.out.size)); clear HB; have HB := t_; clear t_ hb; have H49 := t49_; clear t49_)
    | ((with_reducible refine gate_dst (N := 50) rfl ?_); (try (refine gate_guard (by rfl) ?_; dsimp only)); refine Kd.R_lit (Kd.fixed CD w13_) _ 58 ?hg (N := 50) ?hd (xs := ([[(-3)], [2, 1]] : List (List Int))) (inner := [.slice A48 1 c48, .slice A49 2 c49]) (ok := fun _ => True) (okp := fun _ => True) ?hr ?hp (fun _ hk => hk) trivial (Below.refl _ _) (Nat.le_refl _) (by simp) ?_; (case hd => rfl); (case hg => rfl); (case hr => first | (go_simp; done) | (go_simp; rfl)); (case hp => exact (Reps.one (show Kd.M (Kd.fixed CD w13_) _ _ _ [(-3)] [.slice A48 1 c48] from ⟨A48, c48, rfl, H48.out.1, H48.out.2⟩) (Reps.one (show Kd.M (Kd.fixed CD w13_) _ _ _ [2, 1] [.slice A49 2 c49] from ⟨A49, c49, rfl, H49.out.1, H49.out.2⟩) (Reps.none _ _)))); intro v_ w14_ ho hb hg_ hnew_; clear hg_ hnew_; obtain ⟨A50, c50, rfl, ha_, hb_⟩ : ∃ A_ c_, v_ = .slice A_ 2 c_ ∧ 2 ≤ c_ ∧ Kd.C (Kd.fixed CD w13_) w14_ A_ 2 [[(-3)], [2, 1]] := Kd.R_reads ho; have t50_ := Lib.hid (And.intro ha_ (C_now hb hb_)); clear ha_ hb_ ho; clear H48; clear H49; have t_ := Lib.hid (One.below (foot_tr _ _ _) HT.out hb); clear HT; have HT := t_; clear t_; have t_ := Lib.hid (HB.out.trans (hb.mono HB.out.size)); clear HB; have HB := t_; clear t_ hb; have H50 := t50_; clear t50_))
  refine (own_sound HT.out _ HK.out.s2 A50 c50 H50.out.2 false HK.out.r2).mono ?_
  rintro e w15_ ⟨rfl, hb⟩
  clear H50
  have t_ := Lib.hid (One.below (foot_tr _ _ _) HT.out hb); clear HT; have HT := t_; clear t_; have t_ := Lib.hid (HB.out.trans (hb.mono HB.out.size)); clear HB; have HB := t_; clear t_ hb
  go_wp2_with fail
  refine (own_lits HT.out HK.out.f3.ll [-3, 1, 2] HK.out.l3).mono ?_
  rintro e w16_ ⟨AL, cAL, rfl, hc_, hC_, h_, hb⟩
  clear HT
  have HT := Lib.hid h_
  have t_ := Lib.hid (HB.out.trans (hb.mono HB.out.size)); clear HB; have HB := t_; clear t_ hb
  have HL := Lib.hid (And.intro hc_ hC_)
  clear hc_ hC_ h_
  go_wp2_with fail
  refine (own_deep HT.out.fst 1 HK.out.d3).mono ?_
  rintro e w17_ ⟨rfl, hb⟩
  have t_ := Lib.hid (Two.below (foot_tr _ _ _) (foot_row _ _ _) HT.out hb); clear HT; have HT := t_; clear t_; have t_ := Lib.hid (And.intro HL.out.1 (Kd.C_below HL.out.2 hb)); clear HL; have HL := t_; clear t_; have t_ := Lib.hid (HB.out.trans (hb.mono HB.out.size)); clear HB; have HB := t_; clear t_ hb
  go_wp2_with fail
  refine (own_level HT.out.fst HK.out.f3.n2 2 1 HK.out.v3).mono ?_
  rintro e w18_ ⟨rfl, hb⟩
  have t_ := Lib.hid (Two.below (foot_tr _ _ _) (foot_row _ _ _) HT.out hb); clear HT; have HT := t_; clear t_; have t_ := Lib.hid (And.intro HL.out.1 (Kd.C_below HL.out.2 hb)); clear HL; have HL := t_; clear t_; have t_ := Lib.hid (HB.out.trans (hb.mono HB.out.size)); clear HB; have HB := t_; clear t_ hb
  go_wp2_with fail
  refine (own_reason HT.out.fst HK.out.f3.n2 2 1 HK.out.a3).mono ?_
  rintro e w19_ ⟨rfl, hb⟩
  have t_ := Lib.hid (Two.below (foot_tr _ _ _) (foot_row _ _ _) HT.out hb); clear HT; have HT := t_; clear t_; have t_ := Lib.hid (And.intro HL.out.1 (Kd.C_below HL.out.2 hb)); clear HL; have HL := t_; clear t_; have t_ := Lib.hid (HB.out.trans (hb.mono HB.out.size)); clear HB; have HB := t_; clear t_ hb
  go_wp2_with fail
  refine (own_value HT.out.fst HK.out.f3.n2 (-2) (-1) HK.out.w3).mono ?_
  rintro e w20_ ⟨rfl, hb⟩
  have t_ := Lib.hid (Two.below (foot_tr _ _ _) (foot_row _ _ _) HT.out hb); clear HT; have HT := t_; clear t_; have t_ := Lib.hid (And.intro HL.out.1 (Kd.C_below HL.out.2 hb)); clear HL; have HL := t_; clear t_; have t_ := Lib.hid (HB.out.trans (hb.mono HB.out.size)); clear HB; have HB := t_; clear t_ hb
  go_wp2_with fail
  refine (two_back HT.out (foot_row _ _ _) HK.out.f3 HB.out.size 0 0 T4 HK.out.e6 HK.out.t6).mono ?_
  rintro e w21_ ⟨rfl, h_, hb⟩
  clear HT
  have HT := Lib.hid h_
  have t_ := Lib.hid (HB.out.trans hb)
  clear HB hb
  have HB := t_
  clear t_
  obtain ⟨p_, q_, _, hq_, _⟩ := h_
  have t_ := Lib.hid (And.intro HL.out.1 (Kd.R_reads' hq_).2.2)
  clear HL hq_
  have HL := t_
  clear t_
  go_wp2_with fail
  have hb := below_alloc (Below.refl w21_.heap.size w21_) (.cells #[.int .i64 (-3), .int .i64 1, .int .i64 2] 3)
  have t_ := Lib.hid (Two.below (foot_tr _ _ _) (foot_row _ _ _) HT.out hb); clear HT; have HT := t_; clear t_; have t_ := Lib.hid (And.intro HL.out.1 (Kd.C_below HL.out.2 hb)); clear HL; have HL := t_; clear t_; have t_ := Lib.hid (HB.out.trans (hb.mono HB.out.size)); clear HB; have HB := t_; clear t_ hb
  refine (ints_same [-3, 1, 2] AL _ cAL 3 3 3 _ (by decide) HL.out (lit_ints w21_ [-3, 1, 2] (by decide)) rfl rfl).mono ?_
  rintro e w22_ ⟨rfl, hb⟩
  have t_ := Lib.hid (Two.below (foot_tr _ _ _) (foot_row _ _ _) HT.out hb); clear HT; have HT := t_; clear t_; have t_ := Lib.hid (And.intro HL.out.1 (Kd.C_below HL.out.2 hb)); clear HL; have HL := t_; clear t_; have t_ := Lib.hid (HB.out.trans (hb.mono HB.out.size)); clear HB; have HB := t_; clear t_ hb
  clear HL
  have t_ := Lib.hid HT.out.fst
  clear HT
  have HT := t_
  clear t_
  go_wp2_with fail
  refine (own_lits HT.out HK.out.f4.ll [-3] HK.out.l4).mono ?_
  rintro e w23_ ⟨AM, cAM, rfl, hc_, hC_, h_, hb⟩
  clear HT
  have HT := Lib.hid h_
  have t_ := Lib.hid (HB.out.trans (hb.mono HB.out.size)); clear HB; have HB := t_; clear t_ hb
  have HM := Lib.hid (And.intro hc_ hC_)
  clear hc_ hC_ h_
  have t_ := Lib.hid HT.out.fst
  clear HT
  have HT := t_
  clear t_
  go_wp2_with fail
  have hb := below_alloc (Below.refl w23_.heap.size w23_) (.cells #[.int .i64 (-3)] 3)
  have t_ := Lib.hid (One.below (foot_tr _ _ _) HT.out hb); clear HT; have HT := t_; clear t_; have t_ := Lib.hid (And.intro HM.out.1 (Kd.C_below HM.out.2 hb)); clear HM; have HM := t_; clear t_; have t_ := Lib.hid (HB.out.trans (hb.mono HB.out.size)); clear HB; have HB := t_; clear t_ hb
  refine (ints_same [-3] AM _ cAM 1 1 1 _ (by decide) HM.out (lit_ints w23_ [-3] (by decide)) rfl rfl).mono ?_
  rintro e w24_ ⟨rfl, hb⟩
  have t_ := Lib.hid (One.below (foot_tr _ _ _) HT.out hb); clear HT; have HT := t_; clear t_; have t_ := Lib.hid (And.intro HM.out.1 (Kd.C_below HM.out.2 hb)); clear HM; have HM := t_; clear t_; have t_ := Lib.hid (HB.out.trans (hb.mono HB.out.size)); clear HB; have HB := t_; clear t_ hb
  clear HM
  go_wp2_with fail
  refine (own_level HT.out HK.out.f4.n2 1 (-1) HK.out.v4).mono ?_
  rintro e w25_ ⟨rfl, hb⟩
  have t_ := Lib.hid (One.below (foot_tr _ _ _) HT.out hb); clear HT; have HT := t_; clear t_; have t_ := Lib.hid (HB.out.trans (hb.mono HB.out.size)); clear HB; have HB := t_; clear t_ hb
  go_wp2_with fail
  refine (own_back HT.out HK.out.f4 HB.out.size 1 1 T4 HK.out.e7 HK.out.t7).mono ?_
  rintro e w26_ ⟨rfl, h_, hb⟩
  clear HT
  have HT := Lib.hid h_
  have t_ := Lib.hid (HB.out.trans hb)
  clear HB h_ hb
  have HB := t_
  clear t_
  go_wp2_with fail
  refine (own_imply HT.out HK.out.f4 HB.out.size 1 (-1) 1 T4 HK.out.e8 HK.out.t8).mono ?_
  rintro e w27_ ⟨rfl, h_, hb⟩
  clear HT
  have HT := Lib.hid h_
  have t_ := Lib.hid (HB.out.trans hb)
  clear HB h_ hb
  have HB := t_
  clear t_
  go_wp2_with fail
  go_ret
  exact ⟨rfl, HB.out⟩
end Go.Proofs.Ytdcemlennobjhaa.Tr
