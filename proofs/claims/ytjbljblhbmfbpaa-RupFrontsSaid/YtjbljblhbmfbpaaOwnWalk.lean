/-
  The walk of RupOwn: whatever the clauses, the place and the literal, the call answers true and nothing that was there changes. Conditions: the place is a byte.
-/
import Derived.Test.YtjbljblhbmfbpaaOwnPlain
import Derived.Test.YtjbljblhbmfbpaaPRupx7
import Derived.Test.YtjbljblhbmfbpaaRupKnown
namespace Go.Proofs.Ytjbljblhbmfbpaa.PRup
open Go.RowKit Prop15 Go.Proofs.YtjbljblhbmfbpaaW.PrintWords Go.Proofs.YtjbljblhbmfbpaaW.PrintLast Go.Proofs.YtjbljblhbmfbpaaW.PrintMore

theorem Lits_one (n x : Int) (h0 : 0 ≤ n) (h1 : n ≤ 256) : ∃ b, manciplelaw15_Lits.f 10 n [x] = some b ∧ (b = true → x ≠ 0 ∧ x ≤ n ∧ -n ≤ x) := by
  have e1 : ([x] : List Int).length = 1 := rfl
  have e2 : rd [x] 0 = x := rfl
  unfold manciplelaw15_Lits.f
  rw [if_neg (by rw [e1]; decide)]
  simp only [manciplelaw15_Lits.l0]
  rw [e1, e2, if_pos (by decide), if_pos (by decide), PureR.w_neg n (by omega) (by omega)]
  by_cases c1 : x = 0
  · rw [if_pos c1]; exact ⟨false, rfl, fun h => by cases h⟩
  · rw [if_neg c1]
    by_cases c2 : x > n
    · rw [if_pos c2]; exact ⟨false, rfl, fun h => by cases h⟩
    · rw [if_neg c2]
      by_cases c3 : x < -n
      · rw [if_pos c3]; exact ⟨false, rfl, fun h => by cases h⟩
      · rw [if_neg c3, PureR.w_in (0 + 1) (by decide) (by decide), if_neg (by decide)]
        exact ⟨true, rfl, fun _ => ⟨c1, by omega, by omega⟩⟩

set_option maxRecDepth 100000 in
set_option maxHeartbeats 8000000 in
theorem own_walk (n : Int) (A1 : Option Addr) (c1 : Nat) (l1 : List (List Int)) (wh x : Int) (w : World) (hr1 : Kd.C CD w A1 l1.length l1) (hc1 : l1.length ≤ c1) (h0 : 0 ≤ wh) (h255 : wh ≤ 255) :
    Calls Try.prog 10 #[.int .i64 n, .slice A1 l1.length c1, .int .u8 wh, .int .i64 x] w fun e w' => e = .returned (.bool true) ∧ Below w.heap.size w w' := by
  have HR1 := Lib.hid hr1
  have HC1 := Lib.hid hc1
  clear hr1 hc1
  have HB := Lib.hid (Below.refl w.heap.size w)
  go_enter Try.func10, Try.ntmps10
  go_wp2_with fail
  refine (known_walk _).mono ?_
  rintro e w1_ ⟨rfl, hb⟩
  have t_ := Lib.hid (HB.out.trans (hb.mono HB.out.size)); clear HB; have HB := t_; clear t_ hb
  obtain ⟨b, hb0, hq⟩ := PureR.Small_any n 30 l1 140000 (Nat.le_refl _)
  have HQ := Lib.hid hq
  clear hq
  go_wp2_with fail
  refine (manciplelaw15_Small.calls 140000 n A1 c1 l1 30 b _ (Kd.C_below HR1.out HB.out) HC1.out hb0).mono ?_
  rintro e w2_ ⟨rfl, hd⟩
  have hb := hd.below
  clear hd
  have t_ := Lib.hid (HB.out.trans (hb.mono HB.out.size)); clear HB; have HB := t_; clear t_ hb
  clear hb0
  cases b with
  | false =>
    go_wp2_with fail
    go_ret
    exact ⟨rfl, HB.out⟩
  | true =>
    have HS := Lib.hid (HQ.out rfl)
    clear HQ
    by_cases hl0 : l1 = []
    · subst hl0
      go_wp2_with fail
      go_ret
      exact ⟨rfl, HB.out⟩
    · have hpos : 0 < l1.length := List.length_pos_iff.2 hl0
      have hb0 : ((l1.length : Int) == 0) = false := beq_eq_false_iff_ne.mpr (by omega)
      clear hl0
      go_wp2_with (first
        | ((with_reducible refine gate_dst (N := 25) rfl ?_); (try (refine gate_guard (by rfl) ?_; dsimp only)); refine Kd.R_lit (Kd.int .i64) _ 3 ?hg (N := 25) ?hd (xs := ([x] : List Int)) (inner := [.int .i64 x]) (ok := fun _ => True) (okp := fun _ => True) ?hr ?hp (fun _ hk => hk) trivial (Below.refl _ _) (Nat.le_refl _) (by simp) ?_; (case hd => rfl); (case hg => rfl); (case hr => first | (go_simp; done) | (go_simp; rfl)); (case hp => exact (Reps.one (show Kd.M (Kd.int .i64) _ _ _ x [.int .i64 x] from rfl) (Reps.none _ _))); intro v_ w3_ ho hb hg_ hnew_; clear hg_ hnew_; obtain ⟨A25, c25, rfl, ha_, hb_⟩ : ∃ A_ c_, v_ = .slice A_ 1 c_ ∧ 1 ≤ c_ ∧ Kd.C (Kd.int .i64) w3_ A_ 1 [x] := Kd.R_reads ho; have t25_ := Lib.hid (And.intro ha_ hb_); clear ha_ hb_ ho; have t_ := Lib.hid (HB.out.trans (hb.mono HB.out.size)); clear HB; have HB := t_; clear t_ hb; have H25 := t25_; clear t25_))
      obtain ⟨b2, hb2, hq2⟩ := Lits_one n x HS.out.1 HS.out.2.1
      have HQ2 := Lib.hid hq2
      clear hq2
      refine (manciplelaw15_Lits.calls 10 n A25 c25 [x] b2 _ H25.out.2 H25.out.1 hb2).mono ?_
      rintro e w4_ ⟨rfl, hd⟩
      have hb := hd.below
      clear hd
      have t_ := Lib.hid (And.intro H25.out.1 (Kd.C_below H25.out.2 hb)); clear H25; have H25 := t_; clear t_; have t_ := Lib.hid (HB.out.trans (hb.mono HB.out.size)); clear HB; have HB := t_; clear t_ hb
      clear hb2 H25
      cases b2 with
      | false =>
        go_wp2_with fail
        go_ret
        exact ⟨rfl, HB.out⟩
      | true =>
        have HX := Lib.hid (HQ2.out rfl)
        clear HQ2
        obtain ⟨m, rfl⟩ : ∃ m : Nat, wh = (m : Int) := ⟨wh.toNat, by omega⟩
        have hlen : l1.length ≤ 120 := HS.out.2.2.2.1
        obtain ⟨k, hk⟩ : ∃ k : Nat, m % l1.length = k := ⟨_, rfl⟩
        have hkl : k < l1.length := by rw [← hk]; exact Nat.mod_lt _ hpos
        have hmk : (m : Int) % (l1.length : Int) = (k : Int) := by rw [← hk]; exact (Int.natCast_emod m l1.length).symm
        clear hk
        obtain ⟨ad, Ac, cc, hA1, hcell, hcc, hC⟩ := at_row w A1 l1 HR1.out k hkl
        subst hA1
        replace hcell := (HB.out.cell (World.block_lt_of_cell? w _ hcell)).trans hcell
        obtain ⟨c, hc⟩ : ∃ c, l1.getD k [] = c := ⟨_, rfl⟩
        have HM : Hid (c ∈ l1) := Lib.hid (by rw [← hc]; exact PureR.mem_at l1 [] k hkl)
        rw [hc] at hcell hcc hC
        have HCX := Lib.hid (And.intro hcc hC)
        clear hcc hC hc
        have hklt : (k : Int) < (l1.length : Int) := by omega
        by_cases hcl : 200 < c.length
        · have hg : (200 : Int) < (c.length : Int) := by omega
          go_wp2_with fail
          go_ret
          exact ⟨rfl, HB.out⟩
        · have hg : ¬ (200 : Int) < (c.length : Int) := by omega
          have HCL := Lib.hid hcl
          clear hcl
          obtain ⟨d, hd⟩ : ∃ d, c ++ [x] = d := ⟨_, rfl⟩
          have HD := Lib.hid hd
          clear hd
          go_wp2_with (first
            | ((with_reducible refine gate_dst (N := 40) rfl ?_); refine Kd.R_lit (Kd.int .i64) _ 3 ?hg (N := 40) ?hd (xs := ([] : List Int)) (inner := []) (ok := fun _ => True) (okp := fun _ => True) ?hr ?hp (fun _ hk => hk) trivial (Below.refl _ _) (Nat.le_refl _) (by simp) ?_; (case hd => rfl); (case hg => rfl); (case hr => first | (go_simp; done) | (go_simp; rfl)); (case hp => exact (Reps.none _ _)); intro v40 w5_ ho hb hg_ hnew_; clear hg_ hnew_; have HO := Lib.hid (Kd.R_lower ho HB.out.size); clear ho; have t_ := Lib.hid (HB.out.trans (hb.mono HB.out.size)); clear HB; have HB := t_; clear t_ hb)
            | ((with_reducible refine gate_builtin (b := .append) (xs := #[.tmp 40, .tmp 41]) rfl ?_); at_builtin; refine append_rows2 (Kd.int .i64) (w0 := w) w.heap.size rfl (.tmp 40) (.tmp 41) 42 23 3 3 (.int .i64 0) 8 rfl Try.underlying42 Try.underlying23 info3 rfl (by decide) (by omega) v40 ([] : List Int) c _ _ _ (fun _ => True) (fun _ => False) rfl rfl ?aO ?aR (fun _ _ h => h) (fun _ h => h.elim) (fun _ _ => trivial) ?aB ?aS ?aL ?_; (case aR => exact (by repeat (first | exact (Kd.C_below HCX.out.2 HB.out) | (with_reducible refine Kd.C_alloc ?_ _) | (with_reducible refine Kd.C_drewN ?_ _) | (with_reducible refine Kd.C_drew ?_)))); (case aB => exact (by repeat (first | (with_reducible first | exact HB.out | apply below_alloc | apply pw_below_drewN | apply below_drew1) | exact HB.out))); (case aO => exact (by (with_reducible repeat (first | apply Kd.R_alloc | apply Kd.R_drewN | apply Kd.R_drew)); exact HO.out)); (case aS => exact (below_size (by repeat (first | (with_reducible first | exact HB.out | apply below_alloc | apply pw_below_drewN | apply below_drew1) | exact HB.out)))); (case aL => have := HCL.out; simp only [List.length_nil]; omega); intro v42 w6_ ho hb hg_ hat; clear hg_ hat HO HB; have HO := Lib.hid ho; have HB := Lib.hid hb; clear ho hb)
            | ((with_reducible refine gate_builtin (b := .append) (xs := #[.tmp 42, .tmp 44]) rfl ?_); at_builtin; refine Kd.R_append (Kd.int .i64) (w0 := w) w.heap.size rfl (.tmp 42) (.tmp 44) 42 3 (.int .i64 0) 8 rfl Try.underlying42 info3 rfl (by decide) (by omega) _ ([] ++ c) x [.int .i64 x] (fun _ => True) (fun _ => False) rfl rfl rfl (fun _ hk => hk.elim) (fun _ _ => trivial) ?aO ?aB ?aS ?aL ?_; (case aB => exact (by repeat (first | (with_reducible first | exact HB.out | apply below_alloc | apply pw_below_drewN | apply below_drew1) | exact HB.out))); (case aO => exact (by (with_reducible repeat (first | apply Kd.R_alloc | apply Kd.R_drewN | apply Kd.R_drew)); exact HO.out)); (case aS => exact (below_size (by repeat (first | (with_reducible first | exact HB.out | apply below_alloc | apply pw_below_drewN | apply below_drew1) | exact HB.out)))); (case aL => have := HCL.out; rw [List.nil_append]; omega); intro v1 w7_ ho hb hg_ hat; clear hg_ hat HO HB; have HB := Lib.hid hb; clear hb; rw [List.nil_append, HD.out] at ho; obtain ⟨A10, c10, rfl, hc10, hC10⟩ := Kd.R_reads ho; have H10 := Lib.hid (And.intro hc10 hC10); clear hc10 hC10 ho))
          have OF := Lib.hid (PureR.own_facts HS.out.1 HS.out.2.2.1 HS.out.2.2.2.1 HS.out.2.2.2.2 HM.out (by have := HCL.out; omega) HX.out)
          have hx1 : -30 ≤ x := by have := HX.out; have := HS.out; omega
          have hx2 : x ≤ 30 := by have := HX.out; have := HS.out; omega
          have HDF : Hid (rup_Follows.f n l1 d = some true) := Lib.hid (by rw [← HD.out]; exact OF.out.2.2.1)
          have HDE : Hid (rup_Ends.f n l1 [d, c] c = some true) := Lib.hid (by rw [← HD.out]; exact OF.out.2.2.2.2.2)
          refine (manciplelaw13_To.calls 2000 _ c1 l1 l1 _ (Kd.C_below HR1.out HB.out) HC1.out OF.out.1).mono ?_
          rintro e w5_ ⟨v_, rfl, hs, hb⟩
          obtain ⟨A48, c48, rfl, ha_, hb_⟩ := Kd.S_reads hs
          have H48 := Lib.hid (And.intro ha_ hb_)
          clear ha_ hb_ hs
          have t_ := Lib.hid (And.intro H10.out.1 (Kd.C_below H10.out.2 hb)); clear H10; have H10 := t_; clear t_; have t_ := Lib.hid (HB.out.trans (hb.mono HB.out.size)); clear HB; have HB := t_; clear t_ hb
          go_wp2_with fail
          refine (rup_Follows.calls n A48 c48 l1 Ac cc c true _ H48.out.2 H48.out.1 (Kd.C_below HCX.out.2 HB.out) HCX.out.1 OF.out.2.1).mono ?_
          rintro e w6_ ⟨rfl, hb⟩
          clear H48
          have t_ := Lib.hid (And.intro H10.out.1 (Kd.C_below H10.out.2 hb)); clear H10; have H10 := t_; clear t_; have t_ := Lib.hid (HB.out.trans (hb.mono HB.out.size)); clear HB; have HB := t_; clear t_ hb
          go_wp2_with fail
          refine (manciplelaw13_To.calls 2000 _ c1 l1 l1 _ (Kd.C_below HR1.out HB.out) HC1.out OF.out.1).mono ?_
          rintro e w7_ ⟨v_, rfl, hs, hb⟩
          obtain ⟨A54, c54, rfl, ha_, hb_⟩ := Kd.S_reads hs
          have H54 := Lib.hid (And.intro ha_ hb_)
          clear ha_ hb_ hs
          have t_ := Lib.hid (And.intro H10.out.1 (Kd.C_below H10.out.2 hb)); clear H10; have H10 := t_; clear t_; have t_ := Lib.hid (HB.out.trans (hb.mono HB.out.size)); clear HB; have HB := t_; clear t_ hb
          go_wp2_with fail
          refine (rup_Follows.calls n A54 c54 l1 A10 c10 d true _ H54.out.2 H54.out.1 H10.out.2 H10.out.1 HDF.out).mono ?_
          rintro e w8_ ⟨rfl, hb⟩
          clear H54
          have t_ := Lib.hid (And.intro H10.out.1 (Kd.C_below H10.out.2 hb)); clear H10; have H10 := t_; clear t_; have t_ := Lib.hid (HB.out.trans (hb.mono HB.out.size)); clear HB; have HB := t_; clear t_ hb
          go_wp2_with (first
            | ((with_reducible refine gate_dst (N := 63) rfl ?_); (try (refine gate_guard (by rfl) ?_; dsimp only)); refine Kd.R_lit (Kd.int .i64) _ 3 ?hg (N := 63) ?hd (xs := ([x, (-x)] : List Int)) (inner := [.int .i64 x, .int .i64 (-x)]) (ok := fun _ => True) (okp := fun _ => True) ?hr ?hp (fun _ hk => hk) trivial (Below.refl _ _) (Nat.le_refl _) (by simp) ?_; (case hd => rfl); (case hg => rfl); (case hr => first | (go_simp; done) | (go_simp; rfl)); (case hp => exact (Reps.one (show Kd.M (Kd.int .i64) _ _ _ x [.int .i64 x] from rfl) (Reps.one (show Kd.M (Kd.int .i64) _ _ _ (-x) [.int .i64 (-x)] from rfl) (Reps.none _ _)))); intro v_ w9_ ho hb hg_ hnew_; clear hg_ hnew_; obtain ⟨A63, c63, rfl, ha_, hb_⟩ : ∃ A_ c_, v_ = .slice A_ 2 c_ ∧ 2 ≤ c_ ∧ Kd.C (Kd.int .i64) w9_ A_ 2 [x, (-x)] := Kd.R_reads ho; have t63_ := Lib.hid (And.intro ha_ hb_); clear ha_ hb_ ho; have t_ := Lib.hid (And.intro H10.out.1 (Kd.C_below H10.out.2 hb)); clear H10; have H10 := t_; clear t_; have t_ := Lib.hid (HB.out.trans (hb.mono HB.out.size)); clear HB; have HB := t_; clear t_ hb; have H63 := t63_; clear t63_))
          refine (rup_Follows.calls n _ _ [] A63 c63 [x, -x] true _ (C_nil0 _ _) (Nat.le_refl _) H63.out.2 H63.out.1 OF.out.2.2.2.1).mono ?_
          rintro e w10_ ⟨rfl, hb⟩
          clear H63
          have t_ := Lib.hid (And.intro H10.out.1 (Kd.C_below H10.out.2 hb)); clear H10; have H10 := t_; clear t_; have t_ := Lib.hid (HB.out.trans (hb.mono HB.out.size)); clear HB; have HB := t_; clear t_ hb
          go_wp2_with (first
            | ((with_reducible refine gate_dst (N := 69) rfl ?_); (try (refine gate_guard (by rfl) ?_; dsimp only)); refine Kd.R_lit (Kd.int .i64) _ 3 ?hg (N := 69) ?hd (xs := ([x] : List Int)) (inner := [.int .i64 x]) (ok := fun _ => True) (okp := fun _ => True) ?hr ?hp (fun _ hk => hk) trivial (Below.refl _ _) (Nat.le_refl _) (by simp) ?_; (case hd => rfl); (case hg => rfl); (case hr => first | (go_simp; done) | (go_simp; rfl)); (case hp => exact (Reps.one (show Kd.M (Kd.int .i64) _ _ _ x [.int .i64 x] from rfl) (Reps.none _ _))); intro v_ w11_ ho hb hg_ hnew_; clear hg_ hnew_; obtain ⟨A69, c69, rfl, ha_, hb_⟩ : ∃ A_ c_, v_ = .slice A_ 1 c_ ∧ 1 ≤ c_ ∧ Kd.C (Kd.int .i64) w11_ A_ 1 [x] := Kd.R_reads ho; have t69_ := Lib.hid (And.intro ha_ hb_); clear ha_ hb_ ho; have t_ := Lib.hid (And.intro H10.out.1 (Kd.C_below H10.out.2 hb)); clear H10; have H10 := t_; clear t_; have t_ := Lib.hid (HB.out.trans (hb.mono HB.out.size)); clear HB; have HB := t_; clear t_ hb; have H69 := t69_; clear t69_))
          refine (rup_Follows.calls n _ _ [] A69 c69 [x] false _ (C_nil0 _ _) (Nat.le_refl _) H69.out.2 H69.out.1 OF.out.2.2.2.2.1).mono ?_
          rintro e w12_ ⟨rfl, hb⟩
          clear H69
          have t_ := Lib.hid (And.intro H10.out.1 (Kd.C_below H10.out.2 hb)); clear H10; have H10 := t_; clear t_; have t_ := Lib.hid (HB.out.trans (hb.mono HB.out.size)); clear HB; have HB := t_; clear t_ hb
          go_wp2_with fail
          refine (manciplelaw13_To.calls 2000 _ c1 l1 l1 _ (Kd.C_below HR1.out HB.out) HC1.out OF.out.1).mono ?_
          rintro e w13_ ⟨v_, rfl, hs, hb⟩
          obtain ⟨A76, c76, rfl, ha_, hb_⟩ := Kd.S_reads hs
          have H76 := Lib.hid (And.intro ha_ hb_)
          clear ha_ hb_ hs
          have t_ := Lib.hid (And.intro H10.out.1 (Kd.C_below H10.out.2 hb)); clear H10; have H10 := t_; clear t_; have t_ := Lib.hid (HB.out.trans (hb.mono HB.out.size)); clear HB; have HB := t_; clear t_ hb
          have HC9 := Lib.hid (And.intro HCX.out.1 (Kd.C_below HCX.out.2 HB.out))
          go_wp2_with (first
            | ((with_reducible refine gate_dst (N := 79) rfl ?_); (try (refine gate_guard (by rfl) ?_; dsimp only)); refine Kd.R_lit (Kd.fixed CD w13_) _ 42 ?hg (N := 79) ?hd (xs := ([d, c] : List (List Int))) (inner := [.slice A10 d.length c10, .slice Ac c.length cc]) (ok := fun _ => True) (okp := fun _ => True) ?hr ?hp (fun _ hk => hk) trivial (Below.refl _ _) (Nat.le_refl _) (by simp) ?_; (case hd => rfl); (case hg => rfl); (case hr => first | (go_simp; done) | (go_simp; rfl)); (case hp => exact (Reps.one (show Kd.M (Kd.fixed CD w13_) _ _ _ d [.slice A10 d.length c10] from ⟨A10, c10, rfl, H10.out.1, H10.out.2⟩) (Reps.one (show Kd.M (Kd.fixed CD w13_) _ _ _ c [.slice Ac c.length cc] from ⟨Ac, cc, rfl, HC9.out.1, HC9.out.2⟩) (Reps.none _ _)))); intro v_ w14_ ho hb hg_ hnew_; clear hg_ hnew_; obtain ⟨A79, c79, rfl, ha_, hb_⟩ : ∃ A_ c_, v_ = .slice A_ 2 c_ ∧ 2 ≤ c_ ∧ Kd.C (Kd.fixed CD w13_) w14_ A_ 2 [d, c] := Kd.R_reads ho; have t79_ := Lib.hid (And.intro ha_ (C_now hb hb_)); clear ha_ hb_ ho; clear H10; have t_ := Lib.hid (And.intro H76.out.1 (Kd.C_below H76.out.2 hb)); clear H76; have H76 := t_; clear t_; have t_ := Lib.hid (And.intro HC9.out.1 (Kd.C_below HC9.out.2 hb)); clear HC9; have HC9 := t_; clear t_; have t_ := Lib.hid (HB.out.trans (hb.mono HB.out.size)); clear HB; have HB := t_; clear t_ hb; have H79 := t79_; clear t79_))
          have HV := Lib.hid (show Kd.V (Kd.int .i64) 3 w14_ w14_.heap.size (fun k => k < w14_.heap.size) (.slice Ac c.length cc) c from Kd.V_mk HC9.out.1 (Kd.C_F (Kd.heap_int _) HC9.out.2))
          have HE := Lib.hid (rup_Ends.calls n A76 c76 l1 A79 c79 [d, c] (fun k => k < w14_.heap.size) Ac cc c true w14_ H76.out.2 H76.out.1 H79.out.2 H79.out.1 HV.out HDE.out)
          refine (HE.out).mono ?_
          rintro e w15_ ⟨rfl, hb⟩
          clear H76
          clear H79
          clear HC9
          have t_ := Lib.hid (HB.out.trans (hb.mono HB.out.size)); clear HB; have HB := t_; clear t_ hb
          go_wp2_with fail
          go_ret
          exact ⟨rfl, HB.out⟩
theorem byte_in {a : Int} (h : (Lit.int .u8 a).wf = true) : 0 ≤ a ∧ a ≤ 255 := by
  simp [Lit.wf, IntKind.min, IntKind.max, IntKind.bits, IntKind.signed] at h
  omega
end Go.Proofs.Ytjbljblhbmfbpaa.PRup
