/-
  The walk of RupFronts: whatever the clauses, the steps, the place and the clause, the call answers true and nothing that was there changes. Conditions: the place is a byte; the steps' lengths, as such rows have them.
-/
import Derived.Test.YtjbljblhbmfbpaaFrontPlain
import Derived.Test.YtjbljblhbmfbpaaOwnWalk
import Derived.Test.YtjbljblhbmfbpaaPRupx3
import Derived.Test.YtjbljblhbmfbpaaRowsSized
import Derived.Test.YtjbljblhbmfbpaaRupKnown
namespace Go.Proofs.Ytjbljblhbmfbpaa.PRup
open Go.RowKit Prop15 Go.Proofs.YtjbljblhbmfbpaaW.PrintWords Go.Proofs.YtjbljblhbmfbpaaW.PrintLast Go.Proofs.YtjbljblhbmfbpaaW.PrintMore

def X9.T9 : Bool × List (List Nat × List Nat) := (true, [([], []), ([], []), ([1], [1]), ([], []), ([], []), ([3, 4], [3, 4]), ([5, 2], [5]), ([0, 2, 6, 6], [0, 2, 6]), ([7], [7]), ([8], [8]), ([8], [8]), ([9, 7, 0, 1, 2, 3, 4, 5, 6, 7, 8, 9], [9]), ([10, 11, 0, 1, 2, 3, 4, 5, 6, 7, 8, 9, 10, 11], [10])])
def X9.B9 : List Nat := [0, 0, 2, 0, 0, 24, 62, 127, 255, 511, 511, 1023, 4095]
theorem X9.tab9 : rtab .any (opsOf Try.f9 9) = X9.T9 := by kernel_rfl
theorem X9.bits9 : waitsOk X9.T9.2 X9.B9 = true := by kernel_rfl
def X9.T10 : Bool × List (List Nat × List Nat) := (true, [([], []), ([], []), ([0, 1], [0, 1]), ([], []), ([], []), ([3, 4], [3, 4]), ([2, 5, 2], [2, 5]), ([6, 6, 0, 1, 2, 3, 4, 5, 6], [6])])
def X9.B10 : List Nat := [0, 0, 3, 0, 0, 24, 63, 127]
theorem X9.tab10 : rtab .any (opsOf Try.f9 10) = X9.T10 := by kernel_rfl
theorem X9.bits10 : waitsOk X9.T10.2 X9.B10 = true := by kernel_rfl
def X9.T11 : Bool × List (List Nat × List Nat) := (true, [([], []), ([], []), ([1], [1]), ([], []), ([], []), ([], []), ([4, 5], [4, 5]), ([3, 6, 2], [3, 6]), ([], []), ([8], [8]), ([7, 9, 7], [7, 9]), ([10, 10], [10]), ([0, 2, 11, 11], [0, 2, 11]), ([12], [12]), ([13], [13]), ([13], [13]), ([14, 12, 0, 1, 2, 3, 4, 5, 6, 7, 8, 9, 10, 11, 12, 13, 14], [14]), ([15, 16, 0, 1, 2, 3, 4, 5, 6, 7, 8, 9, 10, 11, 12, 13, 14, 15, 16], [15])])
def X9.B11 : List Nat := [0, 0, 2, 0, 0, 0, 48, 126, 0, 256, 1022, 2046, 4095, 8191, 16383, 16383, 32767, 131071]
theorem X9.tab11 : rtab .any (opsOf Try.f9 11) = X9.T11 := by kernel_rfl
theorem X9.bits11 : waitsOk X9.T11.2 X9.B11 = true := by kernel_rfl

set_option linter.unusedSimpArgs false
set_option maxRecDepth 100000 in
set_option maxHeartbeats 8000000 in
theorem front_walk (n : Int) (A1 : Option Addr) (c1 : Nat) (l1 : List (List Int)) (A2 : Option Addr) (c2 : Nat) (l2 : List (List Int)) (wh : Int) (A4 : Option Addr) (c4 : Nat) (c : List Int) (w : World) (hr1 : Kd.C CD w A1 l1.length l1) (hc1 : l1.length ≤ c1)
    (hr2 : Kd.C CD w A2 l2.length l2) (hc2 : l2.length ≤ c2) (hr4 : Kd.C (Kd.int .i64) w A4 c.length c) (hc4 : c.length ≤ c4) (hpl : ∀ c ∈ l2, c.length < 17592186044416) (h0 : 0 ≤ wh) (h255 : wh ≤ 255) :
    Calls Try.prog 9 #[.int .i64 n, .slice A1 l1.length c1, .slice A2 l2.length c2, .int .u8 wh, .slice A4 c.length c4] w fun e w' => e = .returned (.bool true) ∧ Below w.heap.size w w' := by
  have HR1 := Lib.hid hr1
  have HC1 := Lib.hid hc1
  have HR2 := Lib.hid hr2
  have HC2 := Lib.hid hc2
  have HR4 := Lib.hid hr4
  have HC4 := Lib.hid hc4
  have HPL := Lib.hid hpl
  clear hr1 hc1 hr2 hc2 hr4 hc4 hpl
  have HB := Lib.hid (Below.refl w.heap.size w)
  go_enter Try.func9, Try.ntmps9
  go_wp2_with fail
  refine (known_walk _).mono ?_
  rintro e w1_ ⟨rfl, hb⟩
  have t_ := Lib.hid (HB.out.trans (hb.mono HB.out.size)); clear HB; have HB := t_; clear t_ hb
  obtain ⟨b, hb0, hq⟩ := PureR.Small_any n 30 l1 140000 (Nat.le_refl _)
  have HQ := Lib.hid hq
  clear hq
  go_wp2_with fail
  refine (manciplelaw15_Small.calls 140000 n A1 c1 l1 30 b _ (Kd.C_below HR1.out HB.out) HC1.out hb0).mono ?_
  rintro e w2_ ⟨rfl, hd⟩
  have hb := hd.below
  clear hd
  have t_ := Lib.hid (HB.out.trans (hb.mono HB.out.size)); clear HB; have HB := t_; clear t_ hb
  clear hb0
  cases b with
  | false =>
    go_wp2_with fail
    go_ret
    exact ⟨rfl, HB.out⟩
  | true =>
    have HS := Lib.hid (HQ.out rfl)
    clear HQ
    by_cases hp30 : (30 : Int) < (l2.length : Int)
    · have e1 : decide ((30 : Int) < (l2.length : Int)) = true := decide_eq_true hp30
      go_wp2_with fail
      go_ret
      exact ⟨rfl, HB.out⟩
    · have e1 : decide ((30 : Int) < (l2.length : Int)) = false := decide_eq_false hp30
      by_cases hc30 : (30 : Int) < (c.length : Int)
      · have e2 : decide ((30 : Int) < (c.length : Int)) = true := decide_eq_true hc30
        go_wp2_with fail
        go_ret
        exact ⟨rfl, HB.out⟩
      · have e2 : decide ((30 : Int) < (c.length : Int)) = false := decide_eq_false hc30
        obtain ⟨b2, hb2, hq2⟩ := PureR.Lits_any n c 100 (Nat.le_refl _) HS.out.1 HS.out.2.1
        have HQ2 := Lib.hid hq2
        clear hq2
        go_wp2_with fail
        refine (manciplelaw15_Lits.calls 100 n A4 c4 c b2 _ (Kd.C_below HR4.out HB.out) HC4.out hb2).mono ?_
        rintro e w3_ ⟨rfl, hd⟩
        have hb := hd.below
        clear hd
        have t_ := Lib.hid (HB.out.trans (hb.mono HB.out.size)); clear HB; have HB := t_; clear t_ hb
        clear hb2
        cases b2 with
        | false =>
          go_wp2_with fail
          go_ret
          exact ⟨rfl, HB.out⟩
        | true =>
          have HX := Lib.hid (HQ2.out rfl).2
          clear HQ2
          have HTO : Hid (manciplelaw13_To.f 2000 l1 = some l1) := Lib.hid (PureR.To_eq l1 2000 (by have := HS.out.2.2.2.1; omega) (fun c hc => by have := (HS.out.2.2.2.2 c hc).1; omega) (by omega))
          have HTP : Hid (manciplelaw13_To.f 2000 l2 = some l2) := Lib.hid (PureR.To_eq l2 2000 (by omega) HPL.out (by omega))
          have HLP := Lib.hid (show l2.length ≤ 30 by omega)
          have HCL := Lib.hid (show c.length ≤ 30 by omega)
          clear hp30 hc30 e1 e2
          go_wp2_with fail
          refine (manciplelaw13_To.calls 2000 A1 c1 l1 l1 _ (Kd.C_below HR1.out HB.out) HC1.out HTO.out).mono ?_
          rintro e w4_ ⟨v_, rfl, hs, hb⟩
          obtain ⟨A44, c44, rfl, ha_, hb_⟩ := Kd.S_reads hs
          have H44 := Lib.hid (And.intro ha_ hb_)
          clear ha_ hb_ hs
          have t_ := Lib.hid (HB.out.trans (hb.mono HB.out.size)); clear HB; have HB := t_; clear t_ hb
          go_wp2_with fail
          refine (manciplelaw13_To.calls 2000 A2 c2 l2 l2 _ (Kd.C_below HR2.out HB.out) HC2.out HTP.out).mono ?_
          rintro e w5_ ⟨v_, rfl, hs, hb⟩
          obtain ⟨A46, c46, rfl, ha_, hb_⟩ := Kd.S_reads hs
          have H46 := Lib.hid (And.intro ha_ hb_)
          clear ha_ hb_ hs
          have t_ := Lib.hid (And.intro H44.out.1 (Kd.C_below H44.out.2 hb)); clear H44; have H44 := t_; clear t_; have t_ := Lib.hid (HB.out.trans (hb.mono HB.out.size)); clear HB; have HB := t_; clear t_ hb
          go_wp2_with fail
          obtain ⟨q, hq⟩ : ∃ q, rupChk n l1 l2 = q := ⟨_, rfl⟩
          obtain ⟨q1, q2⟩ := q
          have HRC : Hid (rup_Check.f n l1 l2 = some (q1, q2)) := Lib.hid (by unfold rup_Check.f; rw [if_pos (by have := HLP.out; omega), hq])
          have HQQ := Lib.hid hq
          clear hq
          refine (rup_Check.calls n A44 c44 l1 A46 c46 l2 q1 q2 _ H44.out.2 H44.out.1 H46.out.2 H46.out.1 HRC.out).mono ?_
          rintro e w6_ ⟨rfl, hb⟩
          clear H44
          clear H46
          have t_ := Lib.hid (HB.out.trans (hb.mono HB.out.size)); clear HB; have HB := t_; clear t_ hb
          clear HRC
          by_cases hq0 : q2 = 0
          · subst hq0
            obtain ⟨m, rfl⟩ : ∃ m : Nat, wh = (m : Int) := ⟨wh.toNat, by omega⟩
            have hlen : l2.length ≤ 30 := HLP.out
            obtain ⟨k, hk⟩ : ∃ k : Nat, m % (l2.length + 1) = k := ⟨_, rfl⟩
            have hkl : k ≤ l2.length := by have := Nat.mod_lt m (show 0 < l2.length + 1 by omega); omega
            have hmk : (m : Int) % ((l2.length : Int) + 1) = (k : Int) := by rw [← hk]; have := Int.natCast_emod m (l2.length + 1); rw [this]; simp
            clear hk
            have OF := Lib.hid (PureR.front_facts HS.out.1 HS.out.2.2.1 HS.out.2.2.2.1 hlen HS.out.2.2.2.2 HCL.out HX.out (by rw [HQQ.out]) hkl)
            clear HQQ
            obtain ⟨p, hp⟩ : ∃ p, l2.take k = p := ⟨_, rfl⟩
            have hpk : p.length = k := by rw [← hp, List.length_take]; omega
            have HPC := Lib.hid (show Kd.C CD w A2 p.length p by rw [← hp]; exact Kd.C_take HR2.out hkl)
            have HTK : Hid (manciplelaw13_To.f 2000 p = some p) := Lib.hid (PureR.To_eq p 2000 (by omega) (fun c hc => HPL.out c (List.mem_of_mem_take (by rw [hp]; exact hc))) (by omega))
            have hof := OF.out
            rw [hp] at hof
            obtain ⟨hd256, ⟨a1, hk1⟩, KF, bq, hfo, a2, e2, hk2, hk3, hk4⟩ := hof
            have HK1 := Lib.hid hk1
            have HK2 := Lib.hid hk2
            have HK3 := Lib.hid hk3
            have HK4 := Lib.hid hk4
            have HFO := Lib.hid hfo
            have HP256 := Lib.hid (show ∀ d ∈ p, d.length ≤ 256 from fun d hd => hd256 d (List.mem_of_mem_take (by rw [hp]; exact hd)))
            have HTX : Hid (manciplelaw13_To.f 2000 (p ++ [c]) = some (p ++ [c])) := Lib.hid (PureR.To_eq (p ++ [c]) 2000 (by rw [List.length_append]; simp only [List.length_singleton]; omega) (fun d hd => by
              rcases List.mem_append.1 hd with hd | hd
              · have := HP256.out d hd; omega
              · rw [List.mem_singleton.1 hd]; have := HCL.out; omega) (by omega))
            have HPK := Lib.hid hpk
            have HLL := Lib.hid (show l1.length ≤ 120 from HS.out.2.2.2.1)
            clear hk1 hk2 hk3 hk4 hfo hd256 OF hp
            have hcut : ∀ W : World, (Instr.slice 22 (.slice A2 l2.length c2) none (some (.int .i64 (k : Int))) none).run Try.prog W = .ok (.slice A2 p.length c2) W := by
              rw [hpk]
              obtain ⟨i0, hi0, _, _, _⟩ := info_parts info23
              exact cut_to (P := Try.prog) 22 23 .i64 Try.underlying22 hi0 A2 l2.length c2 (k : Int) (by omega) (by omega) HC2.out
            have HPR := Lib.hid (show p.length ≤ c2 by have := HC2.out; omega)
            clear hpk
            go_wp2_with fail
            refine start_ (n := 13) (S := fun w' => True) (ds := []) #[false, false, false, false, false, false, false, false, false, false, false, false, false] (by kernel_rfl) rfl rfl trivial (fun hHeld => ?_)
            refine with_tabW X9.tab9 X9.bits9 (fun HT_ HW_ => ?_)
            have hb := (Below.refl w6_.heap.size w6_).drew
            have t_ := Lib.hid (HB.out.trans (hb.mono HB.out.size)); clear HB; have HB := t_; clear t_ hb
            generalize w6_.drew = w7_ at HB hHeld ⊢
            refine pure_ (i := 0) (N := some 59) (v := ?_) (a' := ?_) #[true, false, false, false, false, false, false, false, false, false, false, false, false] rfl rfl (any_of HT_.out (by kernel_rfl)) (fun _ _ _ h => h) (Or.inl ⟨by rfl, ?_⟩) ?_ ?_
            rotate_left
            · intro w'
              go_simp
              with_reducible rfl
            rotate_left
            · simp only [Act.put, List.setIfInBounds_toArray, List.set_cons_zero, List.set_cons_succ, i64_w, i32_w]
              rfl
            refine pure_ (i := 1) (N := some 60) (v := ?_) (a' := ?_) #[true, true, false, false, false, false, false, false, false, false, false, false, false] rfl rfl (any_of HT_.out (by kernel_rfl)) (fun _ _ _ h => h) (Or.inl ⟨by rfl, ?_⟩) ?_ ?_
            rotate_left
            · intro w'
              go_simp
              with_reducible rfl
            rotate_left
            · simp only [Act.put, List.setIfInBounds_toArray, List.set_cons_zero, List.set_cons_succ, i64_w, i32_w]
              rfl
            refine pure_ (i := 3) (N := some 62) (v := ?_) (a' := ?_) #[true, true, false, true, false, false, false, false, false, false, false, false, false] rfl rfl (any_of HT_.out (by kernel_rfl)) (fun _ _ _ h => h) (Or.inl ⟨by rfl, ?_⟩) ?_ ?_
            rotate_left
            · intro w'
              go_simp
              with_reducible rfl
            rotate_left
            · simp only [Act.put, List.setIfInBounds_toArray, List.set_cons_zero, List.set_cons_succ, i64_w, i32_w]
              rfl
            refine pure_ (i := 4) (N := some 63) (v := ?_) (a' := ?_) #[true, true, false, true, true, false, false, false, false, false, false, false, false] rfl rfl (any_of HT_.out (by kernel_rfl)) (fun _ _ _ h => h) (Or.inl ⟨by rfl, ?_⟩) ?_ ?_
            rotate_left
            · intro w'
              go_simp
              with_reducible rfl
            rotate_left
            · simp only [Act.put, List.setIfInBounds_toArray, List.set_cons_zero, List.set_cons_succ, i64_w, i32_w]
              rfl
            refine pure_ (i := 5) (N := some 64) (v := ?_) (a' := ?_) #[true, true, false, true, true, true, false, false, false, false, false, false, false] rfl rfl (any_of HT_.out (by kernel_rfl)) (fun _ _ _ h => h) (Or.inl ⟨by rfl, ?_⟩) ?_ ?_
            rotate_left
            · intro w'
              go_simp
              with_reducible rfl
            rotate_left
            · simp only [Act.put, List.setIfInBounds_toArray, List.set_cons_zero, List.set_cons_succ, i64_w, i32_w]
              rfl
            refine one_ (i := 2) (N := some 61) #[true, true, true, true, true, true, false, false, false, false, false, false, false] rfl rfl (one_of HT_.out (by kernel_rfl)) (by decide) (fun K hK => ?_)
            refine goes_ Try.func16 (by kernel_rfl) rfl #[.slice A1 l1.length c1] (by rfl) rfl rfl (by first | (go_simp; done) | (simp [Act.eval]; done)) ?_
            refine (manciplelaw13_To.calls 2000 A1 c1 l1 l1 _ (Kd.C_below HR1.out HB.out) HC1.out HTO.out).mono ?_
            rintro e w8_ ⟨v_, rfl, hs, hb⟩
            refine ⟨_, rfl, ?_⟩
            obtain ⟨A61, c61, rfl, ha_, hb_⟩ := Kd.S_reads hs
            have H61 := Lib.hid (And.intro ha_ hb_)
            clear ha_ hb_ hs
            have t_ := Lib.hid (HB.out.trans (hb.mono HB.out.size)); clear HB; have HB := t_; clear t_ hb
            refine hK.out _ _ trivial (fun hHeld => ?_)
            clear hK K
            refine norm_ (a' := ?_) ?_ ?_
            rotate_left
            · show Act.put _ (some 61) _ = _
              simp only [Act.put, List.setIfInBounds_toArray, List.set_cons_zero, List.set_cons_succ, i64_w, i32_w]
              rfl
            refine one_ (i := 6) (N := some 65) #[true, true, true, true, true, true, true, false, false, false, false, false, false] rfl rfl (one_of HT_.out (by kernel_rfl)) (by decide) (fun K hK => ?_)
            refine goes_ Try.func16 (by kernel_rfl) rfl #[.slice A2 p.length c2] (by rfl) rfl rfl (by first | (go_simp; done) | (simp [Act.eval]; done)) ?_
            refine (manciplelaw13_To.calls 2000 A2 c2 p p _ (Kd.C_below HPC.out HB.out) HPR.out HTK.out).mono ?_
            rintro e w9_ ⟨v_, rfl, hs, hb⟩
            refine ⟨_, rfl, ?_⟩
            obtain ⟨A65, c65, rfl, ha_, hb_⟩ := Kd.S_reads hs
            have H65 := Lib.hid (And.intro ha_ hb_)
            clear ha_ hb_ hs
            have t_ := Lib.hid (And.intro H61.out.1 (Kd.C_below H61.out.2 hb)); clear H61; have H61 := t_; clear t_; have t_ := Lib.hid (HB.out.trans (hb.mono HB.out.size)); clear HB; have HB := t_; clear t_ hb
            refine hK.out _ _ trivial (fun hHeld => ?_)
            clear hK K
            refine norm_ (a' := ?_) ?_ ?_
            rotate_left
            · show Act.put _ (some 65) _ = _
              simp only [Act.put, List.setIfInBounds_toArray, List.set_cons_zero, List.set_cons_succ, i64_w, i32_w]
              rfl
            refine one_ (i := 7) (N := some 66) #[true, true, true, true, true, true, true, true, false, false, false, false, false] rfl rfl (one_of HT_.out (by kernel_rfl)) (by decide) (fun K hK => ?_)
            refine goes_ Try.func27 (by kernel_rfl) rfl #[.int .i64 n, .slice A61 l1.length c61, .slice A65 p.length c65] (by rfl) rfl rfl (by first | (go_simp; done) | (simp [Act.eval]; done)) ?_
            refine (rup_Check.calls n A61 c61 l1 A65 c65 p a1 0 _ H61.out.2 H61.out.1 H65.out.2 H65.out.1 HK1.out).mono ?_
            rintro e w10_ ⟨rfl, hb⟩
            refine ⟨_, rfl, ?_⟩
            have t_ := Lib.hid (And.intro H61.out.1 (Kd.C_below H61.out.2 hb)); clear H61; have H61 := t_; clear t_; have t_ := Lib.hid (And.intro H65.out.1 (Kd.C_below H65.out.2 hb)); clear H65; have H65 := t_; clear t_; have t_ := Lib.hid (HB.out.trans (hb.mono HB.out.size)); clear HB; have HB := t_; clear t_ hb
            clear H61 H65
            refine hK.out _ _ trivial (fun hHeld => ?_)
            clear hK K
            refine norm_ (a' := ?_) ?_ ?_
            rotate_left
            · show Act.put _ (some 66) _ = _
              simp only [Act.put, List.setIfInBounds_toArray, List.set_cons_zero, List.set_cons_succ, i64_w, i32_w]
              rfl
            refine pure_ (i := 8) (N := some 58) (v := ?_) (a' := ?_) #[true, true, true, true, true, true, true, true, true, false, false, false, false] rfl rfl (any_of HT_.out (by kernel_rfl)) (fun _ _ _ h => h) (Or.inl ⟨by rfl, ?_⟩) ?_ ?_
            rotate_left
            · intro w'
              go_simp
              with_reducible rfl
            rotate_left
            · simp only [Act.put, List.setIfInBounds_toArray, List.set_cons_zero, List.set_cons_succ, i64_w, i32_w]
              rfl
            refine pure_ (i := 9) (N := some 67) (v := ?_) (a' := ?_) #[true, true, true, true, true, true, true, true, true, true, false, false, false] rfl rfl (any_of HT_.out (by kernel_rfl)) (fun _ _ _ h => h) (Or.inl ⟨by rfl, ?_⟩) ?_ ?_
            rotate_left
            · intro w'
              go_simp
              with_reducible rfl
            rotate_left
            · simp only [Act.put, List.setIfInBounds_toArray, List.set_cons_zero, List.set_cons_succ, i64_w, i32_w]
              rfl
            refine pure_ (i := 10) (N := some 68) (v := ?_) (a' := ?_) #[true, true, true, true, true, true, true, true, true, true, true, false, false] rfl rfl (any_of HT_.out (by kernel_rfl)) (fun _ _ _ h => h) (Or.inl ⟨by rfl, ?_⟩) ?_ ?_
            rotate_left
            · intro w'
              go_simp
              with_reducible rfl
            rotate_left
            · simp only [Act.put, List.setIfInBounds_toArray, List.set_cons_zero, List.set_cons_succ, i64_w, i32_w]
              rfl
            refine pure_ (i := 11) (N := some 14) (v := ?_) (a' := ?_) #[true, true, true, true, true, true, true, true, true, true, true, true, false] rfl rfl (any_of HT_.out (by kernel_rfl)) (fun _ _ _ h => h) (Or.inl ⟨by rfl, ?_⟩) ?_ ?_
            rotate_left
            · intro w'
              go_simp
              with_reducible rfl
            rotate_left
            · simp only [Act.put, List.setIfInBounds_toArray, List.set_cons_zero, List.set_cons_succ, i64_w, i32_w]
              rfl
            refine pure_ (i := 12) (N := some 15) (v := ?_) (a' := ?_) #[true, true, true, true, true, true, true, true, true, true, true, true, true] rfl rfl (any_of HT_.out (by kernel_rfl)) (fun _ _ _ h => h) (Or.inl ⟨by rfl, ?_⟩) ?_ ?_
            rotate_left
            · intro w'
              go_simp
              with_reducible rfl
            rotate_left
            · simp only [Act.put, List.setIfInBounds_toArray, List.set_cons_zero, List.set_cons_succ, i64_w, i32_w]
              rfl
            refine done_ (done_of HT_.out (by kernel_rfl)) ?_
            clear HT_ HW_ hHeld
            go_wp2_with fail
            refine start_ (n := 8) (S := fun w' => True) (ds := []) #[false, false, false, false, false, false, false, false] (by kernel_rfl) rfl rfl trivial (fun hHeld => ?_)
            refine with_tabW X9.tab10 X9.bits10 (fun HT_ HW_ => ?_)
            have hb := (Below.refl w10_.heap.size w10_).drew
            have t_ := Lib.hid (HB.out.trans (hb.mono HB.out.size)); clear HB; have HB := t_; clear t_ hb
            generalize w10_.drew = w11_ at HB hHeld ⊢
            refine pure_ (i := 1) (N := some 70) (v := ?_) (a' := ?_) #[false, true, false, false, false, false, false, false] rfl rfl (any_of HT_.out (by kernel_rfl)) (fun _ _ _ h => h) (Or.inl ⟨by rfl, ?_⟩) ?_ ?_
            rotate_left
            · intro w'
              go_simp
              with_reducible rfl
            rotate_left
            · simp only [Act.put, List.setIfInBounds_toArray, List.set_cons_zero, List.set_cons_succ, i64_w, i32_w]
              rfl
            refine pure_ (i := 3) (N := some 72) (v := ?_) (a' := ?_) #[false, true, false, true, false, false, false, false] rfl rfl (any_of HT_.out (by kernel_rfl)) (fun _ _ _ h => h) (Or.inl ⟨by rfl, ?_⟩) ?_ ?_
            rotate_left
            · intro w'
              go_simp
              with_reducible rfl
            rotate_left
            · simp only [Act.put, List.setIfInBounds_toArray, List.set_cons_zero, List.set_cons_succ, i64_w, i32_w]
              rfl
            refine pure_ (i := 4) (N := some 73) (v := ?_) (a' := ?_) #[false, true, false, true, true, false, false, false] rfl rfl (any_of HT_.out (by kernel_rfl)) (fun _ _ _ h => h) (Or.inl ⟨by rfl, ?_⟩) ?_ ?_
            rotate_left
            · intro w'
              go_simp
              with_reducible rfl
            rotate_left
            · simp only [Act.put, List.setIfInBounds_toArray, List.set_cons_zero, List.set_cons_succ, i64_w, i32_w]
              rfl
            refine pure_ (i := 5) (N := some 74) (v := ?_) (a' := ?_) #[false, true, false, true, true, true, false, false] rfl rfl (any_of HT_.out (by kernel_rfl)) (fun _ _ _ h => h) (Or.inl ⟨by rfl, ?_⟩) ?_ ?_
            rotate_left
            · intro w'
              go_simp
              with_reducible rfl
            rotate_left
            · simp only [Act.put, List.setIfInBounds_toArray, List.set_cons_zero, List.set_cons_succ, i64_w, i32_w]
              rfl
            refine one_ (i := 0) (N := some 69) #[true, true, false, true, true, true, false, false] rfl rfl (one_of HT_.out (by kernel_rfl)) (by decide) (fun K hK => ?_)
            refine Kd.R_lit_step (Kd.fixed CD w) (w0 := w) w.heap.size 23 (by rfl) (N := 69) rfl (xs := ([] : List (List Int))) (inner := []) (ok := fun _ => True) (okp := fun _ => True) ?hr (Reps.none _ _) (fun _ hk => hk) trivial HB.out HB.out.size (by simp) ?_
            (case hr => first | (go_simp; done) | (go_simp; rfl))
            intro v69 w12_ ho hb hg_ hat_
            clear HB hat_ hg_
            have HB := Lib.hid hb
            have HO := Lib.hid ho
            clear hb ho
            refine hK.out _ _ trivial (fun hHeld => ?_)
            clear hK K
            refine norm_ (a' := ?_) ?_ ?_
            rotate_left
            · show Act.put _ (some 69) _ = _
              simp only [Act.put, List.setIfInBounds_toArray, List.set_cons_zero, List.set_cons_succ, i64_w, i32_w]
              rfl
            refine one_ (i := 2) (N := some 71) #[true, true, true, true, true, true, false, false] rfl rfl (one_of HT_.out (by kernel_rfl)) (by decide) (fun K hK => ?_)
            refine Kd.R_append_rows_step (Kd.fixed CD w) (w0 := w) w.heap.size (by rfl) (.tmp 69) (.tmp 70) 22 23 (.slice none 0 0) 24 rfl Try.underlying22 info23 rfl Nat.one_pos (by omega) v69 ([] : List (List Int)) l1 A1 l1.length c1 (fun _ => True) (fun _ => False) rfl rfl HO.out (Kd.C_below (d := Kd.fixed CD w) (w := w) HR1.out HB.out) (fun _ _ hk => hk) (fun _ hk => hk.elim) (fun _ _ => trivial) HB.out HB.out.size (by have := HLL.out; simp only [List.length_nil]; omega) ?_
            intro v71 w13_ ho hb hg_ hat_
            clear HB hat_ hg_ HO
            have HB := Lib.hid hb
            have HO := Lib.hid ho
            clear hb ho
            refine hK.out _ _ trivial (fun hHeld => ?_)
            clear hK K
            refine norm_ (a' := ?_) ?_ ?_
            rotate_left
            · show Act.put _ (some 71) _ = _
              simp only [Act.put, List.setIfInBounds_toArray, List.set_cons_zero, List.set_cons_succ, i64_w, i32_w]
              rfl
            refine one_ (i := 6) (N := some 75) #[true, true, true, true, true, true, true, false] rfl rfl (one_of HT_.out (by kernel_rfl)) (by decide) (fun K hK => ?_)
            refine Kd.R_append_rows_step (Kd.fixed CD w) (w0 := w) w.heap.size (by rfl) (.tmp 71) (.tmp 74) 22 23 (.slice none 0 0) 24 rfl Try.underlying22 info23 rfl Nat.one_pos (by omega) v71 ([] ++ l1) p A2 p.length c2 (fun _ => True) (fun _ => False) rfl rfl HO.out (Kd.C_below (d := Kd.fixed CD w) (w := w) HPC.out HB.out) (fun _ _ hk => hk) (fun _ hk => hk.elim) (fun _ _ => trivial) HB.out HB.out.size (by have := HLL.out; have := HPK.out; have := HLP.out; rw [List.nil_append]; omega) ?_
            intro v75 w14_ ho hb hg_ hat_
            clear HB hat_ hg_ HO
            have HB := Lib.hid hb
            have HO := Lib.hid ho
            clear hb ho
            refine hK.out _ _ trivial (fun hHeld => ?_)
            clear hK K
            refine norm_ (a' := ?_) ?_ ?_
            rotate_left
            · show Act.put _ (some 75) _ = _
              simp only [Act.put, List.setIfInBounds_toArray, List.set_cons_zero, List.set_cons_succ, i64_w, i32_w]
              rfl
            refine pure_ (i := 7) (N := some 16) (v := ?_) (a' := ?_) #[true, true, true, true, true, true, true, true] rfl rfl (any_of HT_.out (by kernel_rfl)) (fun _ _ _ h => h) (Or.inl ⟨by rfl, ?_⟩) ?_ ?_
            rotate_left
            · intro w'
              go_simp
              with_reducible rfl
            rotate_left
            · simp only [Act.put, List.setIfInBounds_toArray, List.set_cons_zero, List.set_cons_succ, i64_w, i32_w]
              rfl
            refine done_ (done_of HT_.out (by kernel_rfl)) ?_
            clear HT_ HW_ hHeld
            have ho := HO.out
            rw [List.nil_append] at ho
            obtain ⟨al, hal⟩ : ∃ al, l1 ++ p = al := ⟨_, rfl⟩
            rw [hal] at ho
            have HAL := Lib.hid hal
            clear hal
            obtain ⟨A16, c16, rfl, ha_, hb_⟩ := Kd.R_reads ho
            have H16 := Lib.hid (And.intro ha_ (C_now HB.out hb_))
            clear ha_ hb_ ho HO
            go_wp2_with fail
            refine start_ (n := 18) (S := fun w' => True) (ds := []) #[false, false, false, false, false, false, false, false, false, false, false, false, false, false, false, false, false, false] (by kernel_rfl) rfl rfl trivial (fun hHeld => ?_)
            refine with_tabW X9.tab11 X9.bits11 (fun HT_ HW_ => ?_)
            have hb := (Below.refl w14_.heap.size w14_).drew
            have t_ := Lib.hid (And.intro H16.out.1 (Kd.C_below H16.out.2 hb)); clear H16; have H16 := t_; clear t_; have t_ := Lib.hid (HB.out.trans (hb.mono HB.out.size)); clear HB; have HB := t_; clear t_ hb
            generalize w14_.drew = w15_ at HB hHeld H16 ⊢
            refine pure_ (i := 0) (N := some 77) (v := ?_) (a' := ?_) #[true, false, false, false, false, false, false, false, false, false, false, false, false, false, false, false, false, false] rfl rfl (any_of HT_.out (by kernel_rfl)) (fun _ _ _ h => h) (Or.inl ⟨by rfl, ?_⟩) ?_ ?_
            rotate_left
            · intro w'
              go_simp
              with_reducible rfl
            rotate_left
            · simp only [Act.put, List.setIfInBounds_toArray, List.set_cons_zero, List.set_cons_succ, i64_w, i32_w]
              rfl
            refine pure_ (i := 1) (N := some 78) (v := ?_) (a' := ?_) #[true, true, false, false, false, false, false, false, false, false, false, false, false, false, false, false, false, false] rfl rfl (any_of HT_.out (by kernel_rfl)) (fun _ _ _ h => h) (Or.inl ⟨by rfl, ?_⟩) ?_ ?_
            rotate_left
            · intro w'
              go_simp
              with_reducible rfl
            rotate_left
            · simp only [Act.put, List.setIfInBounds_toArray, List.set_cons_zero, List.set_cons_succ, i64_w, i32_w]
              rfl
            refine pure_ (i := 4) (N := some 81) (v := ?_) (a' := ?_) #[true, true, false, false, true, false, false, false, false, false, false, false, false, false, false, false, false, false] rfl rfl (any_of HT_.out (by kernel_rfl)) (fun _ _ _ h => h) (Or.inl ⟨by rfl, ?_⟩) ?_ ?_
            rotate_left
            · intro w'
              go_simp
              with_reducible rfl
            rotate_left
            · simp only [Act.put, List.setIfInBounds_toArray, List.set_cons_zero, List.set_cons_succ, i64_w, i32_w]
              rfl
            refine pure_ (i := 5) (N := some 82) (v := ?_) (a' := ?_) #[true, true, false, false, true, true, false, false, false, false, false, false, false, false, false, false, false, false] rfl rfl (any_of HT_.out (by kernel_rfl)) (fun _ _ _ h => h) (Or.inl ⟨by rfl, ?_⟩) ?_ ?_
            rotate_left
            · intro w'
              go_simp
              with_reducible rfl
            rotate_left
            · simp only [Act.put, List.setIfInBounds_toArray, List.set_cons_zero, List.set_cons_succ, i64_w, i32_w]
              rfl
            refine pure_ (i := 6) (N := some 83) (v := ?_) (a' := ?_) #[true, true, false, false, true, true, true, false, false, false, false, false, false, false, false, false, false, false] rfl rfl (any_of HT_.out (by kernel_rfl)) (fun _ _ _ h => h) (Or.inl ⟨by rfl, ?_⟩) ?_ ?_
            rotate_left
            · intro w'
              go_simp
              with_reducible rfl
            rotate_left
            · simp only [Act.put, List.setIfInBounds_toArray, List.set_cons_zero, List.set_cons_succ, i64_w, i32_w]
              rfl
            refine pure_ (i := 8) (N := some 85) (v := ?_) (a' := ?_) #[true, true, false, false, true, true, true, false, true, false, false, false, false, false, false, false, false, false] rfl rfl (any_of HT_.out (by kernel_rfl)) (fun _ _ _ h => h) (Or.inl ⟨by rfl, ?_⟩) ?_ ?_
            rotate_left
            · intro w'
              go_simp
              with_reducible rfl
            rotate_left
            · simp only [Act.put, List.setIfInBounds_toArray, List.set_cons_zero, List.set_cons_succ, i64_w, i32_w]
              rfl
            have HBS := Lib.hid (Below.refl w15_.heap.size w15_)
            refine join_ (σ := Value × Value × Value × Value) 8 #[true, true, true, true, true, true, true, true, true, true, false, false, false, false, false, false, false, false] (fun s => [(79, s.1), (80, s.2.1), (84, s.2.2.1), (86, s.2.2.2)]) (fun s w' => Kd.S CD 42 w' w15_.heap.size (fun _ => True) s.1 l1 ∧ Kd.R (Kd.fixed CD w) 23 w' w15_.heap.size (fun k_ => some k_ ≠ s.2.2.2.ownBlock) s.2.2.1 p ∧ Kd.R (Kd.fixed CD w) 23 w' w15_.heap.size (fun k_ => some k_ ≠ s.2.2.1.ownBlock) s.2.2.2 [c] ∧ Below w15_.heap.size w15_ w') ?_ ?_
            rotate_left
            · intro hCont
              refine three_ (i := 2) (j := 3) (k := 9) (Ni := some 79) (Nj := some 80) (Nk := some 86) #[true, true, true, false, true, true, true, false, true, false, false, false, false, false, false, false, false, false] #[true, true, false, true, true, true, true, false, true, false, false, false, false, false, false, false, false, false] #[true, true, false, false, true, true, true, false, true, true, false, false, false, false, false, false, false, false] rfl rfl rfl rfl rfl rfl (three_of HT_.out (by kernel_rfl)) (by decide) (by decide) (by decide) (fun K hK => ?_) (fun K hK => ?_) (fun K hK => ?_)
              · skip
                refine goes_ Try.func16 (by kernel_rfl) rfl #[.slice A1 l1.length c1] (by rfl) rfl rfl (by first | (go_simp; done) | (simp [Act.eval]; done)) ?_
                refine (manciplelaw13_To.calls 2000 A1 c1 l1 l1 _ (Kd.C_below HR1.out (HB.out.trans (HBS.out.mono HB.out.size))) HC1.out HTO.out).mono ?_
                rintro e w16_ ⟨v79, rfl, hs, hb⟩
                refine ⟨_, rfl, ?_⟩
                have X79 := Lib.hid (Kd.S_lower hs HBS.out.size)
                clear hs
                have t2_ := Lib.hid (HBS.out.trans (hb.mono HBS.out.size))
                clear HBS hb
                have HBS := t2_
                clear t2_
                have T79 := X79
                clear X79
                refine hK.out _ _ trivial (fun hHeld => ?_)
                clear hK K
                refine norm_ (a' := ?_) ?_ ?_
                rotate_left
                · show Act.put _ (some 79) _ = _
                  simp only [Act.put, List.setIfInBounds_toArray, List.set_cons_zero, List.set_cons_succ, i64_w, i32_w]
                  rfl
                refine two_ (i := 3) (j := 9) (Ni := some 80) (Nj := some 86) #[true, true, true, true, true, true, true, false, true, false, false, false, false, false, false, false, false, false] #[true, true, true, false, true, true, true, false, true, true, false, false, false, false, false, false, false, false] rfl rfl rfl rfl (two_of HT_.out (by kernel_rfl)) (by decide) (by decide) (fun K hK => ?_) (fun K hK => ?_)
                · skip
                  refine Kd.R_lit_step (Kd.fixed CD w) (w0 := w16_) w16_.heap.size 23 (by rfl) (N := 80) rfl (xs := ([] : List (List Int))) (inner := []) (ok := fun _ => True) (okp := fun _ => True) ?hr (Reps.none _ _) (fun _ hk => hk) trivial (Below.refl _ _) (Nat.le_refl _) (by simp) ?_
                  (case hr => first | (go_simp; done) | (go_simp; rfl))
                  intro v80 w17_ ho hb hg_ hat_
                  clear hat_ hg_
                  have X80 := Lib.hid (Kd.R_lower ho HBS.out.size)
                  clear ho
                  have X79 := Lib.hid (Kd.S_below T79.out hb)
                  clear T79
                  have t2_ := Lib.hid (HBS.out.trans (hb.mono HBS.out.size))
                  clear HBS hb
                  have HBS := t2_
                  clear t2_
                  have T79 := X79
                  clear X79
                  have T80 := X80
                  clear X80
                  refine hK.out _ _ trivial (fun hHeld => ?_)
                  clear hK K
                  refine norm_ (a' := ?_) ?_ ?_
                  rotate_left
                  · show Act.put _ (some 80) _ = _
                    simp only [Act.put, List.setIfInBounds_toArray, List.set_cons_zero, List.set_cons_succ, i64_w, i32_w]
                    rfl
                  refine two_ (i := 7) (j := 9) (Ni := some 84) (Nj := some 86) #[true, true, true, true, true, true, true, true, true, false, false, false, false, false, false, false, false, false] #[true, true, true, true, true, true, true, false, true, true, false, false, false, false, false, false, false, false] rfl rfl rfl rfl (two_of HT_.out (by kernel_rfl)) (by decide) (by decide) (fun K hK => ?_) (fun K hK => ?_)
                  · skip
                    refine Kd.R_append_rows_step (Kd.fixed CD w) (w0 := w15_) w15_.heap.size (by rfl) (.tmp 80) (.tmp 83) 22 23 (.slice none 0 0) 24 rfl Try.underlying22 info23 rfl Nat.one_pos (by omega) v80 ([] : List (List Int)) p A2 p.length c2 (fun _ => True) (fun _ => False) rfl rfl T80.out (Kd.C_below (d := Kd.fixed CD w) (w := w) HPC.out (HB.out.trans (HBS.out.mono HB.out.size))) (fun _ _ hk => hk) (fun _ hk => hk.elim) (fun _ _ => trivial) HBS.out HBS.out.size (by have := HPK.out; have := HLP.out; simp only [List.length_nil]; omega) ?_
                    intro v84 w18_ ho hbs hg_ hat_
                    rw [List.nil_append] at ho
                    have X84 := Lib.hid ho
                    have X79 := Lib.hid (Kd.S_over' T79.out (Kd.R_typed T80.out) (by decide) hg_)
                    clear T79
                    clear ho hg_ hat_ T80
                    have t2_ := Lib.hid hbs
                    clear HBS hbs
                    have HBS := t2_
                    clear t2_
                    have T79 := X79
                    clear X79
                    have T84 := X84
                    clear X84
                    refine hK.out _ _ trivial (fun hHeld => ?_)
                    clear hK K
                    refine norm_ (a' := ?_) ?_ ?_
                    rotate_left
                    · show Act.put _ (some 84) _ = _
                      simp only [Act.put, List.setIfInBounds_toArray, List.set_cons_zero, List.set_cons_succ, i64_w, i32_w]
                      rfl
                    refine one_ (i := 9) (N := some 86) #[true, true, true, true, true, true, true, true, true, true, false, false, false, false, false, false, false, false] rfl rfl (one_of HT_.out (by kernel_rfl)) (by decide) (fun K hK => ?_)
                    refine Kd.R_lit_step (Kd.fixed CD w) (w0 := w18_) w18_.heap.size 23 (by rfl) (N := 86) rfl (xs := ([c] : List (List Int))) (inner := [.slice A4 c.length c4]) (ok := fun _ => True) (okp := fun _ => True) ?hr (Reps.one (show Kd.M (Kd.fixed CD w) _ _ _ c [.slice A4 c.length c4] from ⟨A4, c4, rfl, HC4.out, HR4.out⟩) (Reps.none _ _)) (fun _ hk => hk) trivial (Below.refl _ _) (Nat.le_refl _) (by simp) ?_
                    (case hr => first | (go_simp; done) | (go_simp; rfl))
                    intro v86 w19_ ho hb hg_ hat_
                    clear hat_ hg_
                    have X86 := Lib.hid (Kd.R_mono (Kd.R_lower (Kd.R_newR ho T84.out) HBS.out.size) (fun _ hk => hk.2))
                    have X84 := Lib.hid (Kd.R_mono (Kd.R_elder T84.out ho hb) (fun _ hk => hk.2))
                    clear T84
                    clear ho
                    have X79 := Lib.hid (Kd.S_below T79.out hb)
                    clear T79
                    have t2_ := Lib.hid (HBS.out.trans (hb.mono HBS.out.size))
                    clear HBS hb
                    have HBS := t2_
                    clear t2_
                    have T79 := X79
                    clear X79
                    have T84 := X84
                    clear X84
                    have T86 := X86
                    clear X86
                    refine hK.out _ _ trivial (fun hHeld => ?_)
                    clear hK K
                    refine norm_ (a' := ?_) ?_ ?_
                    rotate_left
                    · show Act.put _ (some 86) _ = _
                      simp only [Act.put, List.setIfInBounds_toArray, List.set_cons_zero, List.set_cons_succ, i64_w, i32_w]
                      rfl
                    exact norm_ (by first | (simp only [putAll, Act.put, List.setIfInBounds_toArray, List.set_cons_zero, List.set_cons_succ]; done) | (simp only [putAll, Act.put, List.setIfInBounds_toArray, List.set_cons_zero, List.set_cons_succ]; rfl)) (hCont (v79, v80, v84, v86) _ ⟨T79.out, T84.out, T86.out, HBS.out⟩)
                  · skip
                    refine Kd.R_lit_step (Kd.fixed CD w) (w0 := w17_) w17_.heap.size 23 (by rfl) (N := 86) rfl (xs := ([c] : List (List Int))) (inner := [.slice A4 c.length c4]) (ok := fun _ => True) (okp := fun _ => True) ?hr (Reps.one (show Kd.M (Kd.fixed CD w) _ _ _ c [.slice A4 c.length c4] from ⟨A4, c4, rfl, HC4.out, HR4.out⟩) (Reps.none _ _)) (fun _ hk => hk) trivial (Below.refl _ _) (Nat.le_refl _) (by simp) ?_
                    (case hr => first | (go_simp; done) | (go_simp; rfl))
                    intro v86 w20_ ho hb hg_ hat_
                    clear hat_ hg_
                    have X86 := Lib.hid (Kd.R_mono (Kd.R_lower (Kd.R_newR ho T80.out) HBS.out.size) (fun _ hk => hk.2))
                    have X80 := Lib.hid (Kd.R_mono (Kd.R_elder T80.out ho hb) (fun _ hk => hk.2))
                    clear T80
                    clear ho
                    have X79 := Lib.hid (Kd.S_below T79.out hb)
                    clear T79
                    have t2_ := Lib.hid (HBS.out.trans (hb.mono HBS.out.size))
                    clear HBS hb
                    have HBS := t2_
                    clear t2_
                    have T79 := X79
                    clear X79
                    have T80 := X80
                    clear X80
                    have T86 := X86
                    clear X86
                    refine hK.out _ _ trivial (fun hHeld => ?_)
                    clear hK K
                    refine norm_ (a' := ?_) ?_ ?_
                    rotate_left
                    · show Act.put _ (some 86) _ = _
                      simp only [Act.put, List.setIfInBounds_toArray, List.set_cons_zero, List.set_cons_succ, i64_w, i32_w]
                      rfl
                    refine one_ (i := 7) (N := some 84) #[true, true, true, true, true, true, true, true, true, true, false, false, false, false, false, false, false, false] rfl rfl (one_of HT_.out (by kernel_rfl)) (by decide) (fun K hK => ?_)
                    refine Kd.R_append_rows_step (Kd.fixed CD w) (w0 := w15_) w15_.heap.size (by rfl) (.tmp 80) (.tmp 83) 22 23 (.slice none 0 0) 24 rfl Try.underlying22 info23 rfl Nat.one_pos (by omega) v80 ([] : List (List Int)) p A2 p.length c2 (fun k_ => some k_ ≠ v86.ownBlock) (fun _ => False) rfl rfl T80.out (Kd.C_below (d := Kd.fixed CD w) (w := w) HPC.out (HB.out.trans (HBS.out.mono HB.out.size))) (fun _ _ hk => hk) (fun _ hk => hk.elim) (Kd.fresh_ok T86.out) HBS.out HBS.out.size (by have := HPK.out; have := HLP.out; simp only [List.length_nil]; omega) ?_
                    intro v84 w21_ ho hbs hg_ hat_
                    rw [List.nil_append] at ho
                    have X84 := Lib.hid ho
                    have X79 := Lib.hid (Kd.S_over' T79.out (Kd.R_typed T80.out) (by decide) hg_)
                    clear T79
                    have X86 := Lib.hid (Kd.R_mono (Kd.R_after (ok := fun _ => True) (Kd.R_mono T86.out (fun _ hk => ⟨trivial, hk⟩)) hg_ hat_) (fun _ hk => hk.2))
                    clear T86
                    clear ho hg_ hat_ T80
                    have t2_ := Lib.hid hbs
                    clear HBS hbs
                    have HBS := t2_
                    clear t2_
                    have T79 := X79
                    clear X79
                    have T86 := X86
                    clear X86
                    have T84 := X84
                    clear X84
                    refine hK.out _ _ trivial (fun hHeld => ?_)
                    clear hK K
                    refine norm_ (a' := ?_) ?_ ?_
                    rotate_left
                    · show Act.put _ (some 84) _ = _
                      simp only [Act.put, List.setIfInBounds_toArray, List.set_cons_zero, List.set_cons_succ, i64_w, i32_w]
                      rfl
                    exact norm_ (by first | (simp only [putAll, Act.put, List.setIfInBounds_toArray, List.set_cons_zero, List.set_cons_succ]; done) | (simp only [putAll, Act.put, List.setIfInBounds_toArray, List.set_cons_zero, List.set_cons_succ]; rfl)) (hCont (v79, v80, v84, v86) _ ⟨T79.out, T84.out, T86.out, HBS.out⟩)
                · skip
                  refine Kd.R_lit_step (Kd.fixed CD w) (w0 := w16_) w16_.heap.size 23 (by rfl) (N := 86) rfl (xs := ([c] : List (List Int))) (inner := [.slice A4 c.length c4]) (ok := fun _ => True) (okp := fun _ => True) ?hr (Reps.one (show Kd.M (Kd.fixed CD w) _ _ _ c [.slice A4 c.length c4] from ⟨A4, c4, rfl, HC4.out, HR4.out⟩) (Reps.none _ _)) (fun _ hk => hk) trivial (Below.refl _ _) (Nat.le_refl _) (by simp) ?_
                  (case hr => first | (go_simp; done) | (go_simp; rfl))
                  intro v86 w22_ ho hb hg_ hat_
                  clear hat_ hg_
                  have X86 := Lib.hid (Kd.R_lower ho HBS.out.size)
                  clear ho
                  have X79 := Lib.hid (Kd.S_below T79.out hb)
                  clear T79
                  have t2_ := Lib.hid (HBS.out.trans (hb.mono HBS.out.size))
                  clear HBS hb
                  have HBS := t2_
                  clear t2_
                  have T79 := X79
                  clear X79
                  have T86 := X86
                  clear X86
                  refine hK.out _ _ trivial (fun hHeld => ?_)
                  clear hK K
                  refine norm_ (a' := ?_) ?_ ?_
                  rotate_left
                  · show Act.put _ (some 86) _ = _
                    simp only [Act.put, List.setIfInBounds_toArray, List.set_cons_zero, List.set_cons_succ, i64_w, i32_w]
                    rfl
                  refine one_ (i := 3) (N := some 80) #[true, true, true, true, true, true, true, false, true, true, false, false, false, false, false, false, false, false] rfl rfl (one_of HT_.out (by kernel_rfl)) (by decide) (fun K hK => ?_)
                  refine Kd.R_lit_step (Kd.fixed CD w) (w0 := w22_) w22_.heap.size 23 (by rfl) (N := 80) rfl (xs := ([] : List (List Int))) (inner := []) (ok := fun _ => True) (okp := fun _ => True) ?hr (Reps.none _ _) (fun _ hk => hk) trivial (Below.refl _ _) (Nat.le_refl _) (by simp) ?_
                  (case hr => first | (go_simp; done) | (go_simp; rfl))
                  intro v80 w23_ ho hb hg_ hat_
                  clear hat_ hg_
                  have X80 := Lib.hid (Kd.R_mono (Kd.R_lower (Kd.R_newR ho T86.out) HBS.out.size) (fun _ hk => hk.2))
                  have X86 := Lib.hid (Kd.R_mono (Kd.R_elder T86.out ho hb) (fun _ hk => hk.2))
                  clear T86
                  clear ho
                  have X79 := Lib.hid (Kd.S_below T79.out hb)
                  clear T79
                  have t2_ := Lib.hid (HBS.out.trans (hb.mono HBS.out.size))
                  clear HBS hb
                  have HBS := t2_
                  clear t2_
                  have T79 := X79
                  clear X79
                  have T86 := X86
                  clear X86
                  have T80 := X80
                  clear X80
                  refine hK.out _ _ trivial (fun hHeld => ?_)
                  clear hK K
                  refine norm_ (a' := ?_) ?_ ?_
                  rotate_left
                  · show Act.put _ (some 80) _ = _
                    simp only [Act.put, List.setIfInBounds_toArray, List.set_cons_zero, List.set_cons_succ, i64_w, i32_w]
                    rfl
                  refine one_ (i := 7) (N := some 84) #[true, true, true, true, true, true, true, true, true, true, false, false, false, false, false, false, false, false] rfl rfl (one_of HT_.out (by kernel_rfl)) (by decide) (fun K hK => ?_)
                  refine Kd.R_append_rows_step (Kd.fixed CD w) (w0 := w15_) w15_.heap.size (by rfl) (.tmp 80) (.tmp 83) 22 23 (.slice none 0 0) 24 rfl Try.underlying22 info23 rfl Nat.one_pos (by omega) v80 ([] : List (List Int)) p A2 p.length c2 (fun k_ => some k_ ≠ v86.ownBlock) (fun _ => False) rfl rfl T80.out (Kd.C_below (d := Kd.fixed CD w) (w := w) HPC.out (HB.out.trans (HBS.out.mono HB.out.size))) (fun _ _ hk => hk) (fun _ hk => hk.elim) (Kd.fresh_ok T86.out) HBS.out HBS.out.size (by have := HPK.out; have := HLP.out; simp only [List.length_nil]; omega) ?_
                  intro v84 w24_ ho hbs hg_ hat_
                  rw [List.nil_append] at ho
                  have X84 := Lib.hid ho
                  have X79 := Lib.hid (Kd.S_over' T79.out (Kd.R_typed T80.out) (by decide) hg_)
                  clear T79
                  have X86 := Lib.hid (Kd.R_mono (Kd.R_after (ok := fun _ => True) (Kd.R_mono T86.out (fun _ hk => ⟨trivial, hk⟩)) hg_ hat_) (fun _ hk => hk.2))
                  clear T86
                  clear ho hg_ hat_ T80
                  have t2_ := Lib.hid hbs
                  clear HBS hbs
                  have HBS := t2_
                  clear t2_
                  have T79 := X79
                  clear X79
                  have T86 := X86
                  clear X86
                  have T84 := X84
                  clear X84
                  refine hK.out _ _ trivial (fun hHeld => ?_)
                  clear hK K
                  refine norm_ (a' := ?_) ?_ ?_
                  rotate_left
                  · show Act.put _ (some 84) _ = _
                    simp only [Act.put, List.setIfInBounds_toArray, List.set_cons_zero, List.set_cons_succ, i64_w, i32_w]
                    rfl
                  exact norm_ (by first | (simp only [putAll, Act.put, List.setIfInBounds_toArray, List.set_cons_zero, List.set_cons_succ]; done) | (simp only [putAll, Act.put, List.setIfInBounds_toArray, List.set_cons_zero, List.set_cons_succ]; rfl)) (hCont (v79, v80, v84, v86) _ ⟨T79.out, T84.out, T86.out, HBS.out⟩)
              · skip
                refine Kd.R_lit_step (Kd.fixed CD w) (w0 := w15_) w15_.heap.size 23 (by rfl) (N := 80) rfl (xs := ([] : List (List Int))) (inner := []) (ok := fun _ => True) (okp := fun _ => True) ?hr (Reps.none _ _) (fun _ hk => hk) trivial (Below.refl _ _) (Nat.le_refl _) (by simp) ?_
                (case hr => first | (go_simp; done) | (go_simp; rfl))
                intro v80 w25_ ho hb hg_ hat_
                clear hat_ hg_
                have X80 := Lib.hid (Kd.R_lower ho HBS.out.size)
                clear ho
                have t2_ := Lib.hid (HBS.out.trans (hb.mono HBS.out.size))
                clear HBS hb
                have HBS := t2_
                clear t2_
                have T80 := X80
                clear X80
                refine hK.out _ _ trivial (fun hHeld => ?_)
                clear hK K
                refine norm_ (a' := ?_) ?_ ?_
                rotate_left
                · show Act.put _ (some 80) _ = _
                  simp only [Act.put, List.setIfInBounds_toArray, List.set_cons_zero, List.set_cons_succ, i64_w, i32_w]
                  rfl
                refine two_ (i := 2) (j := 9) (Ni := some 79) (Nj := some 86) #[true, true, true, true, true, true, true, false, true, false, false, false, false, false, false, false, false, false] #[true, true, false, true, true, true, true, false, true, true, false, false, false, false, false, false, false, false] rfl rfl rfl rfl (two_of HT_.out (by kernel_rfl)) (by decide) (by decide) (fun K hK => ?_) (fun K hK => ?_)
                · skip
                  refine goes_ Try.func16 (by kernel_rfl) rfl #[.slice A1 l1.length c1] (by rfl) rfl rfl (by first | (go_simp; done) | (simp [Act.eval]; done)) ?_
                  refine (manciplelaw13_To.calls 2000 A1 c1 l1 l1 _ (Kd.C_below HR1.out (HB.out.trans (HBS.out.mono HB.out.size))) HC1.out HTO.out).mono ?_
                  rintro e w26_ ⟨v79, rfl, hs, hb⟩
                  refine ⟨_, rfl, ?_⟩
                  have X79 := Lib.hid (Kd.S_lower hs HBS.out.size)
                  clear hs
                  have X80 := Lib.hid (Kd.R_below T80.out hb)
                  clear T80
                  have t2_ := Lib.hid (HBS.out.trans (hb.mono HBS.out.size))
                  clear HBS hb
                  have HBS := t2_
                  clear t2_
                  have T80 := X80
                  clear X80
                  have T79 := X79
                  clear X79
                  refine hK.out _ _ trivial (fun hHeld => ?_)
                  clear hK K
                  refine norm_ (a' := ?_) ?_ ?_
                  rotate_left
                  · show Act.put _ (some 79) _ = _
                    simp only [Act.put, List.setIfInBounds_toArray, List.set_cons_zero, List.set_cons_succ, i64_w, i32_w]
                    rfl
                  refine two_ (i := 7) (j := 9) (Ni := some 84) (Nj := some 86) #[true, true, true, true, true, true, true, true, true, false, false, false, false, false, false, false, false, false] #[true, true, true, true, true, true, true, false, true, true, false, false, false, false, false, false, false, false] rfl rfl rfl rfl (two_of HT_.out (by kernel_rfl)) (by decide) (by decide) (fun K hK => ?_) (fun K hK => ?_)
                  · skip
                    refine Kd.R_append_rows_step (Kd.fixed CD w) (w0 := w15_) w15_.heap.size (by rfl) (.tmp 80) (.tmp 83) 22 23 (.slice none 0 0) 24 rfl Try.underlying22 info23 rfl Nat.one_pos (by omega) v80 ([] : List (List Int)) p A2 p.length c2 (fun _ => True) (fun _ => False) rfl rfl T80.out (Kd.C_below (d := Kd.fixed CD w) (w := w) HPC.out (HB.out.trans (HBS.out.mono HB.out.size))) (fun _ _ hk => hk) (fun _ hk => hk.elim) (fun _ _ => trivial) HBS.out HBS.out.size (by have := HPK.out; have := HLP.out; simp only [List.length_nil]; omega) ?_
                    intro v84 w27_ ho hbs hg_ hat_
                    rw [List.nil_append] at ho
                    have X84 := Lib.hid ho
                    have X79 := Lib.hid (Kd.S_over' T79.out (Kd.R_typed T80.out) (by decide) hg_)
                    clear T79
                    clear ho hg_ hat_ T80
                    have t2_ := Lib.hid hbs
                    clear HBS hbs
                    have HBS := t2_
                    clear t2_
                    have T79 := X79
                    clear X79
                    have T84 := X84
                    clear X84
                    refine hK.out _ _ trivial (fun hHeld => ?_)
                    clear hK K
                    refine norm_ (a' := ?_) ?_ ?_
                    rotate_left
                    · show Act.put _ (some 84) _ = _
                      simp only [Act.put, List.setIfInBounds_toArray, List.set_cons_zero, List.set_cons_succ, i64_w, i32_w]
                      rfl
                    refine one_ (i := 9) (N := some 86) #[true, true, true, true, true, true, true, true, true, true, false, false, false, false, false, false, false, false] rfl rfl (one_of HT_.out (by kernel_rfl)) (by decide) (fun K hK => ?_)
                    refine Kd.R_lit_step (Kd.fixed CD w) (w0 := w27_) w27_.heap.size 23 (by rfl) (N := 86) rfl (xs := ([c] : List (List Int))) (inner := [.slice A4 c.length c4]) (ok := fun _ => True) (okp := fun _ => True) ?hr (Reps.one (show Kd.M (Kd.fixed CD w) _ _ _ c [.slice A4 c.length c4] from ⟨A4, c4, rfl, HC4.out, HR4.out⟩) (Reps.none _ _)) (fun _ hk => hk) trivial (Below.refl _ _) (Nat.le_refl _) (by simp) ?_
                    (case hr => first | (go_simp; done) | (go_simp; rfl))
                    intro v86 w28_ ho hb hg_ hat_
                    clear hat_ hg_
                    have X86 := Lib.hid (Kd.R_mono (Kd.R_lower (Kd.R_newR ho T84.out) HBS.out.size) (fun _ hk => hk.2))
                    have X84 := Lib.hid (Kd.R_mono (Kd.R_elder T84.out ho hb) (fun _ hk => hk.2))
                    clear T84
                    clear ho
                    have X79 := Lib.hid (Kd.S_below T79.out hb)
                    clear T79
                    have t2_ := Lib.hid (HBS.out.trans (hb.mono HBS.out.size))
                    clear HBS hb
                    have HBS := t2_
                    clear t2_
                    have T79 := X79
                    clear X79
                    have T84 := X84
                    clear X84
                    have T86 := X86
                    clear X86
                    refine hK.out _ _ trivial (fun hHeld => ?_)
                    clear hK K
                    refine norm_ (a' := ?_) ?_ ?_
                    rotate_left
                    · show Act.put _ (some 86) _ = _
                      simp only [Act.put, List.setIfInBounds_toArray, List.set_cons_zero, List.set_cons_succ, i64_w, i32_w]
                      rfl
                    exact norm_ (by first | (simp only [putAll, Act.put, List.setIfInBounds_toArray, List.set_cons_zero, List.set_cons_succ]; done) | (simp only [putAll, Act.put, List.setIfInBounds_toArray, List.set_cons_zero, List.set_cons_succ]; rfl)) (hCont (v79, v80, v84, v86) _ ⟨T79.out, T84.out, T86.out, HBS.out⟩)
                  · skip
                    refine Kd.R_lit_step (Kd.fixed CD w) (w0 := w26_) w26_.heap.size 23 (by rfl) (N := 86) rfl (xs := ([c] : List (List Int))) (inner := [.slice A4 c.length c4]) (ok := fun _ => True) (okp := fun _ => True) ?hr (Reps.one (show Kd.M (Kd.fixed CD w) _ _ _ c [.slice A4 c.length c4] from ⟨A4, c4, rfl, HC4.out, HR4.out⟩) (Reps.none _ _)) (fun _ hk => hk) trivial (Below.refl _ _) (Nat.le_refl _) (by simp) ?_
                    (case hr => first | (go_simp; done) | (go_simp; rfl))
                    intro v86 w29_ ho hb hg_ hat_
                    clear hat_ hg_
                    have X86 := Lib.hid (Kd.R_mono (Kd.R_lower (Kd.R_newR ho T80.out) HBS.out.size) (fun _ hk => hk.2))
                    have X80 := Lib.hid (Kd.R_mono (Kd.R_elder T80.out ho hb) (fun _ hk => hk.2))
                    clear T80
                    clear ho
                    have X79 := Lib.hid (Kd.S_below T79.out hb)
                    clear T79
                    have t2_ := Lib.hid (HBS.out.trans (hb.mono HBS.out.size))
                    clear HBS hb
                    have HBS := t2_
                    clear t2_
                    have T80 := X80
                    clear X80
                    have T79 := X79
                    clear X79
                    have T86 := X86
                    clear X86
                    refine hK.out _ _ trivial (fun hHeld => ?_)
                    clear hK K
                    refine norm_ (a' := ?_) ?_ ?_
                    rotate_left
                    · show Act.put _ (some 86) _ = _
                      simp only [Act.put, List.setIfInBounds_toArray, List.set_cons_zero, List.set_cons_succ, i64_w, i32_w]
                      rfl
                    refine one_ (i := 7) (N := some 84) #[true, true, true, true, true, true, true, true, true, true, false, false, false, false, false, false, false, false] rfl rfl (one_of HT_.out (by kernel_rfl)) (by decide) (fun K hK => ?_)
                    refine Kd.R_append_rows_step (Kd.fixed CD w) (w0 := w15_) w15_.heap.size (by rfl) (.tmp 80) (.tmp 83) 22 23 (.slice none 0 0) 24 rfl Try.underlying22 info23 rfl Nat.one_pos (by omega) v80 ([] : List (List Int)) p A2 p.length c2 (fun k_ => some k_ ≠ v86.ownBlock) (fun _ => False) rfl rfl T80.out (Kd.C_below (d := Kd.fixed CD w) (w := w) HPC.out (HB.out.trans (HBS.out.mono HB.out.size))) (fun _ _ hk => hk) (fun _ hk => hk.elim) (Kd.fresh_ok T86.out) HBS.out HBS.out.size (by have := HPK.out; have := HLP.out; simp only [List.length_nil]; omega) ?_
                    intro v84 w30_ ho hbs hg_ hat_
                    rw [List.nil_append] at ho
                    have X84 := Lib.hid ho
                    have X79 := Lib.hid (Kd.S_over' T79.out (Kd.R_typed T80.out) (by decide) hg_)
                    clear T79
                    have X86 := Lib.hid (Kd.R_mono (Kd.R_after (ok := fun _ => True) (Kd.R_mono T86.out (fun _ hk => ⟨trivial, hk⟩)) hg_ hat_) (fun _ hk => hk.2))
                    clear T86
                    clear ho hg_ hat_ T80
                    have t2_ := Lib.hid hbs
                    clear HBS hbs
                    have HBS := t2_
                    clear t2_
                    have T79 := X79
                    clear X79
                    have T86 := X86
                    clear X86
                    have T84 := X84
                    clear X84
                    refine hK.out _ _ trivial (fun hHeld => ?_)
                    clear hK K
                    refine norm_ (a' := ?_) ?_ ?_
                    rotate_left
                    · show Act.put _ (some 84) _ = _
                      simp only [Act.put, List.setIfInBounds_toArray, List.set_cons_zero, List.set_cons_succ, i64_w, i32_w]
                      rfl
                    exact norm_ (by first | (simp only [putAll, Act.put, List.setIfInBounds_toArray, List.set_cons_zero, List.set_cons_succ]; done) | (simp only [putAll, Act.put, List.setIfInBounds_toArray, List.set_cons_zero, List.set_cons_succ]; rfl)) (hCont (v79, v80, v84, v86) _ ⟨T79.out, T84.out, T86.out, HBS.out⟩)
                · skip
                  refine Kd.R_lit_step (Kd.fixed CD w) (w0 := w25_) w25_.heap.size 23 (by rfl) (N := 86) rfl (xs := ([c] : List (List Int))) (inner := [.slice A4 c.length c4]) (ok := fun _ => True) (okp := fun _ => True) ?hr (Reps.one (show Kd.M (Kd.fixed CD w) _ _ _ c [.slice A4 c.length c4] from ⟨A4, c4, rfl, HC4.out, HR4.out⟩) (Reps.none _ _)) (fun _ hk => hk) trivial (Below.refl _ _) (Nat.le_refl _) (by simp) ?_
                  (case hr => first | (go_simp; done) | (go_simp; rfl))
                  intro v86 w31_ ho hb hg_ hat_
                  clear hat_ hg_
                  have X86 := Lib.hid (Kd.R_mono (Kd.R_lower (Kd.R_newR ho T80.out) HBS.out.size) (fun _ hk => hk.2))
                  have X80 := Lib.hid (Kd.R_mono (Kd.R_elder T80.out ho hb) (fun _ hk => hk.2))
                  clear T80
                  clear ho
                  have t2_ := Lib.hid (HBS.out.trans (hb.mono HBS.out.size))
                  clear HBS hb
                  have HBS := t2_
                  clear t2_
                  have T80 := X80
                  clear X80
                  have T86 := X86
                  clear X86
                  refine hK.out _ _ trivial (fun hHeld => ?_)
                  clear hK K
                  refine norm_ (a' := ?_) ?_ ?_
                  rotate_left
                  · show Act.put _ (some 86) _ = _
                    simp only [Act.put, List.setIfInBounds_toArray, List.set_cons_zero, List.set_cons_succ, i64_w, i32_w]
                    rfl
                  refine one_ (i := 2) (N := some 79) #[true, true, true, true, true, true, true, false, true, true, false, false, false, false, false, false, false, false] rfl rfl (one_of HT_.out (by kernel_rfl)) (by decide) (fun K hK => ?_)
                  refine goes_ Try.func16 (by kernel_rfl) rfl #[.slice A1 l1.length c1] (by rfl) rfl rfl (by first | (go_simp; done) | (simp [Act.eval]; done)) ?_
                  refine (manciplelaw13_To.calls 2000 A1 c1 l1 l1 _ (Kd.C_below HR1.out (HB.out.trans (HBS.out.mono HB.out.size))) HC1.out HTO.out).mono ?_
                  rintro e w32_ ⟨v79, rfl, hs, hb⟩
                  refine ⟨_, rfl, ?_⟩
                  have X79 := Lib.hid (Kd.S_lower hs HBS.out.size)
                  clear hs
                  have X80 := Lib.hid (Kd.R_below T80.out hb)
                  clear T80
                  have X86 := Lib.hid (Kd.R_below T86.out hb)
                  clear T86
                  have t2_ := Lib.hid (HBS.out.trans (hb.mono HBS.out.size))
                  clear HBS hb
                  have HBS := t2_
                  clear t2_
                  have T80 := X80
                  clear X80
                  have T86 := X86
                  clear X86
                  have T79 := X79
                  clear X79
                  refine hK.out _ _ trivial (fun hHeld => ?_)
                  clear hK K
                  refine norm_ (a' := ?_) ?_ ?_
                  rotate_left
                  · show Act.put _ (some 79) _ = _
                    simp only [Act.put, List.setIfInBounds_toArray, List.set_cons_zero, List.set_cons_succ, i64_w, i32_w]
                    rfl
                  refine one_ (i := 7) (N := some 84) #[true, true, true, true, true, true, true, true, true, true, false, false, false, false, false, false, false, false] rfl rfl (one_of HT_.out (by kernel_rfl)) (by decide) (fun K hK => ?_)
                  refine Kd.R_append_rows_step (Kd.fixed CD w) (w0 := w15_) w15_.heap.size (by rfl) (.tmp 80) (.tmp 83) 22 23 (.slice none 0 0) 24 rfl Try.underlying22 info23 rfl Nat.one_pos (by omega) v80 ([] : List (List Int)) p A2 p.length c2 (fun k_ => some k_ ≠ v86.ownBlock) (fun _ => False) rfl rfl T80.out (Kd.C_below (d := Kd.fixed CD w) (w := w) HPC.out (HB.out.trans (HBS.out.mono HB.out.size))) (fun _ _ hk => hk) (fun _ hk => hk.elim) (Kd.fresh_ok T86.out) HBS.out HBS.out.size (by have := HPK.out; have := HLP.out; simp only [List.length_nil]; omega) ?_
                  intro v84 w33_ ho hbs hg_ hat_
                  rw [List.nil_append] at ho
                  have X84 := Lib.hid ho
                  have X79 := Lib.hid (Kd.S_over' T79.out (Kd.R_typed T80.out) (by decide) hg_)
                  clear T79
                  have X86 := Lib.hid (Kd.R_mono (Kd.R_after (ok := fun _ => True) (Kd.R_mono T86.out (fun _ hk => ⟨trivial, hk⟩)) hg_ hat_) (fun _ hk => hk.2))
                  clear T86
                  clear ho hg_ hat_ T80
                  have t2_ := Lib.hid hbs
                  clear HBS hbs
                  have HBS := t2_
                  clear t2_
                  have T86 := X86
                  clear X86
                  have T79 := X79
                  clear X79
                  have T84 := X84
                  clear X84
                  refine hK.out _ _ trivial (fun hHeld => ?_)
                  clear hK K
                  refine norm_ (a' := ?_) ?_ ?_
                  rotate_left
                  · show Act.put _ (some 84) _ = _
                    simp only [Act.put, List.setIfInBounds_toArray, List.set_cons_zero, List.set_cons_succ, i64_w, i32_w]
                    rfl
                  exact norm_ (by first | (simp only [putAll, Act.put, List.setIfInBounds_toArray, List.set_cons_zero, List.set_cons_succ]; done) | (simp only [putAll, Act.put, List.setIfInBounds_toArray, List.set_cons_zero, List.set_cons_succ]; rfl)) (hCont (v79, v80, v84, v86) _ ⟨T79.out, T84.out, T86.out, HBS.out⟩)
              · skip
                refine Kd.R_lit_step (Kd.fixed CD w) (w0 := w15_) w15_.heap.size 23 (by rfl) (N := 86) rfl (xs := ([c] : List (List Int))) (inner := [.slice A4 c.length c4]) (ok := fun _ => True) (okp := fun _ => True) ?hr (Reps.one (show Kd.M (Kd.fixed CD w) _ _ _ c [.slice A4 c.length c4] from ⟨A4, c4, rfl, HC4.out, HR4.out⟩) (Reps.none _ _)) (fun _ hk => hk) trivial (Below.refl _ _) (Nat.le_refl _) (by simp) ?_
                (case hr => first | (go_simp; done) | (go_simp; rfl))
                intro v86 w34_ ho hb hg_ hat_
                clear hat_ hg_
                have X86 := Lib.hid (Kd.R_lower ho HBS.out.size)
                clear ho
                have t2_ := Lib.hid (HBS.out.trans (hb.mono HBS.out.size))
                clear HBS hb
                have HBS := t2_
                clear t2_
                have T86 := X86
                clear X86
                refine hK.out _ _ trivial (fun hHeld => ?_)
                clear hK K
                refine norm_ (a' := ?_) ?_ ?_
                rotate_left
                · show Act.put _ (some 86) _ = _
                  simp only [Act.put, List.setIfInBounds_toArray, List.set_cons_zero, List.set_cons_succ, i64_w, i32_w]
                  rfl
                refine two_ (i := 2) (j := 3) (Ni := some 79) (Nj := some 80) #[true, true, true, false, true, true, true, false, true, true, false, false, false, false, false, false, false, false] #[true, true, false, true, true, true, true, false, true, true, false, false, false, false, false, false, false, false] rfl rfl rfl rfl (two_of HT_.out (by kernel_rfl)) (by decide) (by decide) (fun K hK => ?_) (fun K hK => ?_)
                · skip
                  refine goes_ Try.func16 (by kernel_rfl) rfl #[.slice A1 l1.length c1] (by rfl) rfl rfl (by first | (go_simp; done) | (simp [Act.eval]; done)) ?_
                  refine (manciplelaw13_To.calls 2000 A1 c1 l1 l1 _ (Kd.C_below HR1.out (HB.out.trans (HBS.out.mono HB.out.size))) HC1.out HTO.out).mono ?_
                  rintro e w35_ ⟨v79, rfl, hs, hb⟩
                  refine ⟨_, rfl, ?_⟩
                  have X79 := Lib.hid (Kd.S_lower hs HBS.out.size)
                  clear hs
                  have X86 := Lib.hid (Kd.R_below T86.out hb)
                  clear T86
                  have t2_ := Lib.hid (HBS.out.trans (hb.mono HBS.out.size))
                  clear HBS hb
                  have HBS := t2_
                  clear t2_
                  have T86 := X86
                  clear X86
                  have T79 := X79
                  clear X79
                  refine hK.out _ _ trivial (fun hHeld => ?_)
                  clear hK K
                  refine norm_ (a' := ?_) ?_ ?_
                  rotate_left
                  · show Act.put _ (some 79) _ = _
                    simp only [Act.put, List.setIfInBounds_toArray, List.set_cons_zero, List.set_cons_succ, i64_w, i32_w]
                    rfl
                  refine one_ (i := 3) (N := some 80) #[true, true, true, true, true, true, true, false, true, true, false, false, false, false, false, false, false, false] rfl rfl (one_of HT_.out (by kernel_rfl)) (by decide) (fun K hK => ?_)
                  refine Kd.R_lit_step (Kd.fixed CD w) (w0 := w35_) w35_.heap.size 23 (by rfl) (N := 80) rfl (xs := ([] : List (List Int))) (inner := []) (ok := fun _ => True) (okp := fun _ => True) ?hr (Reps.none _ _) (fun _ hk => hk) trivial (Below.refl _ _) (Nat.le_refl _) (by simp) ?_
                  (case hr => first | (go_simp; done) | (go_simp; rfl))
                  intro v80 w36_ ho hb hg_ hat_
                  clear hat_ hg_
                  have X80 := Lib.hid (Kd.R_mono (Kd.R_lower (Kd.R_newR ho T86.out) HBS.out.size) (fun _ hk => hk.2))
                  have X86 := Lib.hid (Kd.R_mono (Kd.R_elder T86.out ho hb) (fun _ hk => hk.2))
                  clear T86
                  clear ho
                  have X79 := Lib.hid (Kd.S_below T79.out hb)
                  clear T79
                  have t2_ := Lib.hid (HBS.out.trans (hb.mono HBS.out.size))
                  clear HBS hb
                  have HBS := t2_
                  clear t2_
                  have T86 := X86
                  clear X86
                  have T79 := X79
                  clear X79
                  have T80 := X80
                  clear X80
                  refine hK.out _ _ trivial (fun hHeld => ?_)
                  clear hK K
                  refine norm_ (a' := ?_) ?_ ?_
                  rotate_left
                  · show Act.put _ (some 80) _ = _
                    simp only [Act.put, List.setIfInBounds_toArray, List.set_cons_zero, List.set_cons_succ, i64_w, i32_w]
                    rfl
                  refine one_ (i := 7) (N := some 84) #[true, true, true, true, true, true, true, true, true, true, false, false, false, false, false, false, false, false] rfl rfl (one_of HT_.out (by kernel_rfl)) (by decide) (fun K hK => ?_)
                  refine Kd.R_append_rows_step (Kd.fixed CD w) (w0 := w15_) w15_.heap.size (by rfl) (.tmp 80) (.tmp 83) 22 23 (.slice none 0 0) 24 rfl Try.underlying22 info23 rfl Nat.one_pos (by omega) v80 ([] : List (List Int)) p A2 p.length c2 (fun k_ => some k_ ≠ v86.ownBlock) (fun _ => False) rfl rfl T80.out (Kd.C_below (d := Kd.fixed CD w) (w := w) HPC.out (HB.out.trans (HBS.out.mono HB.out.size))) (fun _ _ hk => hk) (fun _ hk => hk.elim) (Kd.fresh_ok T86.out) HBS.out HBS.out.size (by have := HPK.out; have := HLP.out; simp only [List.length_nil]; omega) ?_
                  intro v84 w37_ ho hbs hg_ hat_
                  rw [List.nil_append] at ho
                  have X84 := Lib.hid ho
                  have X79 := Lib.hid (Kd.S_over' T79.out (Kd.R_typed T80.out) (by decide) hg_)
                  clear T79
                  have X86 := Lib.hid (Kd.R_mono (Kd.R_after (ok := fun _ => True) (Kd.R_mono T86.out (fun _ hk => ⟨trivial, hk⟩)) hg_ hat_) (fun _ hk => hk.2))
                  clear T86
                  clear ho hg_ hat_ T80
                  have t2_ := Lib.hid hbs
                  clear HBS hbs
                  have HBS := t2_
                  clear t2_
                  have T86 := X86
                  clear X86
                  have T79 := X79
                  clear X79
                  have T84 := X84
                  clear X84
                  refine hK.out _ _ trivial (fun hHeld => ?_)
                  clear hK K
                  refine norm_ (a' := ?_) ?_ ?_
                  rotate_left
                  · show Act.put _ (some 84) _ = _
                    simp only [Act.put, List.setIfInBounds_toArray, List.set_cons_zero, List.set_cons_succ, i64_w, i32_w]
                    rfl
                  exact norm_ (by first | (simp only [putAll, Act.put, List.setIfInBounds_toArray, List.set_cons_zero, List.set_cons_succ]; done) | (simp only [putAll, Act.put, List.setIfInBounds_toArray, List.set_cons_zero, List.set_cons_succ]; rfl)) (hCont (v79, v80, v84, v86) _ ⟨T79.out, T84.out, T86.out, HBS.out⟩)
                · skip
                  refine Kd.R_lit_step (Kd.fixed CD w) (w0 := w34_) w34_.heap.size 23 (by rfl) (N := 80) rfl (xs := ([] : List (List Int))) (inner := []) (ok := fun _ => True) (okp := fun _ => True) ?hr (Reps.none _ _) (fun _ hk => hk) trivial (Below.refl _ _) (Nat.le_refl _) (by simp) ?_
                  (case hr => first | (go_simp; done) | (go_simp; rfl))
                  intro v80 w38_ ho hb hg_ hat_
                  clear hat_ hg_
                  have X80 := Lib.hid (Kd.R_mono (Kd.R_lower (Kd.R_newR ho T86.out) HBS.out.size) (fun _ hk => hk.2))
                  have X86 := Lib.hid (Kd.R_mono (Kd.R_elder T86.out ho hb) (fun _ hk => hk.2))
                  clear T86
                  clear ho
                  have t2_ := Lib.hid (HBS.out.trans (hb.mono HBS.out.size))
                  clear HBS hb
                  have HBS := t2_
                  clear t2_
                  have T86 := X86
                  clear X86
                  have T80 := X80
                  clear X80
                  refine hK.out _ _ trivial (fun hHeld => ?_)
                  clear hK K
                  refine norm_ (a' := ?_) ?_ ?_
                  rotate_left
                  · show Act.put _ (some 80) _ = _
                    simp only [Act.put, List.setIfInBounds_toArray, List.set_cons_zero, List.set_cons_succ, i64_w, i32_w]
                    rfl
                  refine one_ (i := 2) (N := some 79) #[true, true, true, true, true, true, true, false, true, true, false, false, false, false, false, false, false, false] rfl rfl (one_of HT_.out (by kernel_rfl)) (by decide) (fun K hK => ?_)
                  refine goes_ Try.func16 (by kernel_rfl) rfl #[.slice A1 l1.length c1] (by rfl) rfl rfl (by first | (go_simp; done) | (simp [Act.eval]; done)) ?_
                  refine (manciplelaw13_To.calls 2000 A1 c1 l1 l1 _ (Kd.C_below HR1.out (HB.out.trans (HBS.out.mono HB.out.size))) HC1.out HTO.out).mono ?_
                  rintro e w39_ ⟨v79, rfl, hs, hb⟩
                  refine ⟨_, rfl, ?_⟩
                  have X79 := Lib.hid (Kd.S_lower hs HBS.out.size)
                  clear hs
                  have X80 := Lib.hid (Kd.R_below T80.out hb)
                  clear T80
                  have X86 := Lib.hid (Kd.R_below T86.out hb)
                  clear T86
                  have t2_ := Lib.hid (HBS.out.trans (hb.mono HBS.out.size))
                  clear HBS hb
                  have HBS := t2_
                  clear t2_
                  have T86 := X86
                  clear X86
                  have T80 := X80
                  clear X80
                  have T79 := X79
                  clear X79
                  refine hK.out _ _ trivial (fun hHeld => ?_)
                  clear hK K
                  refine norm_ (a' := ?_) ?_ ?_
                  rotate_left
                  · show Act.put _ (some 79) _ = _
                    simp only [Act.put, List.setIfInBounds_toArray, List.set_cons_zero, List.set_cons_succ, i64_w, i32_w]
                    rfl
                  refine one_ (i := 7) (N := some 84) #[true, true, true, true, true, true, true, true, true, true, false, false, false, false, false, false, false, false] rfl rfl (one_of HT_.out (by kernel_rfl)) (by decide) (fun K hK => ?_)
                  refine Kd.R_append_rows_step (Kd.fixed CD w) (w0 := w15_) w15_.heap.size (by rfl) (.tmp 80) (.tmp 83) 22 23 (.slice none 0 0) 24 rfl Try.underlying22 info23 rfl Nat.one_pos (by omega) v80 ([] : List (List Int)) p A2 p.length c2 (fun k_ => some k_ ≠ v86.ownBlock) (fun _ => False) rfl rfl T80.out (Kd.C_below (d := Kd.fixed CD w) (w := w) HPC.out (HB.out.trans (HBS.out.mono HB.out.size))) (fun _ _ hk => hk) (fun _ hk => hk.elim) (Kd.fresh_ok T86.out) HBS.out HBS.out.size (by have := HPK.out; have := HLP.out; simp only [List.length_nil]; omega) ?_
                  intro v84 w40_ ho hbs hg_ hat_
                  rw [List.nil_append] at ho
                  have X84 := Lib.hid ho
                  have X79 := Lib.hid (Kd.S_over' T79.out (Kd.R_typed T80.out) (by decide) hg_)
                  clear T79
                  have X86 := Lib.hid (Kd.R_mono (Kd.R_after (ok := fun _ => True) (Kd.R_mono T86.out (fun _ hk => ⟨trivial, hk⟩)) hg_ hat_) (fun _ hk => hk.2))
                  clear T86
                  clear ho hg_ hat_ T80
                  have t2_ := Lib.hid hbs
                  clear HBS hbs
                  have HBS := t2_
                  clear t2_
                  have T86 := X86
                  clear X86
                  have T79 := X79
                  clear X79
                  have T84 := X84
                  clear X84
                  refine hK.out _ _ trivial (fun hHeld => ?_)
                  clear hK K
                  refine norm_ (a' := ?_) ?_ ?_
                  rotate_left
                  · show Act.put _ (some 84) _ = _
                    simp only [Act.put, List.setIfInBounds_toArray, List.set_cons_zero, List.set_cons_succ, i64_w, i32_w]
                    rfl
                  exact norm_ (by first | (simp only [putAll, Act.put, List.setIfInBounds_toArray, List.set_cons_zero, List.set_cons_succ]; done) | (simp only [putAll, Act.put, List.setIfInBounds_toArray, List.set_cons_zero, List.set_cons_succ]; rfl)) (hCont (v79, v80, v84, v86) _ ⟨T79.out, T84.out, T86.out, HBS.out⟩)
            rintro ⟨v79, v80, v84, v86⟩ w41_ ⟨h79, h84, h86, hbs⟩
            dsimp only at h79 h84 h86
            clear HBS
            have HBS := Lib.hid hbs
            have T79 := Lib.hid h79
            have HO := Lib.hid (Kd.R_mono (ok' := fun _ => True) h84 (fun _ _ => trivial))
            obtain ⟨A86, c86, rfl, l86, h86'⟩ := Kd.R_reads h86
            have H86 := Lib.hid (And.intro l86 h86')
            clear h79 h84 h86 hbs l86 h86'
            refine norm_ (a' := ?_) ?_ ?_
            rotate_left
            · simp only [putAll, Act.put, List.setIfInBounds_toArray, List.set_cons_zero, List.set_cons_succ]
              rfl
            refine one_ (i := 10) (N := some 87) #[true, true, true, true, true, true, true, true, true, true, true, false, false, false, false, false, false, false] rfl rfl (one_of HT_.out (by kernel_rfl)) (by decide) (fun K hK => ?_)
            obtain ⟨d, hd⟩ : ∃ d, p ++ [c] = d := ⟨_, rfl⟩
            have HDL := Lib.hid hd
            clear hd
            refine Kd.R_append_rows_step (Kd.fixed CD w) (w0 := w15_) w15_.heap.size (by rfl) (.tmp 84) (.tmp 86) 22 23 (.slice none 0 0) 24 rfl Try.underlying22 info23 rfl Nat.one_pos (by omega) v84 p [c] A86 1 c86 (fun _ => True) (fun _ => False) rfl rfl HO.out H86.out.2 (fun _ _ hk => hk) (fun _ hk => hk.elim) (fun _ _ => trivial) HBS.out HBS.out.size (by have := HPK.out; have := HLP.out; omega) ?_
            intro v87 w42_ ho hbs hg_ hat_
            have X79 := Lib.hid (Kd.S_over' T79.out (Kd.R_typed HO.out) (by decide) hg_)
            clear T79 HBS HO H86 hg_ hat_
            have T79 := X79
            have HBS := Lib.hid hbs
            rw [HDL.out] at ho
            obtain ⟨A87, c87, rfl, l87, h87⟩ := Kd.R_reads ho
            have H87 := Lib.hid (And.intro l87 (C_now (HB.out.trans (HBS.out.mono HB.out.size)) h87))
            clear X79 ho hbs l87 h87
            have t1_ := Lib.hid (And.intro H16.out.1 (Kd.C_below H16.out.2 HBS.out))
            have t2_ := Lib.hid (HB.out.trans (HBS.out.mono HB.out.size))
            clear H16 HB HBS
            have H16 := t1_
            have HB := t2_
            clear t1_ t2_
            obtain ⟨A79, c79, rfl, l79, h79⟩ := Kd.S_reads T79.out
            have H79 := Lib.hid (And.intro l79 h79)
            clear T79 l79 h79
            refine hK.out _ _ trivial (fun hHeld => ?_)
            clear hK K
            refine norm_ (a' := ?_) ?_ ?_
            rotate_left
            · show Act.put _ (some 87) _ = _
              simp only [Act.put, List.setIfInBounds_toArray, List.set_cons_zero, List.set_cons_succ, i64_w, i32_w]
              rfl
            refine one_ (i := 11) (N := some 88) #[true, true, true, true, true, true, true, true, true, true, true, true, false, false, false, false, false, false] rfl rfl (one_of HT_.out (by kernel_rfl)) (by decide) (fun K hK => ?_)
            refine goes_ Try.func16 (by kernel_rfl) rfl #[.slice A87 d.length c87] (by rfl) rfl rfl (by first | (go_simp; done) | (simp [Act.eval]; done)) ?_
            refine (manciplelaw13_To.calls 2000 A87 c87 d d _ H87.out.2 H87.out.1 (by rw [← HDL.out]; exact HTX.out)).mono ?_
            rintro e w43_ ⟨v_, rfl, hs, hb⟩
            refine ⟨_, rfl, ?_⟩
            obtain ⟨A88, c88, rfl, ha_, hb_⟩ := Kd.S_reads hs
            have H88 := Lib.hid (And.intro ha_ hb_)
            clear ha_ hb_ hs
            have t_ := Lib.hid (And.intro H16.out.1 (Kd.C_below H16.out.2 hb)); clear H16; have H16 := t_; clear t_; have t_ := Lib.hid (And.intro H79.out.1 (Kd.C_below H79.out.2 hb)); clear H79; have H79 := t_; clear t_; have t_ := Lib.hid (And.intro H87.out.1 (Kd.C_below H87.out.2 hb)); clear H87; have H87 := t_; clear t_; have t_ := Lib.hid (HB.out.trans (hb.mono HB.out.size)); clear HB; have HB := t_; clear t_ hb
            refine hK.out _ _ trivial (fun hHeld => ?_)
            clear hK K
            refine norm_ (a' := ?_) ?_ ?_
            rotate_left
            · show Act.put _ (some 88) _ = _
              simp only [Act.put, List.setIfInBounds_toArray, List.set_cons_zero, List.set_cons_succ, i64_w, i32_w]
              rfl
            clear H87
            refine one_ (i := 12) (N := some 89) #[true, true, true, true, true, true, true, true, true, true, true, true, true, false, false, false, false, false] rfl rfl (one_of HT_.out (by kernel_rfl)) (by decide) (fun K hK => ?_)
            refine goes_ Try.func27 (by kernel_rfl) rfl #[.int .i64 n, .slice A79 l1.length c79, .slice A88 d.length c88] (by rfl) rfl rfl (by first | (go_simp; done) | (simp [Act.eval]; done)) ?_
            refine (rup_Check.calls n A79 c79 l1 A88 c88 d a2 e2 _ H79.out.2 H79.out.1 H88.out.2 H88.out.1 (by rw [← HDL.out]; exact HK2.out)).mono ?_
            rintro e w44_ ⟨rfl, hb⟩
            refine ⟨_, rfl, ?_⟩
            have t_ := Lib.hid (And.intro H16.out.1 (Kd.C_below H16.out.2 hb)); clear H16; have H16 := t_; clear t_; have t_ := Lib.hid (And.intro H79.out.1 (Kd.C_below H79.out.2 hb)); clear H79; have H79 := t_; clear t_; have t_ := Lib.hid (And.intro H88.out.1 (Kd.C_below H88.out.2 hb)); clear H88; have H88 := t_; clear t_; have t_ := Lib.hid (HB.out.trans (hb.mono HB.out.size)); clear HB; have HB := t_; clear t_ hb
            clear H79 H88
            refine hK.out _ _ trivial (fun hHeld => ?_)
            clear hK K
            refine norm_ (a' := ?_) ?_ ?_
            rotate_left
            · show Act.put _ (some 89) _ = _
              simp only [Act.put, List.setIfInBounds_toArray, List.set_cons_zero, List.set_cons_succ, i64_w, i32_w]
              rfl
            refine pure_ (i := 13) (N := some 76) (v := ?_) (a' := ?_) #[true, true, true, true, true, true, true, true, true, true, true, true, true, true, false, false, false, false] rfl rfl (any_of HT_.out (by kernel_rfl)) (fun _ _ _ h => h) (Or.inl ⟨by rfl, ?_⟩) ?_ ?_
            rotate_left
            · intro w'
              go_simp
              with_reducible rfl
            rotate_left
            · simp only [Act.put, List.setIfInBounds_toArray, List.set_cons_zero, List.set_cons_succ, i64_w, i32_w]
              rfl
            refine pure_ (i := 14) (N := some 90) (v := ?_) (a' := ?_) #[true, true, true, true, true, true, true, true, true, true, true, true, true, true, true, false, false, false] rfl rfl (any_of HT_.out (by kernel_rfl)) (fun _ _ _ h => h) (Or.inl ⟨by rfl, ?_⟩) ?_ ?_
            rotate_left
            · intro w'
              go_simp
              with_reducible rfl
            rotate_left
            · simp only [Act.put, List.setIfInBounds_toArray, List.set_cons_zero, List.set_cons_succ, i64_w, i32_w]
              rfl
            refine pure_ (i := 15) (N := some 91) (v := ?_) (a' := ?_) #[true, true, true, true, true, true, true, true, true, true, true, true, true, true, true, true, false, false] rfl rfl (any_of HT_.out (by kernel_rfl)) (fun _ _ _ h => h) (Or.inl ⟨by rfl, ?_⟩) ?_ ?_
            rotate_left
            · intro w'
              go_simp
              with_reducible rfl
            rotate_left
            · simp only [Act.put, List.setIfInBounds_toArray, List.set_cons_zero, List.set_cons_succ, i64_w, i32_w]
              rfl
            refine pure_ (i := 16) (N := some 17) (v := ?_) (a' := ?_) #[true, true, true, true, true, true, true, true, true, true, true, true, true, true, true, true, true, false] rfl rfl (any_of HT_.out (by kernel_rfl)) (fun _ _ _ h => h) (Or.inl ⟨by rfl, ?_⟩) ?_ ?_
            rotate_left
            · intro w'
              go_simp
              with_reducible rfl
            rotate_left
            · simp only [Act.put, List.setIfInBounds_toArray, List.set_cons_zero, List.set_cons_succ, i64_w, i32_w]
              rfl
            refine pure_ (i := 17) (N := some 18) (v := ?_) (a' := ?_) #[true, true, true, true, true, true, true, true, true, true, true, true, true, true, true, true, true, true] rfl rfl (any_of HT_.out (by kernel_rfl)) (fun _ _ _ h => h) (Or.inl ⟨by rfl, ?_⟩) ?_ ?_
            rotate_left
            · intro w'
              go_simp
              with_reducible rfl
            rotate_left
            · simp only [Act.put, List.setIfInBounds_toArray, List.set_cons_zero, List.set_cons_succ, i64_w, i32_w]
              rfl
            refine done_ (done_of HT_.out (by kernel_rfl)) ?_
            clear HT_ HW_ hHeld
            go_wp2_with fail
            refine (mancipleref20_Follows.calls KF n A16 c16 al A4 c4 c bq _ H16.out.2 H16.out.1 (Kd.C_below HR4.out HB.out) HC4.out (by rw [← HAL.out]; exact HFO.out)).mono ?_
            rintro e w45_ ⟨rfl, hb⟩
            clear H16
            have t_ := Lib.hid (HB.out.trans (hb.mono HB.out.size)); clear HB; have HB := t_; clear t_ hb
            cases bq with
            | true =>
              obtain rfl := HK3.out rfl
              go_wp2_with fail
              go_ret
              exact ⟨rfl, HB.out⟩
            | false =>
              obtain ⟨rfl, rfl⟩ := HK4.out rfl
              go_wp2_with fail
              go_ret
              exact ⟨rfl, HB.out⟩
          · have hqn : (q2 != 0) = true := bne_iff_ne.mpr hq0
            go_wp2_with fail
            go_ret
            exact ⟨rfl, HB.out⟩
end Go.Proofs.Ytjbljblhbmfbpaa.PRup
