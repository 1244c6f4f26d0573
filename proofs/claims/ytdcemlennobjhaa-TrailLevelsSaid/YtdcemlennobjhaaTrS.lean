/-
  The walk of TrailLevels. Conditions: as each statement has them.
-/
import Derived.Test.YtdcemlennobjhaaTrR
import Derived.Test.YtdcemlennobjhaaTrO
namespace Go.Proofs.Ytdcemlennobjhaa.Tr
open Go.RowKit Go.Proofs.YtdcemlennobjhaaW.PrintWords Go.Proofs.YtdcemlennobjhaaW.PrintLast Go.Proofs.YtdcemlennobjhaaW.PrintMore Go.Proofs.Ytdcemlennobjhaa.PTrailPlays
set_option linter.unusedSimpArgs false
set_option linter.unusedVariables false

theorem lv_mem : ∀ (xs : List Int) (j i : Nat), i < xs.length → (⟨xs.getD i 0, j + i + 1, -1⟩ : En) ∈ lv j xs
  | [], _, _, h => by simp at h
  | y :: r, j, 0, _ => by simp [lv]
  | y :: r, j, i + 1, h => by
    have := lv_mem r (j + 1) i (by simpa using h)
    simp only [lv, List.getD_cons_succ]
    rw [show j + (i + 1) + 1 = j + 1 + i + 1 by omega]
    exact List.mem_cons_of_mem _ this
theorem Sq.told {N : Nat} {xs : List Int} (h : Sq N xs) {i : Nat} (hi : i < xs.length) : lvlT (D N xs) ((i : Int) + 1) = (i : Int) + 1 ∧ reaT (D N xs) ((i : Int) + 1) = -1 ∧ valT (D N xs) (xs.getD i 0) = 1 ∧ valT (D N xs) (-xs.getD i 0) = -1 ∧ (xs.getD i 0).natAbs = i + 1 := by
  have hm := lv_mem xs 0 i hi
  rw [Nat.zero_add] at hm
  have ha := (h.at_ _ hm).1
  have e1 := lvl_mem h.wf hm
  have e2 := rea_mem h.wf hm
  have e3 := val_mem h.wf hm
  simp only at ha e1 e2 e3
  rw [ha] at e1 e2
  have hc : ((i + 1 : Nat) : Int) = (i : Int) + 1 := by omega
  rw [hc] at e1 e2
  exact ⟨e1, e2, e3.1, e3.2, ha⟩
theorem Sq.untold {N : Nat} {xs : List Int} (h : Sq N xs) {i : Nat} (hi : xs.length ≤ i) (hN : i < N) : lvlT (D N xs) ((i : Int) + 1) = -1 ∧ valT (D N xs) ((i : Int) + 1) = 0 := by
  have hn : ∀ e ∈ lv 0 xs, e.x.natAbs ≠ i + 1 := fun e he => by have := h.at_ e he; omega
  have hc : ((i + 1 : Nat) : Int) = (i : Int) + 1 := by omega
  rw [← hc]
  exact ⟨lvl_none (by omega) hn, val_none (by omega) (by omega) hn⟩
theorem two_row {P : FP} {b m c : Nat} {A : Option Addr} {xs : List Int} {w : World} (h : Two P (RowP b (.slice A m c) xs) w) : m = xs.length ∧ xs.length ≤ c ∧ Kd.C (Kd.int .i64) w A xs.length xs := by
  obtain ⟨p, q, _, hq, _⟩ := h
  obtain ⟨A', c', e, h1, h2⟩ := Kd.R_reads hq
  injection e with e1 e2 e3
  subst e1 e2 e3
  exact ⟨rfl, h1, h2⟩
theorem at_bit (w : World) (A : Option Addr) (xs : List Bool) (hc : Kd.C Kd.bool w A xs.length xs) (k : Nat) (hk : k < xs.length) : ∃ ad, A = some ad ∧ w.cell? (ad.add k) = some (.bool (xs.getD k false)) := by
  obtain ⟨ad, e, h⟩ := Kd.at_bool hc (k : Int) (by omega) (by omega)
  exact ⟨ad, e, by simpa [rdOf] using h⟩

def X3.T19 : Bool × List (List Nat × List Nat) := (true, [([], []), ([0], [0]), ([], []), ([1, 2, 1], [1, 2]), ([3], [3]), ([4, 3], [4]), ([5], [5]), ([5], [5]), ([6, 7, 5, 5], [5, 6, 7]), ([8, 5], [5, 8]), ([5, 9], [5, 9]), ([10, 8], [10]), ([11], [11]), ([12, 11, 11], [11, 12]), ([11], [11]), ([13, 14, 11], [11, 13, 14]), ([11, 15], [11, 15]), ([16, 13], [16]), ([17], [17]), ([18, 17, 17], [17, 18]), ([17], [17]), ([17], [17]), ([20, 21, 17], [17, 20, 21]), ([19, 22, 19, 17], [17, 19, 22]), ([23, 17], [17, 23]), ([17, 24], [17, 24])])
def X3.B19 : List Nat := [0, 1, 0, 7, 15, 31, 63, 63, 255, 511, 1023, 2047, 4095, 8191, 4095, 32767, 65535, 131071, 262143, 524287, 262143, 262143, 3407871, 8388607, 16777215, 33554431]
theorem X3.tab19 : rtab .any (opsOf Try.f3 19) = X3.T19 := by kernel_rfl
theorem X3.bits19 : waitsOk X3.T19.2 X3.B19 = true := by kernel_rfl
set_option maxRecDepth 100000 in
set_option maxHeartbeats 8000000 in
theorem levels_walk (A0 : Option Addr) (c0 : Nat) (l0 : List Bool) (a1 : Int) (w : World) (hr0 : Kd.C Kd.bool w A0 l0.length l0) (hc0 : l0.length ≤ c0) (h1 : 0 ≤ a1 ∧ a1 ≤ 255) :
    Calls Try.prog 3 #[.slice A0 l0.length c0, .int .u8 a1] w fun e w' => e = .returned (.bool true) ∧ Below w.heap.size w w' := by
  obtain ⟨m, rfl⟩ : ∃ m : Nat, a1 = (m : Int) := ⟨a1.toNat, by omega⟩
  have HR := Lib.hid hr0
  clear hr0
  have HB := Lib.hid (Below.refl w.heap.size w)
  go_enter Try.func3, Try.ntmps3
  go_wp2_with fail
  refine (known_walk _).mono ?_
  rintro e w1_ ⟨rfl, hb⟩
  have t_ := Lib.hid (HB.out.trans (hb.mono HB.out.size)); clear HB; have HB := t_; clear t_ hb
  by_cases hs2 : 100 < l0.length
  · have hg2 : (100 : Int) < (l0.length : Int) := by omega
    go_wp2_with fail
    go_ret
    exact ⟨rfl, HB.out⟩
  have hg2 : ¬ (100 : Int) < (l0.length : Int) := by omega
  go_wp2_with fail
  refine (own_new (b := w.heap.size) l0.length _ (by omega) HB.out.size).mono ?_
  rintro e w2_ ⟨g, rfl, ⟨p_, h_⟩, hb⟩
  have HT := Lib.hid (show Two (TrP w.heap.size g (D l0.length [])) (RowP w.heap.size (.slice none 0 0) []) w2_ from ⟨p_, fun _ => False, (show new l0.length = D l0.length [] from new_conc _) ▸ h_, Kd.R_nil _ _ _ _ _, fun _ _ h => h⟩)
  have t_ := Lib.hid (HB.out.trans hb)
  clear HB h_ hb hg2
  have HB := t_
  clear t_
  go_wp2_with fail
  go_loopw [7, 8] (fun t7 t8 wr => ∃ (i : Nat) (xs : List Int) (A7 : Option Addr) (c7 : Nat), i ≤ l0.length ∧ xs.length = i ∧ t8 = .int .i64 i ∧ t7 = .slice A7 xs.length c7 ∧ Hid (Sq l0.length xs) ∧ Hid (Two (TrP w.heap.size g (D l0.length xs)) (RowP w.heap.size (.slice A7 xs.length c7) xs) wr) ∧ Hid (Below w.heap.size w wr)) (fun _ t8 _ => l0.length - (intOf t8).toNat)
  case atStart => exact ⟨0, [], none, 0, Nat.zero_le _, rfl, rfl, rfl, Lib.hid (Sq.nil (by omega)), HT, HB⟩
  case round =>
    clear HT HB
    obtain ⟨i, xs, A7, c7, hi, hxs, rfl, rfl, HS, HT, HB⟩ := hrel
    have HXS := Lib.hid hxs
    clear hxs
    by_cases hlt : i < l0.length
    · obtain ⟨ad, rfl, hcell⟩ := at_bit w A0 l0 HR.out i hlt
      replace hcell := (HB.out.cell (World.block_lt_of_cell? w _ hcell)).trans hcell
      have hlt' : (i : Int) < (l0.length : Int) := by omega
      have hxl : xs.length ≤ 100 := by have := HXS.out; omega
      obtain ⟨bt, hbt⟩ : ∃ bt, l0.getD i false = bt := ⟨_, rfl⟩
      rw [hbt] at hcell
      clear hbt
      cases bt with
      | true =>
        have H1_ := HS.out.snoc (x := (i : Int) + 1) (by have := HXS.out; omega) (by have := HXS.out; omega)
        obtain ⟨ys, hys⟩ : ∃ ys, xs ++ [(i : Int) + 1] = ys := ⟨_, rfl⟩
        have HYL := Lib.hid (show ys.length = i + 1 by rw [← hys, List.length_append, List.length_singleton, HXS.out])
        rw [hys] at H1_
        have H1 := Lib.hid H1_
        have HYS := Lib.hid hys
        clear H1_ hys
        have HI := Lib.hid (two_decide HT.out (foot_row _ _ _) HS.out.fine HB.out.size ((i : Int) + 1) 0 _ H1.out.2.1 H1.out.2.2)
        go_wp2_with fail
        refine (HI.out).mono ?_
        rintro e w3_ ⟨rfl, h_, hb⟩
        clear HT
        have HT := Lib.hid h_
        have t_ := Lib.hid (HB.out.trans hb)
        clear HB h_ hb
        have HB := t_
        clear t_
        clear HI
        go_wp2_with fail
        refine (own_deep HT.out.fst ((i : Int) + 1) (by rw [D_f, HYL.out]; omega)).mono ?_
        rintro e w4_ ⟨rfl, hb⟩
        have t_ := Lib.hid (Two.below (foot_tr _ _ _) (foot_row _ _ _) HT.out hb)
        clear HT
        have HT := t_
        clear t_
        have t_ := Lib.hid (HB.out.trans (hb.mono HB.out.size))
        clear HB hb
        have HB := t_
        clear t_
        have hii : (((i : Int) + 1) == ((i : Int) + 1)) = true := beq_self_eq_true _
        obtain ⟨p, q, hp_, hq_, hd_⟩ := HT.out
        have XP := Lib.hid hp_
        have XQ := Lib.hid hq_
        have XD := Lib.hid hd_
        clear hp_ hq_ hd_ HT
        go_wp2_with ((with_reducible refine gate_builtin (b := .append) (xs := #[.tmp 56, .tmp 58]) rfl ?_); at_builtin; refine Kd.R_append (Kd.int .i64) (w0 := w) w.heap.size rfl (.tmp 56) (.tmp 58) 28 3 (.int .i64 0) 8 rfl Try.underlying28 info3 rfl (by decide) (by omega) _ xs ((i : Int) + 1) [.int .i64 ((i : Int) + 1)] (newer w4_ q) (fun _ => False) rfl rfl rfl (fun _ hk => hk.elim) ?aF ?aO ?aB ?aS ?aL ?_; (case aF => exact fun k hk => Or.inr hk); (case aO => exact Kd.R_mono XQ.out (fun k hk => Or.inl hk)); (case aB => exact HB.out); (case aS => exact HB.out.size); (case aL => omega); intro v1 w5_ ho hb hg hat; rw [HYS.out] at ho; obtain ⟨A3, c3, rfl⟩ := Kd.R_slice ho; have HT := Lib.hid (Two.left (P' := RowP w.heap.size (.slice A3 ys.length c3) ys) (foot_tr _ _ _) XP.out (fun k hk hn => XD.out k hn hk) ho (Fr.grown hg (fun k hk => XQ.out.1 k hk))).symm; have HBx := Lib.hid hb; clear HB XP XQ XD ho hb hg hat; have HB := HBx; clear HBx)
        exact ⟨⟨i + 1, ys, A3, c3, by omega, HYL.out, by go_num, rfl, Lib.hid H1.out.1, HT, HB⟩, by simp only [intOf]; omega⟩
      | false =>
        have H1_ := HS.out.snoc (x := -((i : Int) + 1)) (by have := HXS.out; omega) (by have := HXS.out; omega)
        obtain ⟨ys, hys⟩ : ∃ ys, xs ++ [-((i : Int) + 1)] = ys := ⟨_, rfl⟩
        have HYL := Lib.hid (show ys.length = i + 1 by rw [← hys, List.length_append, List.length_singleton, HXS.out])
        rw [hys] at H1_
        have H1 := Lib.hid H1_
        have HYS := Lib.hid hys
        clear H1_ hys
        have HI := Lib.hid (two_decide HT.out (foot_row _ _ _) HS.out.fine HB.out.size (-((i : Int) + 1)) 0 _ H1.out.2.1 H1.out.2.2)
        go_wp2_with fail
        refine (HI.out).mono ?_
        rintro e w3_ ⟨rfl, h_, hb⟩
        clear HT
        have HT := Lib.hid h_
        have t_ := Lib.hid (HB.out.trans hb)
        clear HB h_ hb
        have HB := t_
        clear t_
        clear HI
        go_wp2_with fail
        refine (own_deep HT.out.fst ((i : Int) + 1) (by rw [D_f, HYL.out]; omega)).mono ?_
        rintro e w4_ ⟨rfl, hb⟩
        have t_ := Lib.hid (Two.below (foot_tr _ _ _) (foot_row _ _ _) HT.out hb)
        clear HT
        have HT := t_
        clear t_
        have t_ := Lib.hid (HB.out.trans (hb.mono HB.out.size))
        clear HB hb
        have HB := t_
        clear t_
        have hii : (((i : Int) + 1) == ((i : Int) + 1)) = true := beq_self_eq_true _
        obtain ⟨p, q, hp_, hq_, hd_⟩ := HT.out
        have XP := Lib.hid hp_
        have XQ := Lib.hid hq_
        have XD := Lib.hid hd_
        clear hp_ hq_ hd_ HT
        go_wp2_with ((with_reducible refine gate_builtin (b := .append) (xs := #[.tmp 56, .tmp 58]) rfl ?_); at_builtin; refine Kd.R_append (Kd.int .i64) (w0 := w) w.heap.size rfl (.tmp 56) (.tmp 58) 28 3 (.int .i64 0) 8 rfl Try.underlying28 info3 rfl (by decide) (by omega) _ xs (-((i : Int) + 1)) [.int .i64 (-((i : Int) + 1))] (newer w4_ q) (fun _ => False) rfl rfl rfl (fun _ hk => hk.elim) ?aF ?aO ?aB ?aS ?aL ?_; (case aF => exact fun k hk => Or.inr hk); (case aO => exact Kd.R_mono XQ.out (fun k hk => Or.inl hk)); (case aB => exact HB.out); (case aS => exact HB.out.size); (case aL => omega); intro v1 w5_ ho hb hg hat; rw [HYS.out] at ho; obtain ⟨A3, c3, rfl⟩ := Kd.R_slice ho; have HT := Lib.hid (Two.left (P' := RowP w.heap.size (.slice A3 ys.length c3) ys) (foot_tr _ _ _) XP.out (fun k hk hn => XD.out k hn hk) ho (Fr.grown hg (fun k hk => XQ.out.1 k hk))).symm; have HBx := Lib.hid hb; clear HB XP XQ XD ho hb hg hat; have HB := HBx; clear HBx)
        exact ⟨⟨i + 1, ys, A3, c3, by omega, HYL.out, by go_num, rfl, Lib.hid H1.out.1, HT, HB⟩, by simp only [intOf]; omega⟩
    · obtain rfl : i = l0.length := by omega
      obtain ⟨k, hk⟩ : ∃ k : Nat, m % (l0.length + 1) = k := ⟨_, rfl⟩
      have hkl : k ≤ l0.length := by have := Nat.mod_lt m (show 0 < l0.length + 1 by omega); omega
      have hmk : (m : Int) % ((l0.length : Int) + 1) = (k : Int) := by rw [← hk]; have := Int.natCast_emod m (l0.length + 1); rw [this]; simp
      clear hk
      obtain ⟨ys, hys⟩ : ∃ ys, xs.take k = ys := ⟨_, rfl⟩
      have HYL := Lib.hid (show ys.length = k by rw [← hys, List.length_take]; have := HXS.out; omega)
      have HK_ := HS.out.back (k := k) (by have := HXS.out; omega)
      rw [hys] at HK_
      have HK := Lib.hid HK_
      have HYS := Lib.hid hys
      have HKL := Lib.hid hkl
      have HRM := Lib.hid (two_row HT.out).2.1
      have hcut : ∀ W : World, (Instr.slice 28 (.slice A7 xs.length c7) none (some (.int .i64 (k : Int))) none).run Try.prog W = .ok (.slice A7 ys.length c7) W := by
        rw [HYL.out]
        obtain ⟨i0, hi0, _, _, _⟩ := info_parts info3
        exact cut_to (P := Try.prog) 28 3 .i64 Try.underlying28 hi0 A7 xs.length c7 (k : Int) (by omega) (by have := HXS.out; omega) HRM.out
      clear HK_ hys hlt hi
      go_wp2_with fail
      refine start_ (n := 26) (S := fun w' => True) (ds := []) #[false, false, false, false, false, false, false, false, false, false, false, false, false, false, false, false, false, false, false, false, false, false, false, false, false, false] (by kernel_rfl) rfl rfl trivial (fun hHeld => ?_)
      refine with_tabW X3.tab19 X3.bits19 (fun HT_ HW_ => ?_)
      have hb := (Below.refl wr.heap.size wr).drew
      have t_ := Lib.hid (Two.below (foot_tr _ _ _) (foot_row _ _ _) HT.out hb)
      clear HT
      have HT := t_
      clear t_
      have t_ := Lib.hid (HB.out.trans (hb.mono HB.out.size))
      clear HB hb
      have HB := t_
      clear t_
      generalize wr.drew = w6_ at HT HB hHeld ⊢
      refine pure_ (i := 0) (N := some 66) (v := ?_) (a' := ?_) #[true, false, false, false, false, false, false, false, false, false, false, false, false, false, false, false, false, false, false, false, false, false, false, false, false, false] rfl rfl (any_of HT_.out (by kernel_rfl)) (fun _ _ _ h => h) (Or.inl ⟨by rfl, ?_⟩) ?_ ?_
      rotate_left
      · intro w'
        go_simp
        with_reducible rfl
      rotate_left
      · simp only [Act.put, List.setIfInBounds_toArray, List.set_cons_zero, List.set_cons_succ, i64_w, i32_w]
        rfl
      refine pure_ (i := 2) (N := some 68) (v := ?_) (a' := ?_) #[true, false, true, false, false, false, false, false, false, false, false, false, false, false, false, false, false, false, false, false, false, false, false, false, false, false] rfl rfl (any_of HT_.out (by kernel_rfl)) (fun _ _ _ h => h) (Or.inl ⟨by rfl, ?_⟩) ?_ ?_
      rotate_left
      · intro w'
        go_simp
        with_reducible rfl
      rotate_left
      · simp only [Act.put, List.setIfInBounds_toArray, List.set_cons_zero, List.set_cons_succ, i64_w, i32_w]
        rfl
      refine one_ (i := 1) (N := some 67) #[true, true, true, false, false, false, false, false, false, false, false, false, false, false, false, false, false, false, false, false, false, false, false, false, false, false] rfl rfl (one_of HT_.out (by kernel_rfl)) (by decide) (fun K hK => ?_)
      refine goes_ Try.func12 (by kernel_rfl) rfl #[.pointer (some ⟨g, 0, none⟩)] (by rfl) rfl rfl (by first | (go_simp; done) | (simp [Act.eval]; done)) ?_
      refine (own_lits HT.out.fst HS.out.fine.ll xs (D_l _ _)).mono ?_
      rintro e w7_ ⟨AL, cAL, rfl, hc_, hC_, _, hb⟩
      refine ⟨_, rfl, ?_⟩
      have HL := Lib.hid (And.intro hc_ hC_)
      clear hc_ hC_
      have t_ := Lib.hid (Two.below (foot_tr _ _ _) (foot_row _ _ _) HT.out hb)
      clear HT
      have HT := t_
      clear t_
      have t_ := Lib.hid (HB.out.trans (hb.mono HB.out.size))
      clear HB hb
      have HB := t_
      clear t_
      refine hK.out _ _ trivial (fun hHeld => ?_)
      clear hK K
      refine norm_ (a' := ?_) ?_ ?_
      rotate_left
      · show Act.put _ (some 67) _ = _
        simp only [Act.put, List.setIfInBounds_toArray, List.set_cons_zero, List.set_cons_succ, i64_w, i32_w]
        rfl
      refine one_ (i := 3) (N := some 69) #[true, true, true, true, false, false, false, false, false, false, false, false, false, false, false, false, false, false, false, false, false, false, false, false, false, false] rfl rfl (one_of HT_.out (by kernel_rfl)) (by decide) (fun K hK => ?_)
      refine goes_ Try.func11 (by kernel_rfl) rfl #[.slice AL xs.length cAL, .slice A7 xs.length c7] (by rfl) rfl rfl (by first | (go_simp; done) | (simp [Act.eval]; done)) ?_
      refine (ints_same xs AL A7 cAL c7 xs.length xs.length _ (by have := HXS.out; omega) HL.out (two_row HT.out).2 rfl rfl).mono ?_
      rintro e w8_ ⟨rfl, hb⟩
      refine ⟨_, rfl, ?_⟩
      clear HL
      have t_ := Lib.hid (Two.below (foot_tr _ _ _) (foot_row _ _ _) HT.out hb)
      clear HT
      have HT := t_
      clear t_
      have t_ := Lib.hid (HB.out.trans (hb.mono HB.out.size))
      clear HB hb
      have HB := t_
      clear t_
      refine hK.out _ _ trivial (fun hHeld => ?_)
      clear hK K
      refine norm_ (a' := ?_) ?_ ?_
      rotate_left
      · show Act.put _ (some 69) _ = _
        simp only [Act.put, List.setIfInBounds_toArray, List.set_cons_zero, List.set_cons_succ, i64_w, i32_w]
        rfl
      refine pure_ (i := 4) (N := some 70) (v := ?_) (a' := ?_) #[true, true, true, true, true, false, false, false, false, false, false, false, false, false, false, false, false, false, false, false, false, false, false, false, false, false] rfl rfl (any_of HT_.out (by kernel_rfl)) (fun _ _ _ h => h) (Or.inl ⟨by rfl, ?_⟩) ?_ ?_
      rotate_left
      · intro w'
        go_simp
        with_reducible rfl
      rotate_left
      · simp only [Act.put, List.setIfInBounds_toArray, List.set_cons_zero, List.set_cons_succ, i64_w, i32_w]
        rfl
      refine pure_ (i := 5) (N := some 71) (v := ?_) (a' := ?_) #[true, true, true, true, true, true, false, false, false, false, false, false, false, false, false, false, false, false, false, false, false, false, false, false, false, false] rfl rfl (any_of HT_.out (by kernel_rfl)) (fun _ _ _ h => h) (Or.inl ⟨by rfl, ?_⟩) ?_ ?_
      rotate_left
      · intro w'
        go_simp
        with_reducible rfl
      rotate_left
      · simp only [Act.put, List.setIfInBounds_toArray, List.set_cons_zero, List.set_cons_succ, i64_w, i32_w]
        rfl
      refine pure_ (i := 6) (N := some 72) (v := ?_) (a' := ?_) #[true, true, true, true, true, true, true, false, false, false, false, false, false, false, false, false, false, false, false, false, false, false, false, false, false, false] rfl rfl (any_of HT_.out (by kernel_rfl)) (fun _ _ _ h => h) (Or.inl ⟨by rfl, ?_⟩) ?_ ?_
      rotate_left
      · intro w'
        go_simp
        with_reducible rfl
      rotate_left
      · simp only [Act.put, List.setIfInBounds_toArray, List.set_cons_zero, List.set_cons_succ, i64_w, i32_w]
        rfl
      refine pure_ (i := 7) (N := some 73) (v := ?_) (a' := ?_) #[true, true, true, true, true, true, true, true, false, false, false, false, false, false, false, false, false, false, false, false, false, false, false, false, false, false] rfl rfl (any_of HT_.out (by kernel_rfl)) (fun _ _ _ h => h) (Or.inl ⟨by rfl, ?_⟩) ?_ ?_
      rotate_left
      · intro w'
        go_simp
        with_reducible rfl
      rotate_left
      · simp only [Act.put, List.setIfInBounds_toArray, List.set_cons_zero, List.set_cons_succ, i64_w, i32_w]
        rfl
      refine one_ (i := 8) (N := some 74) #[true, true, true, true, true, true, true, true, true, false, false, false, false, false, false, false, false, false, false, false, false, false, false, false, false, false] rfl rfl (one_of HT_.out (by kernel_rfl)) (by decide) (fun K hK => ?_)
      refine goes_ Try.func13 (by kernel_rfl) rfl #[.pointer (some ⟨g, 0, none⟩), .int .i64 (k : Int)] (by rfl) rfl rfl (by first | (go_simp; done) | (simp [Act.eval]; done)) ?_
      refine (two_back HT.out (foot_row _ _ _) HS.out.fine HB.out.size (k : Int) 0 _ HK.out.2.1 HK.out.2.2).mono ?_
      rintro e w9_ ⟨rfl, h_, hb⟩
      refine ⟨_, rfl, ?_⟩
      clear HT
      have HT := Lib.hid h_
      have t_ := Lib.hid (HB.out.trans hb)
      clear HB h_ hb
      have HB := t_
      clear t_
      refine hK.out _ _ trivial (fun hHeld => ?_)
      clear hK K
      refine norm_ (a' := ?_) ?_ ?_
      rotate_left
      · show Act.put _ (some 74) _ = _
        simp only [Act.put, List.setIfInBounds_toArray, List.set_cons_zero, List.set_cons_succ, i64_w, i32_w]
        rfl
      refine pure_ (i := 9) (N := some 75) (v := ?_) (a' := ?_) #[true, true, true, true, true, true, true, true, true, true, false, false, false, false, false, false, false, false, false, false, false, false, false, false, false, false] rfl rfl (any_of HT_.out (by kernel_rfl)) (fun _ _ _ h => h) (Or.inl ⟨by rfl, ?_⟩) ?_ ?_
      rotate_left
      · intro w'
        go_simp
        with_reducible rfl
      rotate_left
      · simp only [Act.put, List.setIfInBounds_toArray, List.set_cons_zero, List.set_cons_succ, i64_w, i32_w]
        rfl
      refine pure_ (i := 10) (N := some 76) (v := ?_) (a' := ?_) #[true, true, true, true, true, true, true, true, true, true, true, false, false, false, false, false, false, false, false, false, false, false, false, false, false, false] rfl rfl (any_of HT_.out (by kernel_rfl)) (fun _ _ _ h => h) (Or.inl ⟨by rfl, ?_⟩) ?_ ?_
      rotate_left
      · intro w'
        go_simp
        with_reducible rfl
      rotate_left
      · simp only [Act.put, List.setIfInBounds_toArray, List.set_cons_zero, List.set_cons_succ, i64_w, i32_w]
        rfl
      refine pure_ (i := 11) (N := some 77) (v := ?_) (a' := ?_) #[true, true, true, true, true, true, true, true, true, true, true, true, false, false, false, false, false, false, false, false, false, false, false, false, false, false] rfl rfl (any_of HT_.out (by kernel_rfl)) (fun _ _ _ h => h) (Or.inl ⟨by rfl, ?_⟩) ?_ ?_
      rotate_left
      · intro w'
        go_simp
        with_reducible rfl
      rotate_left
      · simp only [Act.put, List.setIfInBounds_toArray, List.set_cons_zero, List.set_cons_succ, i64_w, i32_w]
        rfl
      refine pure_ (i := 12) (N := some 78) (v := ?_) (a' := ?_) #[true, true, true, true, true, true, true, true, true, true, true, true, true, false, false, false, false, false, false, false, false, false, false, false, false, false] rfl rfl (any_of HT_.out (by kernel_rfl)) (fun _ _ _ h => h) (Or.inl ⟨by rfl, ?_⟩) ?_ ?_
      rotate_left
      · intro w'
        go_simp
        with_reducible rfl
      rotate_left
      · simp only [Act.put, List.setIfInBounds_toArray, List.set_cons_zero, List.set_cons_succ, i64_w, i32_w]
        rfl
      refine pure_ (i := 14) (N := some 80) (v := ?_) (a' := ?_) #[true, true, true, true, true, true, true, true, true, true, true, true, true, false, true, false, false, false, false, false, false, false, false, false, false, false] rfl rfl (any_of HT_.out (by kernel_rfl)) (fun _ _ _ h => h) (Or.inl ⟨by rfl, ?_⟩) ?_ ?_
      rotate_left
      · intro w'
        go_simp
        with_reducible rfl
      rotate_left
      · simp only [Act.put, List.setIfInBounds_toArray, List.set_cons_zero, List.set_cons_succ, i64_w, i32_w]
        rfl
      refine one_ (i := 13) (N := some 79) #[true, true, true, true, true, true, true, true, true, true, true, true, true, true, true, false, false, false, false, false, false, false, false, false, false, false] rfl rfl (one_of HT_.out (by kernel_rfl)) (by decide) (fun K hK => ?_)
      refine goes_ Try.func10 (by kernel_rfl) rfl #[.pointer (some ⟨g, 0, none⟩)] (by rfl) rfl rfl (by first | (go_simp; done) | (simp [Act.eval]; done)) ?_
      refine (own_deep HT.out.fst (k : Int) (by rw [D_f, HYL.out])).mono ?_
      rintro e wa_ ⟨rfl, hb⟩
      refine ⟨_, rfl, ?_⟩
      have t_ := Lib.hid (Two.below (foot_tr _ _ _) (foot_row _ _ _) HT.out hb)
      clear HT
      have HT := t_
      clear t_
      have t_ := Lib.hid (HB.out.trans (hb.mono HB.out.size))
      clear HB hb
      have HB := t_
      clear t_
      refine hK.out _ _ trivial (fun hHeld => ?_)
      clear hK K
      refine norm_ (a' := ?_) ?_ ?_
      rotate_left
      · show Act.put _ (some 79) _ = _
        simp only [Act.put, List.setIfInBounds_toArray, List.set_cons_zero, List.set_cons_succ, i64_w, i32_w]
        rfl
      refine pure_ (i := 15) (N := some 81) (v := ?_) (a' := ?_) #[true, true, true, true, true, true, true, true, true, true, true, true, true, true, true, true, false, false, false, false, false, false, false, false, false, false] rfl rfl (any_of HT_.out (by kernel_rfl)) (fun _ _ _ h => h) (Or.inl ⟨by rfl, ?_⟩) ?_ ?_
      rotate_left
      · intro w'
        go_simp
        with_reducible rfl
      rotate_left
      · simp only [Act.put, List.setIfInBounds_toArray, List.set_cons_zero, List.set_cons_succ, i64_w, i32_w]
        rfl
      refine pure_ (i := 16) (N := some 82) (v := ?_) (a' := ?_) #[true, true, true, true, true, true, true, true, true, true, true, true, true, true, true, true, true, false, false, false, false, false, false, false, false, false] rfl rfl (any_of HT_.out (by kernel_rfl)) (fun _ _ _ h => h) (Or.inl ⟨by rfl, ?_⟩) ?_ ?_
      rotate_left
      · intro w'
        go_simp
        with_reducible rfl
      rotate_left
      · simp only [Act.put, List.setIfInBounds_toArray, List.set_cons_zero, List.set_cons_succ, i64_w, i32_w]
        rfl
      refine pure_ (i := 17) (N := some 83) (v := ?_) (a' := ?_) #[true, true, true, true, true, true, true, true, true, true, true, true, true, true, true, true, true, true, false, false, false, false, false, false, false, false] rfl rfl (any_of HT_.out (by kernel_rfl)) (fun _ _ _ h => h) (Or.inl ⟨by rfl, ?_⟩) ?_ ?_
      rotate_left
      · intro w'
        go_simp
        with_reducible rfl
      rotate_left
      · simp only [Act.put, List.setIfInBounds_toArray, List.set_cons_zero, List.set_cons_succ, i64_w, i32_w]
        rfl
      refine pure_ (i := 18) (N := some 84) (v := ?_) (a' := ?_) #[true, true, true, true, true, true, true, true, true, true, true, true, true, true, true, true, true, true, true, false, false, false, false, false, false, false] rfl rfl (any_of HT_.out (by kernel_rfl)) (fun _ _ _ h => h) (Or.inl ⟨by rfl, ?_⟩) ?_ ?_
      rotate_left
      · intro w'
        go_simp
        with_reducible rfl
      rotate_left
      · simp only [Act.put, List.setIfInBounds_toArray, List.set_cons_zero, List.set_cons_succ, i64_w, i32_w]
        rfl
      refine pure_ (i := 20) (N := some 86) (v := ?_) (a' := ?_) #[true, true, true, true, true, true, true, true, true, true, true, true, true, true, true, true, true, true, true, false, true, false, false, false, false, false] rfl rfl (any_of HT_.out (by kernel_rfl)) (fun _ _ _ h => h) (Or.inl ⟨by rfl, ?_⟩) ?_ ?_
      rotate_left
      · intro w'
        go_simp
        with_reducible rfl
      rotate_left
      · simp only [Act.put, List.setIfInBounds_toArray, List.set_cons_zero, List.set_cons_succ, i64_w, i32_w]
        rfl
      refine pure_ (i := 21) (N := some 87) (v := ?_) (a' := ?_) #[true, true, true, true, true, true, true, true, true, true, true, true, true, true, true, true, true, true, true, false, true, true, false, false, false, false] rfl rfl (any_of HT_.out (by kernel_rfl)) (fun _ _ _ h => h) (Or.inl ⟨by rfl, ?_⟩) ?_ ?_
      rotate_left
      · intro w'
        go_simp
        with_reducible rfl
      rotate_left
      · simp only [Act.put, List.setIfInBounds_toArray, List.set_cons_zero, List.set_cons_succ, i64_w, i32_w]
        rfl
      refine pure_ (i := 22) (N := some 88) (v := ?_) (a' := ?_) #[true, true, true, true, true, true, true, true, true, true, true, true, true, true, true, true, true, true, true, false, true, true, true, false, false, false] rfl rfl (any_of HT_.out (by kernel_rfl)) (fun _ _ _ h => h) (Or.inl ⟨by rfl, ?_⟩) ?_ ?_
      rotate_left
      · intro w'
        go_simp
        with_reducible rfl
      rotate_left
      · simp only [Act.put, List.setIfInBounds_toArray, List.set_cons_zero, List.set_cons_succ, i64_w, i32_w]
        rfl
      refine one_ (i := 19) (N := some 85) #[true, true, true, true, true, true, true, true, true, true, true, true, true, true, true, true, true, true, true, true, true, true, true, false, false, false] rfl rfl (one_of HT_.out (by kernel_rfl)) (by decide) (fun K hK => ?_)
      refine goes_ Try.func12 (by kernel_rfl) rfl #[.pointer (some ⟨g, 0, none⟩)] (by rfl) rfl rfl (by first | (go_simp; done) | (simp [Act.eval]; done)) ?_
      refine (own_lits HT.out.fst HK.out.1.fine.ll ys (D_l _ _)).mono ?_
      rintro e wb_ ⟨AM, cAM, rfl, hc_, hC_, _, hb⟩
      refine ⟨_, rfl, ?_⟩
      have HL := Lib.hid (And.intro hc_ hC_)
      clear hc_ hC_
      have t_ := Lib.hid (Two.below (foot_tr _ _ _) (foot_row _ _ _) HT.out hb)
      clear HT
      have HT := t_
      clear t_
      have t_ := Lib.hid (HB.out.trans (hb.mono HB.out.size))
      clear HB hb
      have HB := t_
      clear t_
      refine hK.out _ _ trivial (fun hHeld => ?_)
      clear hK K
      refine norm_ (a' := ?_) ?_ ?_
      rotate_left
      · show Act.put _ (some 85) _ = _
        simp only [Act.put, List.setIfInBounds_toArray, List.set_cons_zero, List.set_cons_succ, i64_w, i32_w]
        rfl
      refine one_ (i := 23) (N := some 89) #[true, true, true, true, true, true, true, true, true, true, true, true, true, true, true, true, true, true, true, true, true, true, true, true, false, false] rfl rfl (one_of HT_.out (by kernel_rfl)) (by decide) (fun K hK => ?_)
      refine goes_ Try.func11 (by kernel_rfl) rfl #[.slice AM ys.length cAM, .slice A7 ys.length c7] (by rfl) rfl rfl (by first | (go_simp; done) | (simp [Act.eval]; done)) ?_
      refine (ints_same ys AM A7 cAM c7 ys.length ys.length _ (by have := HKL.out; have := HYL.out; omega) HL.out ⟨by have := HRM.out; have := HKL.out; have := HYL.out; have := HXS.out; omega, by have h_ := Kd.C_take (m := k) (two_row HT.out).2.2 (by have := HKL.out; have := HXS.out; omega); rw [HYS.out] at h_; exact h_⟩ rfl rfl).mono ?_
      rintro e wc_ ⟨rfl, hb⟩
      refine ⟨_, rfl, ?_⟩
      clear HL
      have t_ := Lib.hid (Two.below (foot_tr _ _ _) (foot_row _ _ _) HT.out hb)
      clear HT
      have HT := t_
      clear t_
      have t_ := Lib.hid (HB.out.trans (hb.mono HB.out.size))
      clear HB hb
      have HB := t_
      clear t_
      refine hK.out _ _ trivial (fun hHeld => ?_)
      clear hK K
      refine norm_ (a' := ?_) ?_ ?_
      rotate_left
      · show Act.put _ (some 89) _ = _
        simp only [Act.put, List.setIfInBounds_toArray, List.set_cons_zero, List.set_cons_succ, i64_w, i32_w]
        rfl
      refine pure_ (i := 24) (N := some 90) (v := ?_) (a' := ?_) #[true, true, true, true, true, true, true, true, true, true, true, true, true, true, true, true, true, true, true, true, true, true, true, true, true, false] rfl rfl (any_of HT_.out (by kernel_rfl)) (fun _ _ _ h => h) (Or.inl ⟨by rfl, ?_⟩) ?_ ?_
      rotate_left
      · intro w'
        go_simp
        with_reducible rfl
      rotate_left
      · simp only [Act.put, List.setIfInBounds_toArray, List.set_cons_zero, List.set_cons_succ, i64_w, i32_w]
        rfl
      refine pure_ (i := 25) (N := some 91) (v := ?_) (a' := ?_) #[true, true, true, true, true, true, true, true, true, true, true, true, true, true, true, true, true, true, true, true, true, true, true, true, true, true] rfl rfl (any_of HT_.out (by kernel_rfl)) (fun _ _ _ h => h) (Or.inl ⟨by rfl, ?_⟩) ?_ ?_
      rotate_left
      · intro w'
        go_simp
        with_reducible rfl
      rotate_left
      · simp only [Act.put, List.setIfInBounds_toArray, List.set_cons_zero, List.set_cons_succ, i64_w, i32_w]
        rfl
      refine done_ (done_of HT_.out (by kernel_rfl)) ?_
      clear HT_ HW_ hHeld
      have HCUT := Lib.hid hcut
      clear hcut
      go_wp2_with fail
      rw [hmk]
      clear hmk
      go_loopw [11] (fun t wr => ∃ i : Nat, i ≤ l0.length ∧ t = .int .i64 i ∧ Hid (Two (TrP w.heap.size g (D l0.length ys)) (RowP w.heap.size (.slice A7 xs.length c7) xs) wr) ∧ Hid (Below w.heap.size w wr)) (fun t _ => l0.length - (intOf t).toNat)
      case atStart => exact ⟨0, Nat.zero_le _, rfl, HT, HB⟩
      case round =>
        clear HT HB
        obtain ⟨i, hi, rfl, HT, HB⟩ := hrel
        by_cases hlt : i < l0.length
        · have hlt' : (i : Int) < (l0.length : Int) := by omega
          have hon : (D l0.length ys).of.length ≤ 257 := HK.out.1.fine.n2
          by_cases hik : i < k
          · have hik' : (i : Int) < (k : Int) := by omega
            have hixl : i < xs.length := by have := HXS.out; omega
            have hixl' : (i : Int) < (xs.length : Int) := by omega
            have H2_ := HK.out.1.told (i := i) (by have := HYL.out; omega)
            obtain ⟨x, hx⟩ : ∃ x, ys.getD i 0 = x := ⟨_, rfl⟩
            have hxx : xs.getD i 0 = x := by
              rw [← hx, ← HYS.out, List.getD_eq_getElem?_getD, List.getD_eq_getElem?_getD, List.getElem?_take, if_pos hik]
            rw [hx] at H2_
            have H2 := Lib.hid H2_
            have hxn : x.natAbs = i + 1 := H2_.2.2.2.2
            obtain ⟨ad, rfl, hcell⟩ := at_lit wr A7 xs (two_row HT.out).2.2 i (by have := HXS.out; omega)
            rw [hxx] at hcell
            clear H2_ hx hxx
            go_wp2_with fail
            refine (own_level HT.out.fst hon ((i : Int) + 1) ((i : Int) + 1) H2.out.1).mono ?_
            rintro e wd_ ⟨rfl, hb⟩
            replace hcell := (hb.cell (World.block_lt_of_cell? _ _ hcell)).trans hcell
            have t_ := Lib.hid (Two.below (foot_tr _ _ _) (foot_row _ _ _) HT.out hb)
            clear HT
            have HT := t_
            clear t_
            have t_ := Lib.hid (HB.out.trans (hb.mono HB.out.size))
            clear HB hb
            have HB := t_
            clear t_
            have hii : (((i : Int) + 1) == ((i : Int) + 1)) = true := beq_self_eq_true _
            go_wp2_with fail
            refine (own_value HT.out.fst hon x 1 H2.out.2.2.1).mono ?_
            rintro e we_ ⟨rfl, hb⟩
            replace hcell := (hb.cell (World.block_lt_of_cell? _ _ hcell)).trans hcell
            have t_ := Lib.hid (Two.below (foot_tr _ _ _) (foot_row _ _ _) HT.out hb)
            clear HT
            have HT := t_
            clear t_
            have t_ := Lib.hid (HB.out.trans (hb.mono HB.out.size))
            clear HB hb
            have HB := t_
            clear t_
            go_wp2_with fail
            refine (own_value HT.out.fst hon (-x) (-1) H2.out.2.2.2.1).mono ?_
            rintro e wf_ ⟨rfl, hb⟩
            replace hcell := (hb.cell (World.block_lt_of_cell? _ _ hcell)).trans hcell
            have t_ := Lib.hid (Two.below (foot_tr _ _ _) (foot_row _ _ _) HT.out hb)
            clear HT
            have HT := t_
            clear t_
            have t_ := Lib.hid (HB.out.trans (hb.mono HB.out.size))
            clear HB hb
            have HB := t_
            clear t_
            go_wp2_with fail
            refine (own_reason HT.out.fst hon ((i : Int) + 1) (-1) H2.out.2.1).mono ?_
            rintro e wg_ ⟨rfl, hb⟩
            have t_ := Lib.hid (Two.below (foot_tr _ _ _) (foot_row _ _ _) HT.out hb)
            clear HT
            have HT := t_
            clear t_
            have t_ := Lib.hid (HB.out.trans (hb.mono HB.out.size))
            clear HB hb
            have HB := t_
            clear t_
            go_wp2_with fail
            exact ⟨⟨i + 1, by omega, by go_num, HT, HB⟩, by simp only [intOf]; omega⟩
          · have hik' : ¬ (i : Int) < (k : Int) := by omega
            have hki : (k : Int) ≤ (i : Int) := by omega
            have hkn : k ≤ i := by omega
            have H2 := Lib.hid (HK.out.1.untold (i := i) (by have := HYL.out; omega) (by omega))
            go_wp2_with fail
            refine (own_level HT.out.fst hon ((i : Int) + 1) (-1) H2.out.1).mono ?_
            rintro e wd_ ⟨rfl, hb⟩
            have t_ := Lib.hid (Two.below (foot_tr _ _ _) (foot_row _ _ _) HT.out hb)
            clear HT
            have HT := t_
            clear t_
            have t_ := Lib.hid (HB.out.trans (hb.mono HB.out.size))
            clear HB hb
            have HB := t_
            clear t_
            go_wp2_with fail
            refine (own_value HT.out.fst hon ((i : Int) + 1) 0 H2.out.2).mono ?_
            rintro e we_ ⟨rfl, hb⟩
            have t_ := Lib.hid (Two.below (foot_tr _ _ _) (foot_row _ _ _) HT.out hb)
            clear HT
            have HT := t_
            clear t_
            have t_ := Lib.hid (HB.out.trans (hb.mono HB.out.size))
            clear HB hb
            have HB := t_
            clear t_
            go_wp2_with fail
            exact ⟨⟨i + 1, by omega, by go_num, HT, HB⟩, by simp only [intOf]; omega⟩
        · obtain rfl : i = l0.length := by omega
          have H3_ := HK.out.1.back (k := k) (by have := HYL.out; omega)
          have htk : ys.take k = ys := List.take_of_length_le (by have := HYL.out; omega)
          rw [htk] at H3_
          have H3 := Lib.hid H3_
          have H0 := Lib.hid (HK.out.1.back (k := 0) (Nat.zero_le _))
          have HI := Lib.hid (two_back HT.out (foot_row _ _ _) HK.out.1.fine HB.out.size (k : Int) 0 _ H3.out.2.1 H3.out.2.2)
          clear H3_ htk
          go_wp2_with fail
          refine (HI.out).mono ?_
          rintro e wh_ ⟨rfl, h_, hb⟩
          clear HT
          have HT := Lib.hid h_
          have t_ := Lib.hid (HB.out.trans hb)
          clear HB h_ hb
          have HB := t_
          clear t_
          clear HI
          go_wp2_with fail
          refine (two_back HT.out (foot_row _ _ _) HK.out.1.fine HB.out.size 0 0 _ H0.out.2.1 H0.out.2.2).mono ?_
          rintro e wi_ ⟨rfl, h_, hb⟩
          clear HT
          have HT := Lib.hid h_
          have t_ := Lib.hid (HB.out.trans hb)
          clear HB h_ hb
          have HB := t_
          clear t_
          go_wp2_with fail
          refine (own_deep HT.out.fst 0 (by rw [D_f]; rfl)).mono ?_
          rintro e wj_ ⟨rfl, hb⟩
          have t_ := Lib.hid (Two.below (foot_tr _ _ _) (foot_row _ _ _) HT.out hb)
          clear HT
          have HT := t_
          clear t_
          have t_ := Lib.hid (HB.out.trans (hb.mono HB.out.size))
          clear HB hb
          have HB := t_
          clear t_
          go_wp2_with fail
          refine (own_lits HT.out.fst H0.out.1.fine.ll [] (D_l _ _)).mono ?_
          rintro e wk_ ⟨AN, cAN, rfl, _, _, _, hb⟩
          have t_ := Lib.hid (Two.below (foot_tr _ _ _) (foot_row _ _ _) HT.out hb)
          clear HT
          have HT := t_
          clear t_
          have t_ := Lib.hid (HB.out.trans (hb.mono HB.out.size))
          clear HB hb
          have HB := t_
          clear t_
          go_wp2_with fail
          go_ret
          exact ⟨rfl, HB.out⟩
end Go.Proofs.Ytdcemlennobjhaa.Tr
