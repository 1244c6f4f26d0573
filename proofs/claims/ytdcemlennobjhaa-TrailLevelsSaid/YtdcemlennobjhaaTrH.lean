/-
  The walk of Twin. Conditions: as each statement has them.
-/
import Derived.Test.YtdcemlennobjhaaTrG
namespace Go.Proofs.Ytdcemlennobjhaa.Tr
open Go.RowKit Go.Proofs.YtdcemlennobjhaaW.PrintWords Go.Proofs.YtdcemlennobjhaaW.PrintLast Go.Proofs.YtdcemlennobjhaaW.PrintMore Go.Proofs.Ytdcemlennobjhaa.PTrailPlays
set_option linter.unusedSimpArgs false
set_option linter.unusedVariables false

def X23.T1 : Bool × List (List Nat × List Nat) := (true, [([], []), ([0], [0]), ([1], [1]), ([2], [2]), ([3], [3]), ([], []), ([5], [5]), ([6], [6]), ([7], [7]), ([8, 4], [8]), ([], []), ([10], [10]), ([11], [11]), ([12], [12]), ([13, 9], [13]), ([4, 9, 14], [4, 9, 14]), ([15], [15]), ([16, 14, 0, 1, 2, 3, 4, 5, 6, 7, 8, 9, 10, 11, 12, 13, 14, 15, 16], [16])])
def X23.B1 : List Nat := [0, 1, 3, 7, 15, 0, 32, 96, 224, 511, 0, 1024, 3072, 7168, 16383, 32767, 65535, 131071]
theorem X23.tab1 : rtab .any (opsOf Try.f23 1) = X23.T1 := by kernel_rfl
theorem X23.bits1 : waitsOk X23.T1.2 X23.B1 = true := by kernel_rfl
set_option maxRecDepth 100000 in
set_option maxHeartbeats 4000000 in
theorem twin_any {w : World} {b g : Nat} {ok : Nat → Prop} {T : TS} (hT : At w b g ok T) (hF : Fine T) :
    Calls Try.prog 23 #[.pointer (some ⟨g, 0, none⟩)] w fun e w' => ∃ g', e = .returned (.pointer (some ⟨g', 0, none⟩)) ∧ At w' w.heap.size g' (fun k => w.heap.size ≤ k) T ∧ Below w.heap.size w w' := by
  obtain ⟨v0, v1, v2, hb, hog, hbg, h0, h1, h2⟩ := hT
  obtain ⟨A0, c0, rfl⟩ := Kd.R_slice h0
  obtain ⟨A1, c1, rfl⟩ := Kd.R_slice h1
  obtain ⟨A2, c2, rfl⟩ := Kd.R_slice h2
  obtain ⟨q, rfl, _, _, _, _⟩ := pl_cells h0 0 (by have := hF.n1; omega)
  have XG := Lib.hid (show w.drew.heap[g]? = some (.cells #[.slice (some ⟨q, 0, none⟩) T.of.length c0, .slice A1 T.l.length c1, .slice A2 T.frm.length c2] 61 (0, 0)) from hb)
  have X0 := Lib.hid (show Kd.C k69 w.drew (some ⟨q, 0, none⟩) T.of.length T.of from (Kd.R_reads' h0).2.2)
  have X1 := Lib.hid (show Kd.C (Kd.int .i64) w.drew A1 T.l.length T.l from (Kd.R_reads' h1).2.2)
  have X2 := Lib.hid (show Kd.C (Kd.int .i64) w.drew A2 T.frm.length T.frm from (Kd.R_reads' h2).2.2)
  have HB := Lib.hid ((Below.refl w.heap.size w).drew)
  have HFI := Lib.hid hF
  clear hb hog hbg h0 h1 h2 hF
  go_enter Try.func23, Try.ntmps23
  go_wp2_with fail
  refine start_ (n := 18) (S := fun w' => w'.heap[g]? = some (.cells #[.slice (some ⟨q, 0, none⟩) T.of.length c0, .slice A1 T.l.length c1, .slice A2 T.frm.length c2] 61 (0, 0))) (ds := []) #[false, false, false, false, false, false, false, false, false, false, false, false, false, false, false, false, false, false] (by kernel_rfl) rfl rfl XG.out (fun hHeld => ?_)
  refine with_tabW X23.tab1 X23.bits1 (fun HT_ HW_ => ?_)
  generalize w.drew = w1 at XG X0 X1 X2 HB hHeld ⊢
  refine pure_ (i := 0) (N := some 3) (v := ?_) (a' := ?_) #[true, false, false, false, false, false, false, false, false, false, false, false, false, false, false, false, false, false] rfl rfl (any_of HT_.out (by kernel_rfl)) (fun _ _ _ h => h) (Or.inl ⟨by rfl, ?_⟩) ?_ ?_
  rotate_left
  · intro w'
    go_simp
    with_reducible rfl
  rotate_left
  · simp only [Act.put, List.setIfInBounds_toArray, List.set_cons_zero, List.set_cons_succ, i64_w, i32_w]
    rfl
  refine pure_ (i := 1) (N := some 4) (v := ?_) (a' := ?_) #[true, true, false, false, false, false, false, false, false, false, false, false, false, false, false, false, false, false] rfl rfl (any_of HT_.out (by kernel_rfl)) (fun _ _ _ h => h) (Or.inl ⟨by rfl, ?_⟩) ?_ ?_
  rotate_left
  · intro w'
    go_simp
    with_reducible rfl
  rotate_left
  · simp only [Act.put, List.setIfInBounds_toArray, List.set_cons_zero, List.set_cons_succ, i64_w, i32_w]
    rfl
  refine pure_ (i := 2) (N := some 5) (v := ?_) (a' := ?_) #[true, true, true, false, false, false, false, false, false, false, false, false, false, false, false, false, false, false] rfl rfl (any_of HT_.out (by kernel_rfl)) (fun _ _ _ h => h) (Or.inl ⟨by rfl, ?_⟩) ?_ ?_
  rotate_left
  · intro w'
    go_simp
    with_reducible rfl
  rotate_left
  · simp only [Act.put, List.setIfInBounds_toArray, List.set_cons_zero, List.set_cons_succ, i64_w, i32_w]
    rfl
  refine take_ (i := 3) (N := some 6) (v := ?_) (a' := ?_) #[true, true, true, true, false, false, false, false, false, false, false, false, false, false, false, false, false, false] rfl rfl (take_ofW HT_.out HW_.out (by kernel_rfl)) (fun _ _ _ h => h) (Or.inl ⟨by rfl, ?_⟩) hHeld ?_ ?_
  rotate_left
  · intro w' hS_
    obtain ⟨k0_, k1_, k2_⟩ := cells3 hS_
    go_simp
    with_reducible rfl
  rotate_left
  · simp only [Act.put, List.setIfInBounds_toArray, List.set_cons_zero, List.set_cons_succ, i64_w, i32_w]
    rfl
  refine pure_ (i := 5) (N := some 8) (v := ?_) (a' := ?_) #[true, true, true, true, false, true, false, false, false, false, false, false, false, false, false, false, false, false] rfl rfl (any_of HT_.out (by kernel_rfl)) (fun _ _ _ h => h) (Or.inl ⟨by rfl, ?_⟩) ?_ ?_
  rotate_left
  · intro w'
    go_simp
    with_reducible rfl
  rotate_left
  · simp only [Act.put, List.setIfInBounds_toArray, List.set_cons_zero, List.set_cons_succ, i64_w, i32_w]
    rfl
  refine pure_ (i := 6) (N := some 9) (v := ?_) (a' := ?_) #[true, true, true, true, false, true, true, false, false, false, false, false, false, false, false, false, false, false] rfl rfl (any_of HT_.out (by kernel_rfl)) (fun _ _ _ h => h) (Or.inl ⟨by rfl, ?_⟩) ?_ ?_
  rotate_left
  · intro w'
    go_simp
    with_reducible rfl
  rotate_left
  · simp only [Act.put, List.setIfInBounds_toArray, List.set_cons_zero, List.set_cons_succ, i64_w, i32_w]
    rfl
  refine pure_ (i := 7) (N := some 10) (v := ?_) (a' := ?_) #[true, true, true, true, false, true, true, true, false, false, false, false, false, false, false, false, false, false] rfl rfl (any_of HT_.out (by kernel_rfl)) (fun _ _ _ h => h) (Or.inl ⟨by rfl, ?_⟩) ?_ ?_
  rotate_left
  · intro w'
    go_simp
    with_reducible rfl
  rotate_left
  · simp only [Act.put, List.setIfInBounds_toArray, List.set_cons_zero, List.set_cons_succ, i64_w, i32_w]
    rfl
  refine take_ (i := 8) (N := some 11) (v := ?_) (a' := ?_) #[true, true, true, true, false, true, true, true, true, false, false, false, false, false, false, false, false, false] rfl rfl (take_ofW HT_.out HW_.out (by kernel_rfl)) (fun _ _ _ h => h) (Or.inl ⟨by rfl, ?_⟩) hHeld ?_ ?_
  rotate_left
  · intro w' hS_
    obtain ⟨k0_, k1_, k2_⟩ := cells3 hS_
    go_simp
    with_reducible rfl
  rotate_left
  · simp only [Act.put, List.setIfInBounds_toArray, List.set_cons_zero, List.set_cons_succ, i64_w, i32_w]
    rfl
  refine pure_ (i := 10) (N := some 13) (v := ?_) (a' := ?_) #[true, true, true, true, false, true, true, true, true, false, true, false, false, false, false, false, false, false] rfl rfl (any_of HT_.out (by kernel_rfl)) (fun _ _ _ h => h) (Or.inl ⟨by rfl, ?_⟩) ?_ ?_
  rotate_left
  · intro w'
    go_simp
    with_reducible rfl
  rotate_left
  · simp only [Act.put, List.setIfInBounds_toArray, List.set_cons_zero, List.set_cons_succ, i64_w, i32_w]
    rfl
  refine pure_ (i := 11) (N := some 14) (v := ?_) (a' := ?_) #[true, true, true, true, false, true, true, true, true, false, true, true, false, false, false, false, false, false] rfl rfl (any_of HT_.out (by kernel_rfl)) (fun _ _ _ h => h) (Or.inl ⟨by rfl, ?_⟩) ?_ ?_
  rotate_left
  · intro w'
    go_simp
    with_reducible rfl
  rotate_left
  · simp only [Act.put, List.setIfInBounds_toArray, List.set_cons_zero, List.set_cons_succ, i64_w, i32_w]
    rfl
  refine pure_ (i := 12) (N := some 15) (v := ?_) (a' := ?_) #[true, true, true, true, false, true, true, true, true, false, true, true, true, false, false, false, false, false] rfl rfl (any_of HT_.out (by kernel_rfl)) (fun _ _ _ h => h) (Or.inl ⟨by rfl, ?_⟩) ?_ ?_
  rotate_left
  · intro w'
    go_simp
    with_reducible rfl
  rotate_left
  · simp only [Act.put, List.setIfInBounds_toArray, List.set_cons_zero, List.set_cons_succ, i64_w, i32_w]
    rfl
  refine take_ (i := 13) (N := some 16) (v := ?_) (a' := ?_) #[true, true, true, true, false, true, true, true, true, false, true, true, true, true, false, false, false, false] rfl rfl (take_ofW HT_.out HW_.out (by kernel_rfl)) (fun _ _ _ h => h) (Or.inl ⟨by rfl, ?_⟩) hHeld ?_ ?_
  rotate_left
  · intro w' hS_
    obtain ⟨k0_, k1_, k2_⟩ := cells3 hS_
    go_simp
    with_reducible rfl
  rotate_left
  · simp only [Act.put, List.setIfInBounds_toArray, List.set_cons_zero, List.set_cons_succ, i64_w, i32_w]
    rfl
  refine one_ (i := 4) (N := some 7) #[true, true, true, true, true, true, true, true, true, false, true, true, true, true, false, false, false, false] rfl rfl (one_of HT_.out (by kernel_rfl)) (by decide) (fun K hK => ?_)
  refine goes_ Try.func38 (by kernel_rfl) rfl #[.slice (some ⟨q, 0, none⟩) T.of.length c0] (by rfl) rfl rfl (by first | (go_simp; done) | (simp [Act.eval]; done)) ?_
  refine (clone_places ⟨q, 0, none⟩ T.of c0 w1 X0.out HFI.out.n2).mono ?_
  rintro e w2 ⟨u0, rfl, ho, hb⟩
  refine ⟨_, rfl, ?_⟩
  have t_ := Lib.hid (blk_below XG.out hb)
  clear XG
  have XG := t_
  clear t_
  have t_ := Lib.hid (Kd.C_below X1.out hb)
  clear X1
  have X1 := t_
  clear t_
  have t_ := Lib.hid (Kd.C_below X2.out hb)
  clear X2
  have X2 := t_
  clear t_
  have t_ := Lib.hid (HB.out.trans (hb.mono HB.out.size))
  have Y0 := Lib.hid (Kd.R_lower ho HB.out.size)
  clear HB ho hb X0
  have HB := t_
  clear t_
  refine hK.out _ _ XG.out (fun hHeld => ?_)
  clear hK K
  refine norm_ (a' := ?_) ?_ ?_
  rotate_left
  · show Act.put _ (some 7) _ = _
    simp only [Act.put, List.setIfInBounds_toArray, List.set_cons_zero, List.set_cons_succ, i64_w, i32_w]
    rfl
  refine one_ (i := 9) (N := some 12) #[true, true, true, true, true, true, true, true, true, true, true, true, true, true, false, false, false, false] rfl rfl (one_of HT_.out (by kernel_rfl)) (by decide) (fun K hK => ?_)
  refine goes_ Try.func32 (by kernel_rfl) rfl #[.slice A1 T.l.length c1] (by rfl) rfl rfl (by first | (go_simp; done) | (simp [Act.eval]; done)) ?_
  refine (clone_ints A1 T.l c1 w2 X1.out (by have := HFI.out.ll; omega)).mono ?_
  rintro e w3 ⟨u1, rfl, ho, hb⟩
  refine ⟨_, rfl, ?_⟩
  have t_ := Lib.hid (blk_below XG.out hb)
  clear XG
  have XG := t_
  clear t_
  have t_ := Lib.hid (Kd.C_below X2.out hb)
  clear X2
  have X2 := t_
  clear t_
  have t_ := Lib.hid (Kd.R_below Y0.out hb)
  clear Y0
  have Y0 := t_
  clear t_
  have t_ := Lib.hid (HB.out.trans (hb.mono HB.out.size))
  have Y1 := Lib.hid (Kd.R_lower ho HB.out.size)
  clear HB ho hb X1
  have HB := t_
  clear t_
  refine hK.out _ _ XG.out (fun hHeld => ?_)
  clear hK K
  refine norm_ (a' := ?_) ?_ ?_
  rotate_left
  · show Act.put _ (some 12) _ = _
    simp only [Act.put, List.setIfInBounds_toArray, List.set_cons_zero, List.set_cons_succ, i64_w, i32_w]
    rfl
  refine one_ (i := 14) (N := some 17) #[true, true, true, true, true, true, true, true, true, true, true, true, true, true, true, false, false, false] rfl rfl (one_of HT_.out (by kernel_rfl)) (by decide) (fun K hK => ?_)
  refine goes_ Try.func32 (by kernel_rfl) rfl #[.slice A2 T.frm.length c2] (by rfl) rfl rfl (by first | (go_simp; done) | (simp [Act.eval]; done)) ?_
  refine (clone_ints A2 T.frm c2 w3 X2.out (by have := HFI.out.fl; omega)).mono ?_
  rintro e w4 ⟨u2, rfl, ho, hb⟩
  refine ⟨_, rfl, ?_⟩
  have t_ := Lib.hid (blk_below XG.out hb)
  clear XG
  have XG := t_
  clear t_
  have t_ := Lib.hid (Kd.R_below Y0.out hb)
  clear Y0
  have Y0 := t_
  clear t_
  have t_ := Lib.hid (HB.out.trans (hb.mono HB.out.size))
  have Z1 := Lib.hid (Kd.R_elder Y1.out ho hb)
  have Z2 := Lib.hid (Kd.R_lower (Kd.R_newR ho Y1.out) HB.out.size)
  clear HB ho hb X2 Y1
  have HB := t_
  clear t_
  obtain ⟨B0, d0, rfl⟩ := Kd.R_slice Y0.out
  obtain ⟨B1, d1, rfl⟩ := Kd.R_slice Z1.out
  obtain ⟨B2, d2, rfl⟩ := Kd.R_slice Z2.out
  refine hK.out _ _ XG.out (fun hHeld => ?_)
  clear hK K
  refine norm_ (a' := ?_) ?_ ?_
  rotate_left
  · show Act.put _ (some 17) _ = _
    simp only [Act.put, List.setIfInBounds_toArray, List.set_cons_zero, List.set_cons_succ, i64_w, i32_w]
    rfl
  refine pure_ (i := 15) (N := some 18) (v := ?_) (a' := ?_) #[true, true, true, true, true, true, true, true, true, true, true, true, true, true, true, true, false, false] rfl rfl (any_of HT_.out (by kernel_rfl)) (fun _ _ _ h => h) (Or.inl ⟨by rfl, ?_⟩) ?_ ?_
  rotate_left
  · intro w'
    go_simp
    with_reducible rfl
  rotate_left
  · simp only [Act.put, List.setIfInBounds_toArray, List.set_cons_zero, List.set_cons_succ, i64_w, i32_w]
    rfl
  refine one_ (i := 16) (N := some 19) #[true, true, true, true, true, true, true, true, true, true, true, true, true, true, true, true, true, false] rfl rfl (one_of HT_.out (by kernel_rfl)) (by decide) (fun K hK => ?_)
  refine value_ (w1 := w4.alloc (.cells #[.slice B0 T.of.length d0, .slice B1 T.l.length d1, .slice B2 T.frm.length d2] 61)) (v := .pointer (some ⟨w4.heap.size, 0, none⟩)) (by rfl) rfl (by first | (go_simp; done) | (go_simp; rfl)) ?_
  refine hK.out _ _ (blk_alloc XG.out _) (fun hHeld => ?_)
  clear hK K
  refine norm_ (a' := ?_) ?_ ?_
  rotate_left
  · show Act.put _ (some 19) _ = _
    simp only [Act.put, List.setIfInBounds_toArray, List.set_cons_zero, List.set_cons_succ, i64_w, i32_w]
    rfl
  refine pure_ (i := 17) (N := some 2) (v := ?_) (a' := ?_) #[true, true, true, true, true, true, true, true, true, true, true, true, true, true, true, true, true, true] rfl rfl (any_of HT_.out (by kernel_rfl)) (fun _ _ _ h => h) (Or.inl ⟨by rfl, ?_⟩) ?_ ?_
  rotate_left
  · intro w'
    go_simp
    with_reducible rfl
  rotate_left
  · simp only [Act.put, List.setIfInBounds_toArray, List.set_cons_zero, List.set_cons_succ, i64_w, i32_w]
    rfl
  refine done_ (done_of HT_.out (by kernel_rfl)) ?_
  clear HT_ HW_ hHeld
  go_wp2_with fail
  go_ret
  have hs := HB.out.size
  refine ⟨w4.heap.size, rfl, ⟨_, _, _, blk_new w4 _, hs, hs, ?_, ?_, ?_⟩, below_alloc HB.out _⟩
  · exact Kd.R_mono (Kd.R_bound (Kd.R_alloc Y0.out _)) (fun k hk => hk.2.1)
  · exact Kd.R_mono (Kd.R_bound (Kd.R_alloc Z1.out _)) (fun k hk => ⟨hk.2.1, hk.1.2⟩)
  · exact Kd.R_mono (Kd.R_bound (Kd.R_alloc Z2.out _)) (fun k hk => ⟨hk.2.1, hk.1.2⟩)
end Go.Proofs.Ytdcemlennobjhaa.Tr
