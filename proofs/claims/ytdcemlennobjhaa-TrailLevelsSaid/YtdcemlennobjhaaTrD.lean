/-
  The walks of free and put. Conditions: as each statement has them.
-/
import Derived.Test.YtdcemlennobjhaaTrC
namespace Go.Proofs.Ytdcemlennobjhaa.Tr
open Go.RowKit Go.Proofs.YtdcemlennobjhaaW.PrintWords Go.Proofs.YtdcemlennobjhaaW.PrintLast Go.Proofs.YtdcemlennobjhaaW.PrintMore Go.Proofs.Ytdcemlennobjhaa.PTrailPlays
set_option linter.unusedSimpArgs false
set_option linter.unusedVariables false

theorem cells3 {w : World} {g : Nat} {v0 v1 v2 : Value} (h : w.heap[g]? = some (.cells #[v0, v1, v2] 61 (0, 0))) : w.cell? ⟨g, 0, none⟩ = some v0 ∧ w.cell? ⟨g, 1, none⟩ = some v1 ∧ w.cell? ⟨g, 2, none⟩ = some v2 := ⟨blk_cell h 0, blk_cell h 1, blk_cell h 2⟩
theorem info69 : (Try.prog.info? 69).map (fun i => (i.zero, i.size, i.bytes)) = some (some (.agg #[.int .i64 0, .int .i64 0, .int .i64 0]), 3, 24) := by kernel_rfl
theorem info28 : (Try.prog.info? 28).map (fun i => (i.zero, i.size, i.bytes)) = some (some (.slice none 0 0), 1, 24) := by kernel_rfl
/-- a place stored into the row of places -/
theorem R_place {w : World} {b q n c : Nat} {ok : Nat → Prop} {o : List S69} (h : Kd.R k69 69 w b ok (.slice (some ⟨q, 0, none⟩) n c) o) (m : Nat) (hm : m < o.length) (y0 y1 y2 : Int) :
    Kd.R k69 69 (((w.setCell ⟨q, m * 3, none⟩ (.int .i64 y0)).setCell ⟨q, m * 3 + 1, none⟩ (.int .i64 y1)).setCell ⟨q, m * 3 + 2, none⟩ (.int .i64 y2)) b ok (.slice (some ⟨q, 0, none⟩) n c) (o.set m ⟨y0, y1, y2⟩) ∧
      w.grownBy (((w.setCell ⟨q, m * 3, none⟩ (.int .i64 y0)).setCell ⟨q, m * 3 + 1, none⟩ (.int .i64 y1)).setCell ⟨q, m * 3 + 2, none⟩ (.int .i64 y2)) (some q) := by
  obtain ⟨hn, _, _⟩ := Kd.R_reads' h
  subst hn
  obtain ⟨q', hq, _, h0, h1, h2⟩ := pl_cells h m hm
  injection hq with hq
  injection hq with hq _ _
  subst hq
  have := Kd.R_seg h (m : Int) (by omega) (by omega) (c := [.int .i64 (o.getD m z69).f0, .int .i64 (o.getD m z69).f1, .int .i64 (o.getD m z69).f2]) (seg := [.int .i64 y0, .int .i64 y1, .int .i64 y2]) (j := 0) (x' := ⟨y0, y1, y2⟩) (okp := fun _ => False) rfl (fun j u hu => by
    rw [Int.toNat_natCast]
    match j, hu with
    | 0, hu => simpa using (by simpa using hu ▸ h0)
    | 1, hu => exact (by simp at hu; subst hu; exact h1)
    | 2, hu => exact (by simp at hu; subst hu; exact h2)
    | k + 3, hu => simp at hu) (by simp [k69, Kd.iso, Kd.pair, Kd.int, Kd.scalar]) (k69_mkM w b _ ⟨y0, y1, y2⟩) (fun _ hk => hk.elim)
  rw [Int.toNat_natCast] at this
  exact this

def X31.T0 : Bool × List (List Nat × List Nat) := (true, [([], []), ([0], [0]), ([1], [1]), ([2], [2]), ([], []), ([4], [4]), ([], []), ([], []), ([7], [7]), ([8], [8]), ([9], [9]), ([10], [10]), ([], []), ([6, 11, 12], [6, 11, 12]), ([3, 5, 0, 1, 2, 3, 4, 5, 6, 7, 8, 9, 10, 11, 12, 13], [3, 5]), ([14, 13, 5, 0, 1, 2, 3, 4, 5, 6, 7, 8, 9, 10, 11, 12, 13], [13, 14])])
def X31.B0 : List Nat := [0, 1, 3, 7, 0, 16, 0, 0, 128, 384, 896, 1920, 0, 8128, 16383, 32767]
theorem X31.tab0 : rtab .any (opsOf Try.f31 0) = X31.T0 := by kernel_rfl
theorem X31.bits0 : waitsOk X31.T0.2 X31.B0 = true := by kernel_rfl
set_option maxRecDepth 100000 in
set_option maxHeartbeats 4000000 in
theorem put_any {w : World} {b g : Nat} {ok : Nat → Prop} {T : TS} (hT : At w b g ok T) (hn : T.of.length ≤ 257) (hll : T.l.length ≤ 100000) (x r : Int) (hlt : x.natAbs < T.of.length) :
    Calls Try.prog 31 #[.pointer (some ⟨g, 0, none⟩), .int .i64 x, .int .i64 r] w fun e w' => e = .returned (.tuple #[]) ∧ At w' b g (newer w ok) (put T x r) ∧ Fr w w' ok := by
  obtain ⟨v0, v1, v2, hb, hog, hbg, h0, h1, h2⟩ := hT
  obtain ⟨A0, c0, rfl⟩ := Kd.R_slice h0
  obtain ⟨A1, c1, rfl⟩ := Kd.R_slice h1
  obtain ⟨A2, c2, rfl⟩ := Kd.R_slice h2
  obtain ⟨q, rfl, _, _, _, _⟩ := pl_cells h0 x.natAbs hlt
  have hA := Lib.hid (fun w => at_any x (by omega) w)
  obtain ⟨m, hm⟩ : ∃ m : Nat, x.natAbs = m := ⟨_, rfl⟩
  obtain ⟨l1, hl1⟩ : ∃ l1, T.l ++ [x] = l1 := ⟨_, rfl⟩
  have HPUT : Hid (put T x r = ⟨T.of.set m ⟨x, (T.frm.length : Int), r⟩, l1, T.frm⟩) := Lib.hid (by unfold put; rw [hm, hl1])
  have HL1 := Lib.hid hl1
  clear hl1
  rw [hm] at hA hlt
  have hlt' : (m : Int) < (T.of.length : Int) := by omega
  have hm0 : (0 : Int) ≤ (m : Int) := by omega
  have HM := Lib.hid hlt
  have HG := Lib.hid (show w.drew.heap[g]? = some (.cells #[.slice (some ⟨q, 0, none⟩) T.of.length c0, .slice A1 T.l.length c1, .slice A2 T.frm.length c2] 61 (0, 0)) from hb)
  have H0 := Lib.hid (Kd.R_drew h0)
  have H1 := Lib.hid (Kd.R_drew h1)
  have H2 := Lib.hid (Kd.R_drew h2)
  have HOG := Lib.hid (And.intro hog hbg)
  have HLL := Lib.hid hll
  have HSZ : Hid (w.drew.heap.size = w.heap.size) := Lib.hid rfl
  have HFR : Hid (Fr w w.drew ok) := Lib.hid (Fr.drew (Fr.refl w ok))
  clear hm hlt hb h0 h1 h2 hog hbg hll hn
  go_enter Try.func31, Try.ntmps31
  go_wp2_with fail
  refine start_ (n := 16) (S := fun w' => w'.heap[g]? = some (.cells #[.slice (some ⟨q, 0, none⟩) T.of.length c0, .slice A1 T.l.length c1, .slice A2 T.frm.length c2] 61 (0, 0))) (ds := []) #[false, false, false, false, false, false, false, false, false, false, false, false, false, false, false, false] (by kernel_rfl) rfl rfl HG.out (fun hHeld => ?_)
  refine with_tabW X31.tab0 X31.bits0 (fun HT_ HW_ => ?_)
  generalize w.drew = w1 at HG H0 H1 H2 HSZ HFR hHeld ⊢
  refine pure_ (i := 0) (N := some 6) (v := ?_) (a' := ?_) #[true, false, false, false, false, false, false, false, false, false, false, false, false, false, false, false] rfl rfl (any_of HT_.out (by kernel_rfl)) (fun _ _ _ h => h) (Or.inl ⟨by rfl, ?_⟩) ?_ ?_
  rotate_left
  · intro w'
    go_simp
    with_reducible rfl
  rotate_left
  · simp only [Act.put, List.setIfInBounds_toArray, List.set_cons_zero, List.set_cons_succ, i64_w, i32_w]
    rfl
  refine pure_ (i := 1) (N := some 7) (v := ?_) (a' := ?_) #[true, true, false, false, false, false, false, false, false, false, false, false, false, false, false, false] rfl rfl (any_of HT_.out (by kernel_rfl)) (fun _ _ _ h => h) (Or.inl ⟨by rfl, ?_⟩) ?_ ?_
  rotate_left
  · intro w'
    go_simp
    with_reducible rfl
  rotate_left
  · simp only [Act.put, List.setIfInBounds_toArray, List.set_cons_zero, List.set_cons_succ, i64_w, i32_w]
    rfl
  refine pure_ (i := 2) (N := some 8) (v := ?_) (a' := ?_) #[true, true, true, false, false, false, false, false, false, false, false, false, false, false, false, false] rfl rfl (any_of HT_.out (by kernel_rfl)) (fun _ _ _ h => h) (Or.inl ⟨by rfl, ?_⟩) ?_ ?_
  rotate_left
  · intro w'
    go_simp
    with_reducible rfl
  rotate_left
  · simp only [Act.put, List.setIfInBounds_toArray, List.set_cons_zero, List.set_cons_succ, i64_w, i32_w]
    rfl
  refine take_ (i := 3) (N := some 9) (v := ?_) (a' := ?_) #[true, true, true, true, false, false, false, false, false, false, false, false, false, false, false, false] rfl rfl (take_ofW HT_.out HW_.out (by kernel_rfl)) (fun _ _ _ h => h) (Or.inl ⟨by rfl, ?_⟩) hHeld ?_ ?_
  rotate_left
  · intro w' hS_
    obtain ⟨k0_, k1_, k2_⟩ := cells3 hS_
    go_simp
    with_reducible rfl
  rotate_left
  · simp only [Act.put, List.setIfInBounds_toArray, List.set_cons_zero, List.set_cons_succ, i64_w, i32_w]
    rfl
  refine pure_ (i := 4) (N := some 10) (v := ?_) (a' := ?_) #[true, true, true, true, true, false, false, false, false, false, false, false, false, false, false, false] rfl rfl (any_of HT_.out (by kernel_rfl)) (fun _ _ _ h => h) (Or.inl ⟨by rfl, ?_⟩) ?_ ?_
  rotate_left
  · intro w'
    go_simp
    with_reducible rfl
  rotate_left
  · simp only [Act.put, List.setIfInBounds_toArray, List.set_cons_zero, List.set_cons_succ, i64_w, i32_w]
    rfl
  refine pure_ (i := 6) (N := some 12) (v := ?_) (a' := ?_) #[true, true, true, true, true, false, true, false, false, false, false, false, false, false, false, false] rfl rfl (any_of HT_.out (by kernel_rfl)) (fun _ _ _ h => h) (Or.inl ⟨by rfl, ?_⟩) ?_ ?_
  rotate_left
  · intro w'
    go_simp
    with_reducible rfl
  rotate_left
  · simp only [Act.put, List.setIfInBounds_toArray, List.set_cons_zero, List.set_cons_succ, i64_w, i32_w]
    rfl
  refine pure_ (i := 7) (N := some 13) (v := ?_) (a' := ?_) #[true, true, true, true, true, false, true, true, false, false, false, false, false, false, false, false] rfl rfl (any_of HT_.out (by kernel_rfl)) (fun _ _ _ h => h) (Or.inl ⟨by rfl, ?_⟩) ?_ ?_
  rotate_left
  · intro w'
    go_simp
    with_reducible rfl
  rotate_left
  · simp only [Act.put, List.setIfInBounds_toArray, List.set_cons_zero, List.set_cons_succ, i64_w, i32_w]
    rfl
  refine pure_ (i := 8) (N := some 14) (v := ?_) (a' := ?_) #[true, true, true, true, true, false, true, true, true, false, false, false, false, false, false, false] rfl rfl (any_of HT_.out (by kernel_rfl)) (fun _ _ _ h => h) (Or.inl ⟨by rfl, ?_⟩) ?_ ?_
  rotate_left
  · intro w'
    go_simp
    with_reducible rfl
  rotate_left
  · simp only [Act.put, List.setIfInBounds_toArray, List.set_cons_zero, List.set_cons_succ, i64_w, i32_w]
    rfl
  refine pure_ (i := 9) (N := some 15) (v := ?_) (a' := ?_) #[true, true, true, true, true, false, true, true, true, true, false, false, false, false, false, false] rfl rfl (any_of HT_.out (by kernel_rfl)) (fun _ _ _ h => h) (Or.inl ⟨by rfl, ?_⟩) ?_ ?_
  rotate_left
  · intro w'
    go_simp
    with_reducible rfl
  rotate_left
  · simp only [Act.put, List.setIfInBounds_toArray, List.set_cons_zero, List.set_cons_succ, i64_w, i32_w]
    rfl
  refine take_ (i := 10) (N := some 16) (v := ?_) (a' := ?_) #[true, true, true, true, true, false, true, true, true, true, true, false, false, false, false, false] rfl rfl (take_ofW HT_.out HW_.out (by kernel_rfl)) (fun _ _ _ h => h) (Or.inl ⟨by rfl, ?_⟩) hHeld ?_ ?_
  rotate_left
  · intro w' hS_
    obtain ⟨k0_, k1_, k2_⟩ := cells3 hS_
    go_simp
    with_reducible rfl
  rotate_left
  · simp only [Act.put, List.setIfInBounds_toArray, List.set_cons_zero, List.set_cons_succ, i64_w, i32_w]
    rfl
  refine pure_ (i := 11) (N := some 17) (v := ?_) (a' := ?_) #[true, true, true, true, true, false, true, true, true, true, true, true, false, false, false, false] rfl rfl (any_of HT_.out (by kernel_rfl)) (fun _ _ _ h => h) (Or.inl ⟨by rfl, ?_⟩) ?_ ?_
  rotate_left
  · intro w'
    go_simp
    with_reducible rfl
  rotate_left
  · simp only [Act.put, List.setIfInBounds_toArray, List.set_cons_zero, List.set_cons_succ, i64_w, i32_w]
    rfl
  refine pure_ (i := 12) (N := some 18) (v := ?_) (a' := ?_) #[true, true, true, true, true, false, true, true, true, true, true, true, true, false, false, false] rfl rfl (any_of HT_.out (by kernel_rfl)) (fun _ _ _ h => h) (Or.inl ⟨by rfl, ?_⟩) ?_ ?_
  rotate_left
  · intro w'
    go_simp
    with_reducible rfl
  rotate_left
  · simp only [Act.put, List.setIfInBounds_toArray, List.set_cons_zero, List.set_cons_succ, i64_w, i32_w]
    rfl
  refine pure_ (i := 13) (N := some 19) (v := ?_) (a' := ?_) #[true, true, true, true, true, false, true, true, true, true, true, true, true, true, false, false] rfl rfl (any_of HT_.out (by kernel_rfl)) (fun _ _ _ h => h) (Or.inl ⟨by rfl, ?_⟩) ?_ ?_
  rotate_left
  · intro w'
    go_simp
    with_reducible rfl
  rotate_left
  · simp only [Act.put, List.setIfInBounds_toArray, List.set_cons_zero, List.set_cons_succ, i64_w, i32_w]
    rfl
  refine one_ (i := 5) (N := some 11) #[true, true, true, true, true, true, true, true, true, true, true, true, true, true, false, false] rfl rfl (one_of HT_.out (by kernel_rfl)) (by decide) (fun K hK => ?_)
  refine goes_ Try.func34 (by kernel_rfl) rfl #[.int .i64 x] (by rfl) rfl rfl (by first | (go_simp; done) | (simp [Act.eval]; done)) ?_
  refine (hA.out _).mono ?_
  rintro e w' ⟨rfl, hw_⟩
  replace hw_ := hw_.symm
  subst hw_
  refine ⟨_, rfl, ?_⟩
  refine hK.out _ _ HG.out (fun hHeld => ?_)
  clear hK K
  refine norm_ (a' := ?_) ?_ ?_
  rotate_left
  · show Act.put _ (some 11) _ = _
    simp only [Act.put, List.setIfInBounds_toArray, List.set_cons_zero, List.set_cons_succ, i64_w, i32_w]
    rfl
  refine pure_ (i := 14) (N := some 20) (v := ?_) (a' := ?_) #[true, true, true, true, true, true, true, true, true, true, true, true, true, true, true, false] rfl rfl (any_of HT_.out (by kernel_rfl)) (fun _ _ _ h => h) (Or.inl ⟨by rfl, ?_⟩) ?_ ?_
  rotate_left
  · intro w'
    go_simp
    with_reducible rfl
  rotate_left
  · simp only [Act.put, List.setIfInBounds_toArray, List.set_cons_zero, List.set_cons_succ, i64_w, i32_w]
    rfl
  refine one_ (i := 15) (N := none) #[true, true, true, true, true, true, true, true, true, true, true, true, true, true, true, true] rfl rfl (one_of HT_.out (by kernel_rfl)) (by decide) (fun K hK => ?_)
  have hqc := pl_cells H0.out m HM.out
  obtain ⟨q', hqe, hql, k0, k1, k2⟩ := hqc
  injection hqe with hqe
  injection hqe with hqe _ _
  subst hqe
  have hfz : ∀ j, w1.frozen? ⟨q, j, none⟩ = false := fun j => by obtain ⟨cc, hcc⟩ := Kd.R_typed H0.out q rfl; exact blk_frozen hcc _
  have hf0 := hfz (m * 3)
  have hf1 := hfz (m * 3 + 1)
  have hf2 := hfz (m * 3 + 2)
  clear hfz
  refine skip_ (w1 := ?_) (by rfl) rfl ?_ ?_
  rotate_left
  · go_simp
    rfl
  clear hf0 hf1 hf2 k0 k1 k2
  obtain ⟨hR, hgr⟩ := R_place H0.out m HM.out x (T.frm.length : Int) r
  have X1 := Lib.hid (Kd.R_over' (v := .slice (some ⟨q, 0, none⟩) T.of.length c0) H1.out (Kd.R_typed H0.out) (by decide) hgr)
  have X2 := Lib.hid (Kd.R_over' (v := .slice (some ⟨q, 0, none⟩) T.of.length c0) H2.out (Kd.R_typed H0.out) (by decide) hgr)
  have XG := Lib.hid (blk_grown HG.out hgr (Kd.R_ne H0.out HG.out (by decide)))
  have XF := Lib.hid (HFR.out.trans (Fr.grown (ok := ok) hgr (fun k hk => H0.out.1 k hk)) (fun _ _ hk => hk))
  have XZ := Lib.hid (Nat.le_trans (Nat.le_of_eq HSZ.out.symm) hgr.size)
  have X0 := Lib.hid hR
  clear HG H0 H1 H2 HSZ HFR hR hgr hHeld hql
  generalize ((w1.setCell { block := q, off := m * 3, spot := none } (Value.int IntKind.i64 x)).setCell { block := q, off := m * 3 + 1, spot := none } (Value.int IntKind.i64 ↑T.frm.length)).setCell { block := q, off := m * 3 + 2, spot := none } (Value.int IntKind.i64 r) = w2 at X0 X1 X2 XG XF XZ ⊢
  refine hK.out _ _ XG.out (fun hHeld => ?_)
  clear hK K
  refine done_ (done_of HT_.out (by kernel_rfl)) ?_
  clear HT_ HW_ hHeld
  have hk1 : w2.cell? ⟨g, 1, none⟩ = some (.slice A1 T.l.length c1) := (cells3 XG.out).2.1
  have hlen : (T.l.length : Int) ≤ 100000 := by have := HLL.out; omega
  have hbw : b ≤ w2.heap.size := by have := HOG.out.2; have := blk_lt XG.out; omega
  go_wp2_with ((with_reducible refine gate_builtin (b := .append) (xs := #[.tmp 25, .tmp 27]) rfl ?_); at_builtin; refine Kd.R_append (Kd.int .i64) (w0 := w2) b rfl (.tmp 25) (.tmp 27) 28 3 (.int .i64 0) 8 rfl Try.underlying28 info3 rfl (by decide) (by omega) _ T.l x [.int .i64 x] (fun k => newer w ok k ∧ some k ≠ (Value.slice A2 T.frm.length c2).ownBlock) (fun _ => False) rfl rfl rfl (fun _ hk => hk.elim) ?aF ?aO (Below.refl _ _) hbw (by have := HLL.out; omega) ?_; (case aF => exact fun k hk => ⟨Or.inr (Nat.le_trans XZ.out hk), Kd.fresh_ok X2.out k hk⟩); (case aO => exact Kd.R_mono X1.out (fun k hk => ⟨Or.inl hk.1, hk.2⟩)); intro v1 w3 ho hb hg hat; rw [HL1.out] at ho; obtain ⟨A3, c3, rfl⟩ := Kd.R_slice ho; have Y1 := Lib.hid ho; have YG := Lib.hid (blk_grown XG.out hg (Kd.R_ne X1.out XG.out (by decide))); have Y0 := Lib.hid (Kd.R_over' X0.out (Kd.R_typed X1.out) (by decide) hg); have Y2 := Lib.hid (Kd.R_after X2.out hg hat); have YF := Lib.hid (XF.out.trans (Fr.grown (ok := ok) hg (fun k hk => (X1.out.1 k hk).1)) (fun _ _ hk => hk)); clear X0 X1 X2 XG XF XZ ho hb hg hat hk1; have hk1 := (cells3 YG.out).2.1; have hf1 := blk_frozen YG.out 1)
  go_end0
  refine ⟨rfl, ?_, ?_⟩
  · rw [HPUT.out]
    exact ⟨_, _, _, blk_put YG.out 1 _ rfl, Or.inl HOG.out.1, HOG.out.2, Kd.R_mono (Kd.R_set Y0.out YG.out (by decide) 1 _) (fun _ hk => Or.inl hk), Kd.R_set Y1.out YG.out (by decide) 1 _, Kd.R_mono (Kd.R_set Y2.out YG.out (by decide) 1 _) (fun _ hk => ⟨Or.inl hk.1, hk.2⟩)⟩
  · exact YF.out.trans (Fr.set (ok := ok) ⟨g, 1, none⟩ _ HOG.out.1) (fun _ _ hk => hk)
theorem may_zero {T : TS} {x : Int} (h : may T x = 0) : kn T x = true ∧ (pl T x).f0 = 0 := by
  unfold may at h
  split at h
  · rename_i h1
    split at h
    · rename_i h2; exact ⟨h1, h2⟩
    · cases h
  · cases h
theorem goesP_ {P : Program} {ops : Array Oper} {Q : Exit → Act → World → Prop} {oi : Oper} {N : Option Tmp} {a : Act} {w : World} {K : Act → World → Prop} {f : FuncId} {fn : Func} {ass : Array Operand} {ts : Array TypeId} (hf : P.funcs[f]? = some fn) (hname : (fn.name == "runtime.NumGoroutine") = false) (hb : fn.body.isSome = true) (args : Array Value)
    (hw : Region.wanted oi (yielded ops a.tmps) = true) (hN : oi.dst = N) (hop : oi.op = .call { callee := .value (.func f), args := ass, argTypes := ts }) (hargs : ass.map a.eval = args)
    (h : Calls P f args w fun e w' => ∃ c, e = .panicked c ∧ Q (.panic c) a w') : if Region.wanted oi (yielded ops a.tmps) = true then Oper.wp P oi a w K Q else K (a.put N undef) w := by
  have he := enters_ hf hname hb args w
  have hrun : (execOp a.eval oi).run P w = .ok (.enter f args) w := by
    unfold execOp
    simp [hop, resolve, Deferred.ofValue, invoke, Act.eval, hargs, he]
  rw [if_pos hw]
  subst hN
  unfold Oper.wp
  rw [hrun, Oper.upon_enter]
  refine h.mono fun e w'' hh => ?_
  obtain ⟨c, rfl, hk⟩ := hh
  exact hk

def X30.T1 : Bool × List (List Nat × List Nat) := (true, [([], []), ([0], [0]), ([1], [1]), ([2], [2]), ([], []), ([4], [4]), ([3, 5], [3, 5]), ([6], [6]), ([7], [7]), ([8], [8]), ([9, 5], [9])])
def X30.B1 : List Nat := [0, 1, 3, 7, 0, 16, 63, 127, 255, 511, 1023]
theorem X30.tab1 : rtab .any (opsOf Try.f30 1) = X30.T1 := by kernel_rfl
theorem X30.bits1 : waitsOk X30.T1.2 X30.B1 = true := by kernel_rfl
set_option maxRecDepth 100000 in
set_option maxHeartbeats 4000000 in
theorem free_ok {w : World} {b g : Nat} {ok : Nat → Prop} {T : TS} (hT : At w b g ok T) (hn : T.of.length ≤ 257) (x : Int) (hm0 : may T x = 0) :
    Calls Try.prog 30 #[.pointer (some ⟨g, 0, none⟩), .int .i64 x] w fun e w' => e = .returned (.tuple #[]) ∧ Below w.heap.size w w' := by
  obtain ⟨hkn, hz⟩ := may_zero hm0
  clear hm0
  have HK := Lib.hid (known_any hT hn x)
  rw [hkn] at HK
  obtain ⟨_, hlt⟩ := kn_abs hkn
  have hA := Lib.hid (fun w => at_any x (by omega) w)
  obtain ⟨v0, v1, v2, hb, _, _, h0, _, _⟩ := hT
  obtain ⟨A0, c0, rfl⟩ := Kd.R_slice h0
  obtain ⟨q, rfl, _, hp0, _, _⟩ := pl_cells h0 x.natAbs hlt
  rw [show T.of.getD x.natAbs z69 = pl T x from rfl] at hp0
  obtain ⟨m, hm⟩ : ∃ m : Nat, x.natAbs = m := ⟨_, rfl⟩
  rw [hm] at hA hp0 hlt
  obtain ⟨y, hy⟩ : ∃ y, (pl T x).f0 = y := ⟨_, rfl⟩
  rw [hy] at hp0 hz
  have hlt' : (m : Int) < (T.of.length : Int) := by omega
  have hm0 : (0 : Int) ≤ (m : Int) := by omega
  have HG := Lib.hid (show w.drew.heap[g]? = some (.cells #[.slice (some ⟨q, 0, none⟩) T.of.length c0, v1, v2] 61 (0, 0)) ∧ w.drew.cell? ⟨q, m * 3, none⟩ = some (.int .i64 y) from ⟨hb, hp0⟩)
  have HB := Lib.hid ((Below.refl w.heap.size w).drew)
  clear hkn hy hm h0 hb hn hlt hp0
  go_enter Try.func30, Try.ntmps30
  go_wp2_with fail
  refine HK.out.mono ?_
  rintro e w' ⟨rfl, rfl⟩
  go_wp2_with ((with_reducible refine (must_true _ _).mono ?_); rintro e w' ⟨rfl, rfl⟩)
  refine start_ (n := 11) (S := fun w' => w'.heap[g]? = some (.cells #[.slice (some ⟨q, 0, none⟩) T.of.length c0, v1, v2] 61 (0, 0)) ∧ w'.cell? ⟨q, m * 3, none⟩ = some (.int .i64 y)) (ds := []) #[false, false, false, false, false, false, false, false, false, false, false] (by kernel_rfl) rfl rfl HG.out (fun hHeld => ?_)
  refine with_tabW X30.tab1 X30.bits1 (fun HT_ HW_ => ?_)
  subst hz
  generalize w.drew = w1 at HG HB hHeld ⊢
  clear HK
  refine pure_ (i := 0) (N := some 8) (v := ?_) (a' := ?_) #[true, false, false, false, false, false, false, false, false, false, false] rfl rfl (any_of HT_.out (by kernel_rfl)) (fun _ _ _ h => h) (Or.inl ⟨by rfl, ?_⟩) ?_ ?_
  rotate_left
  · intro w'
    go_simp
    with_reducible rfl
  rotate_left
  · simp only [Act.put, List.setIfInBounds_toArray, List.set_cons_zero, List.set_cons_succ, i64_w, i32_w]
    rfl
  refine pure_ (i := 1) (N := some 9) (v := ?_) (a' := ?_) #[true, true, false, false, false, false, false, false, false, false, false] rfl rfl (any_of HT_.out (by kernel_rfl)) (fun _ _ _ h => h) (Or.inl ⟨by rfl, ?_⟩) ?_ ?_
  rotate_left
  · intro w'
    go_simp
    with_reducible rfl
  rotate_left
  · simp only [Act.put, List.setIfInBounds_toArray, List.set_cons_zero, List.set_cons_succ, i64_w, i32_w]
    rfl
  refine pure_ (i := 2) (N := some 10) (v := ?_) (a' := ?_) #[true, true, true, false, false, false, false, false, false, false, false] rfl rfl (any_of HT_.out (by kernel_rfl)) (fun _ _ _ h => h) (Or.inl ⟨by rfl, ?_⟩) ?_ ?_
  rotate_left
  · intro w'
    go_simp
    with_reducible rfl
  rotate_left
  · simp only [Act.put, List.setIfInBounds_toArray, List.set_cons_zero, List.set_cons_succ, i64_w, i32_w]
    rfl
  refine take_ (i := 3) (N := some 11) (v := ?_) (a' := ?_) #[true, true, true, true, false, false, false, false, false, false, false] rfl rfl (take_ofW HT_.out HW_.out (by kernel_rfl)) (fun _ _ _ h => h) (Or.inl ⟨by rfl, ?_⟩) hHeld ?_ ?_
  rotate_left
  · intro w' hS_
    obtain ⟨k0_, k1_, k2_⟩ := cells3 hS_.1
    have k3_ := hS_.2
    go_simp
    with_reducible rfl
  rotate_left
  · simp only [Act.put, List.setIfInBounds_toArray, List.set_cons_zero, List.set_cons_succ, i64_w, i32_w]
    rfl
  refine pure_ (i := 4) (N := some 12) (v := ?_) (a' := ?_) #[true, true, true, true, true, false, false, false, false, false, false] rfl rfl (any_of HT_.out (by kernel_rfl)) (fun _ _ _ h => h) (Or.inl ⟨by rfl, ?_⟩) ?_ ?_
  rotate_left
  · intro w'
    go_simp
    with_reducible rfl
  rotate_left
  · simp only [Act.put, List.setIfInBounds_toArray, List.set_cons_zero, List.set_cons_succ, i64_w, i32_w]
    rfl
  refine one_ (i := 5) (N := some 13) #[true, true, true, true, true, true, false, false, false, false, false] rfl rfl (one_of HT_.out (by kernel_rfl)) (by decide) (fun K hK => ?_)
  refine goes_ Try.func34 (by kernel_rfl) rfl #[.int .i64 x] (by rfl) rfl rfl (by first | (go_simp; done) | (simp [Act.eval]; done)) ?_
  refine (hA.out _).mono ?_
  rintro e w' ⟨rfl, hw_⟩
  replace hw_ := hw_.symm
  subst hw_
  refine ⟨_, rfl, ?_⟩
  refine hK.out _ _ HG.out (fun hHeld => ?_)
  clear hK K
  refine norm_ (a' := ?_) ?_ ?_
  rotate_left
  · show Act.put _ (some 13) _ = _
    simp only [Act.put, List.setIfInBounds_toArray, List.set_cons_zero, List.set_cons_succ, i64_w, i32_w]
    rfl
  refine pure_ (i := 6) (N := some 14) (v := ?_) (a' := ?_) #[true, true, true, true, true, true, true, false, false, false, false] rfl rfl (any_of HT_.out (by kernel_rfl)) (fun _ _ _ h => h) (Or.inl ⟨by rfl, ?_⟩) ?_ ?_
  rotate_left
  · intro w'
    go_simp
    with_reducible rfl
  rotate_left
  · simp only [Act.put, List.setIfInBounds_toArray, List.set_cons_zero, List.set_cons_succ, i64_w, i32_w]
    rfl
  refine pure_ (i := 7) (N := some 15) (v := ?_) (a' := ?_) #[true, true, true, true, true, true, true, true, false, false, false] rfl rfl (any_of HT_.out (by kernel_rfl)) (fun _ _ _ h => h) (Or.inl ⟨by rfl, ?_⟩) ?_ ?_
  rotate_left
  · intro w'
    go_simp
    with_reducible rfl
  rotate_left
  · simp only [Act.put, List.setIfInBounds_toArray, List.set_cons_zero, List.set_cons_succ, i64_w, i32_w]
    rfl
  refine take_ (i := 8) (N := some 16) (v := ?_) (a' := ?_) #[true, true, true, true, true, true, true, true, true, false, false] rfl rfl (take_ofW HT_.out HW_.out (by kernel_rfl)) (fun _ _ _ h => h) (Or.inl ⟨by rfl, ?_⟩) hHeld ?_ ?_
  rotate_left
  · intro w' hS_
    obtain ⟨k0_, k1_, k2_⟩ := cells3 hS_.1
    have k3_ := hS_.2
    go_simp
    with_reducible rfl
  rotate_left
  · simp only [Act.put, List.setIfInBounds_toArray, List.set_cons_zero, List.set_cons_succ, i64_w, i32_w]
    rfl
  refine pure_ (i := 9) (N := some 17) (v := ?_) (a' := ?_) #[true, true, true, true, true, true, true, true, true, true, false] rfl rfl (any_of HT_.out (by kernel_rfl)) (fun _ _ _ h => h) (Or.inl ⟨by rfl, ?_⟩) ?_ ?_
  rotate_left
  · intro w'
    go_simp
    with_reducible rfl
  rotate_left
  · simp only [Act.put, List.setIfInBounds_toArray, List.set_cons_zero, List.set_cons_succ, i64_w, i32_w]
    rfl
  refine one_ (i := 10) (N := some 18) #[true, true, true, true, true, true, true, true, true, true, true] rfl rfl (one_of HT_.out (by kernel_rfl)) (by decide) (fun K hK => ?_)
  refine goes_ Try.func33 (by kernel_rfl) rfl #[.bool true, .int .i64 6] (by rfl) rfl rfl (by first | (go_simp; done) | (simp [Act.eval]; done)) ?_
  refine (must_true 6 _).mono ?_
  rintro e w' ⟨rfl, rfl⟩
  refine ⟨_, rfl, ?_⟩
  refine hK.out _ _ HG.out (fun hHeld => ?_)
  clear hK K
  refine norm_ (a' := ?_) ?_ ?_
  rotate_left
  · show Act.put _ (some 18) _ = _
    simp only [Act.put, List.setIfInBounds_toArray, List.set_cons_zero, List.set_cons_succ, i64_w, i32_w]
    rfl
  refine done_ (done_of HT_.out (by kernel_rfl)) ?_
  clear HT_ HW_ hHeld
  go_end0
  exact ⟨rfl, HB.out⟩
set_option maxRecDepth 100000 in
set_option maxHeartbeats 4000000 in
theorem free_twice {w : World} {b g : Nat} {ok : Nat → Prop} {T : TS} (hT : At w b g ok T) (hn : T.of.length ≤ 257) (x : Int) (hkn : kn T x = true) (hne : (pl T x).f0 ≠ 0) :
    Calls Try.prog 30 #[.pointer (some ⟨g, 0, none⟩), .int .i64 x] w fun e w' => e = .panicked (wrong 6) ∧ Below w.heap.size w w' := by
  have hz : ((pl T x).f0 == 0) = false := beq_eq_false_iff_ne.mpr hne
  clear hne
  have HK := Lib.hid (known_any hT hn x)
  rw [hkn] at HK
  obtain ⟨_, hlt⟩ := kn_abs hkn
  have hA := Lib.hid (fun w => at_any x (by omega) w)
  obtain ⟨v0, v1, v2, hb, _, _, h0, _, _⟩ := hT
  obtain ⟨A0, c0, rfl⟩ := Kd.R_slice h0
  obtain ⟨q, rfl, _, hp0, _, _⟩ := pl_cells h0 x.natAbs hlt
  rw [show T.of.getD x.natAbs z69 = pl T x from rfl] at hp0
  obtain ⟨m, hm⟩ : ∃ m : Nat, x.natAbs = m := ⟨_, rfl⟩
  rw [hm] at hA hp0 hlt
  obtain ⟨y, hy⟩ : ∃ y, (pl T x).f0 = y := ⟨_, rfl⟩
  rw [hy] at hp0 hz
  have hlt' : (m : Int) < (T.of.length : Int) := by omega
  have hm0 : (0 : Int) ≤ (m : Int) := by omega
  have HG := Lib.hid (show w.drew.heap[g]? = some (.cells #[.slice (some ⟨q, 0, none⟩) T.of.length c0, v1, v2] 61 (0, 0)) ∧ w.drew.cell? ⟨q, m * 3, none⟩ = some (.int .i64 y) from ⟨hb, hp0⟩)
  have HB := Lib.hid ((Below.refl w.heap.size w).drew)
  clear hkn hy hm h0 hb hn hlt hp0
  go_enter Try.func30, Try.ntmps30
  go_wp2_with fail
  refine HK.out.mono ?_
  rintro e w' ⟨rfl, rfl⟩
  go_wp2_with ((with_reducible refine (must_true _ _).mono ?_); rintro e w' ⟨rfl, rfl⟩)
  refine start_ (n := 11) (S := fun w' => w'.heap[g]? = some (.cells #[.slice (some ⟨q, 0, none⟩) T.of.length c0, v1, v2] 61 (0, 0)) ∧ w'.cell? ⟨q, m * 3, none⟩ = some (.int .i64 y)) (ds := []) #[false, false, false, false, false, false, false, false, false, false, false] (by kernel_rfl) rfl rfl HG.out (fun hHeld => ?_)
  refine with_tabW X30.tab1 X30.bits1 (fun HT_ HW_ => ?_)
  generalize w.drew = w1 at HG HB hHeld ⊢
  clear HK
  refine pure_ (i := 0) (N := some 8) (v := ?_) (a' := ?_) #[true, false, false, false, false, false, false, false, false, false, false] rfl rfl (any_of HT_.out (by kernel_rfl)) (fun _ _ _ h => h) (Or.inl ⟨by rfl, ?_⟩) ?_ ?_
  rotate_left
  · intro w'
    go_simp
    with_reducible rfl
  rotate_left
  · simp only [Act.put, List.setIfInBounds_toArray, List.set_cons_zero, List.set_cons_succ, i64_w, i32_w]
    rfl
  refine pure_ (i := 1) (N := some 9) (v := ?_) (a' := ?_) #[true, true, false, false, false, false, false, false, false, false, false] rfl rfl (any_of HT_.out (by kernel_rfl)) (fun _ _ _ h => h) (Or.inl ⟨by rfl, ?_⟩) ?_ ?_
  rotate_left
  · intro w'
    go_simp
    with_reducible rfl
  rotate_left
  · simp only [Act.put, List.setIfInBounds_toArray, List.set_cons_zero, List.set_cons_succ, i64_w, i32_w]
    rfl
  refine pure_ (i := 2) (N := some 10) (v := ?_) (a' := ?_) #[true, true, true, false, false, false, false, false, false, false, false] rfl rfl (any_of HT_.out (by kernel_rfl)) (fun _ _ _ h => h) (Or.inl ⟨by rfl, ?_⟩) ?_ ?_
  rotate_left
  · intro w'
    go_simp
    with_reducible rfl
  rotate_left
  · simp only [Act.put, List.setIfInBounds_toArray, List.set_cons_zero, List.set_cons_succ, i64_w, i32_w]
    rfl
  refine take_ (i := 3) (N := some 11) (v := ?_) (a' := ?_) #[true, true, true, true, false, false, false, false, false, false, false] rfl rfl (take_ofW HT_.out HW_.out (by kernel_rfl)) (fun _ _ _ h => h) (Or.inl ⟨by rfl, ?_⟩) hHeld ?_ ?_
  rotate_left
  · intro w' hS_
    obtain ⟨k0_, k1_, k2_⟩ := cells3 hS_.1
    have k3_ := hS_.2
    go_simp
    with_reducible rfl
  rotate_left
  · simp only [Act.put, List.setIfInBounds_toArray, List.set_cons_zero, List.set_cons_succ, i64_w, i32_w]
    rfl
  refine pure_ (i := 4) (N := some 12) (v := ?_) (a' := ?_) #[true, true, true, true, true, false, false, false, false, false, false] rfl rfl (any_of HT_.out (by kernel_rfl)) (fun _ _ _ h => h) (Or.inl ⟨by rfl, ?_⟩) ?_ ?_
  rotate_left
  · intro w'
    go_simp
    with_reducible rfl
  rotate_left
  · simp only [Act.put, List.setIfInBounds_toArray, List.set_cons_zero, List.set_cons_succ, i64_w, i32_w]
    rfl
  refine one_ (i := 5) (N := some 13) #[true, true, true, true, true, true, false, false, false, false, false] rfl rfl (one_of HT_.out (by kernel_rfl)) (by decide) (fun K hK => ?_)
  refine goes_ Try.func34 (by kernel_rfl) rfl #[.int .i64 x] (by rfl) rfl rfl (by first | (go_simp; done) | (simp [Act.eval]; done)) ?_
  refine (hA.out _).mono ?_
  rintro e w' ⟨rfl, hw_⟩
  replace hw_ := hw_.symm
  subst hw_
  refine ⟨_, rfl, ?_⟩
  refine hK.out _ _ HG.out (fun hHeld => ?_)
  clear hK K
  refine norm_ (a' := ?_) ?_ ?_
  rotate_left
  · show Act.put _ (some 13) _ = _
    simp only [Act.put, List.setIfInBounds_toArray, List.set_cons_zero, List.set_cons_succ, i64_w, i32_w]
    rfl
  refine pure_ (i := 6) (N := some 14) (v := ?_) (a' := ?_) #[true, true, true, true, true, true, true, false, false, false, false] rfl rfl (any_of HT_.out (by kernel_rfl)) (fun _ _ _ h => h) (Or.inl ⟨by rfl, ?_⟩) ?_ ?_
  rotate_left
  · intro w'
    go_simp
    with_reducible rfl
  rotate_left
  · simp only [Act.put, List.setIfInBounds_toArray, List.set_cons_zero, List.set_cons_succ, i64_w, i32_w]
    rfl
  refine pure_ (i := 7) (N := some 15) (v := ?_) (a' := ?_) #[true, true, true, true, true, true, true, true, false, false, false] rfl rfl (any_of HT_.out (by kernel_rfl)) (fun _ _ _ h => h) (Or.inl ⟨by rfl, ?_⟩) ?_ ?_
  rotate_left
  · intro w'
    go_simp
    with_reducible rfl
  rotate_left
  · simp only [Act.put, List.setIfInBounds_toArray, List.set_cons_zero, List.set_cons_succ, i64_w, i32_w]
    rfl
  refine take_ (i := 8) (N := some 16) (v := ?_) (a' := ?_) #[true, true, true, true, true, true, true, true, true, false, false] rfl rfl (take_ofW HT_.out HW_.out (by kernel_rfl)) (fun _ _ _ h => h) (Or.inl ⟨by rfl, ?_⟩) hHeld ?_ ?_
  rotate_left
  · intro w' hS_
    obtain ⟨k0_, k1_, k2_⟩ := cells3 hS_.1
    have k3_ := hS_.2
    go_simp
    with_reducible rfl
  rotate_left
  · simp only [Act.put, List.setIfInBounds_toArray, List.set_cons_zero, List.set_cons_succ, i64_w, i32_w]
    rfl
  refine pure_ (i := 9) (N := some 17) (v := ?_) (a' := ?_) #[true, true, true, true, true, true, true, true, true, true, false] rfl rfl (any_of HT_.out (by kernel_rfl)) (fun _ _ _ h => h) (Or.inl ⟨by rfl, ?_⟩) ?_ ?_
  rotate_left
  · intro w'
    go_simp
    with_reducible rfl
  rotate_left
  · simp only [Act.put, List.setIfInBounds_toArray, List.set_cons_zero, List.set_cons_succ, i64_w, i32_w]
    rfl
  refine one_ (i := 10) (N := some 18) #[true, true, true, true, true, true, true, true, true, true, true] rfl rfl (one_of HT_.out (by kernel_rfl)) (by decide) (fun K hK => ?_)
  refine goesP_ Try.func33 (by kernel_rfl) rfl #[.bool false, .int .i64 6] (by rfl) rfl rfl (by first | (go_simp; done) | (simp [Act.eval]; done)) ?_
  refine (must_false 6 _).mono ?_
  rintro e w' ⟨rfl, rfl⟩
  refine ⟨_, rfl, ?_⟩
  exact ⟨rfl, rfl, HB.out⟩
theorem free_lit {w : World} {b g : Nat} {ok : Nat → Prop} {T : TS} (hT : At w b g ok T) (hn : T.of.length ≤ 257) (x : Int) (hkn : kn T x = false) :
    Calls Try.prog 30 #[.pointer (some ⟨g, 0, none⟩), .int .i64 x] w fun e w' => e = .panicked (wrong 11) ∧ Below w.heap.size w w' := by
  have HK := Lib.hid (known_any hT hn x)
  rw [hkn] at HK
  clear hT hn hkn
  go_enter Try.func30, Try.ntmps30
  go_wp2_with fail
  refine HK.out.mono ?_
  rintro e w' ⟨rfl, rfl⟩
  go_wp2_with fail
  refine (must_false _ _).mono ?_
  rintro e w' ⟨rfl, rfl⟩
  exact ⟨rfl, rfl, Below.refl _ _⟩
/-- free panics with what is wrong -/
theorem free_bad {w : World} {b g : Nat} {ok : Nat → Prop} {T : TS} (hT : At w b g ok T) (hn : T.of.length ≤ 257) (x : Int) (h : may T x ≠ 0) :
    Calls Try.prog 30 #[.pointer (some ⟨g, 0, none⟩), .int .i64 x] w fun e w' => e = .panicked (wrong (may T x)) ∧ Below w.heap.size w w' := by
  cases hk : kn T x with
  | false =>
    have e : may T x = 11 := by unfold may; rw [hk]; rfl
    rw [e]
    exact free_lit hT hn x hk
  | true =>
    have hne : (pl T x).f0 ≠ 0 := fun hz => h (by unfold may; rw [hk, if_pos rfl, if_pos hz])
    have e : may T x = 6 := by unfold may; rw [hk, if_pos rfl, if_neg hne]
    rw [e]
    exact free_twice hT hn x hk hne
end Go.Proofs.Ytdcemlennobjhaa.Tr
