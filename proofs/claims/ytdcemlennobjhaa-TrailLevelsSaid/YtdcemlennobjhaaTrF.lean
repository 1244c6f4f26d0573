/-
  The walk of Back. Conditions: as each statement has them.
-/
import Derived.Test.YtdcemlennobjhaaTrE
namespace Go.Proofs.Ytdcemlennobjhaa.Tr
open Go.RowKit Go.Proofs.YtdcemlennobjhaaW.PrintWords Go.Proofs.YtdcemlennobjhaaW.PrintLast Go.Proofs.YtdcemlennobjhaaW.PrintMore Go.Proofs.Ytdcemlennobjhaa.PTrailPlays
set_option linter.unusedSimpArgs false
set_option linter.unusedVariables false

theorem wipe_length : ∀ (xs : List Int) (o : List S69), (wipe o xs).length = o.length
  | [], o => rfl
  | x :: r, o => by simp only [wipe]; rw [wipe_length r]; simp
theorem wipe_snoc : ∀ (xs : List Int) (o : List S69) (x : Int), wipe o (xs ++ [x]) = (wipe o xs).set x.natAbs z69
  | [], o, x => rfl
  | y :: r, o, x => by simp only [wipe, List.cons_append]; exact wipe_snoc r _ x
theorem own_len (A : Option Addr) (n m c c' : Nat) : (Value.slice A n c).ownBlock = (Value.slice A m c').ownBlock := by cases A <;> rfl
theorem at_lit (w : World) (A : Option Addr) (xs : List Int) (hc : Kd.C (Kd.int .i64) w A xs.length xs) (k : Nat) (hk : k < xs.length) : ∃ ad, A = some ad ∧ w.cell? (ad.add k) = some (.int .i64 (xs.getD k 0)) := by
  obtain ⟨ad, e, h⟩ := Kd.at_int hc (k : Int) (by omega) (by omega)
  exact ⟨ad, e, by simpa [rd] using h⟩
theorem take_next (xs : List Int) (k : Nat) (hk : k < xs.length) : xs.take (k + 1) = xs.take k ++ [xs.getD k 0] := by
  rw [List.take_succ_eq_append_getElem hk, List.getD_eq_getElem?_getD, List.getElem?_eq_getElem hk]; rfl

def X13.T9 : Bool × List (List Nat × List Nat) := (true, [([], []), ([0], [0]), ([1], [1]), ([2], [2]), ([], []), ([4], [4]), ([], []), ([3, 5, 0, 1, 2, 3, 4, 5, 6], [3, 5]), ([7, 6, 5, 0, 1, 2, 3, 4, 5, 6], [6, 7])])
def X13.B9 : List Nat := [0, 1, 3, 7, 0, 16, 0, 127, 255]
theorem X13.tab9 : rtab .any (opsOf Try.f13 9) = X13.T9 := by kernel_rfl
theorem X13.bits9 : waitsOk X13.T9.2 X13.B9 = true := by kernel_rfl
def X13.T11 : Bool × List (List Nat × List Nat) := (true, [([], []), ([], []), ([], []), ([2], [2]), ([3], [3]), ([4], [4]), ([], []), ([5, 6], [5, 6]), ([], []), ([8], [8]), ([9], [9]), ([10], [10]), ([], []), ([11, 12], [11, 12]), ([0, 0, 2, 3, 4, 5, 6, 7, 11], [0]), ([14, 0, 2, 3, 4, 5, 6, 7, 11], [14]), ([15, 7, 0, 2, 3, 4, 5, 6, 7, 11], [7, 15]), ([1, 0, 1, 2, 3, 4, 5, 6, 7, 8, 9, 10, 11, 12, 13, 14, 15, 16], [1]), ([17, 0, 1, 2, 3, 4, 5, 6, 7, 8, 9, 10, 11, 12, 13, 14, 15, 16], [17]), ([18, 13, 16, 0, 1, 2, 3, 4, 5, 6, 7, 8, 9, 10, 11, 12, 13, 14, 15, 16], [13, 18])])
def X13.B11 : List Nat := [0, 0, 0, 4, 12, 28, 0, 124, 0, 256, 768, 1792, 0, 7936, 4093, 20477, 53245, 131071, 262143, 524287]
theorem X13.tab11 : rtab .any (opsOf Try.f13 11) = X13.T11 := by kernel_rfl
theorem X13.bits11 : waitsOk X13.T11.2 X13.B11 = true := by kernel_rfl
set_option maxRecDepth 100000 in
set_option maxHeartbeats 4000000 in
theorem back_bad {w : World} {b g : Nat} {ok : Nat → Prop} {T : TS} (hT : At w b g ok T) (v : Int) (h : ¬ (0 ≤ v ∧ v ≤ T.frm.length)) :
    Calls Try.prog 13 #[.pointer (some ⟨g, 0, none⟩), .int .i64 v] w fun e w' => e = .returned (.int .i64 1) ∧ At w' b g (newer w ok) T ∧ Fr w w' ok := by
  have HT := Lib.hid (hT.boxed (.cells #[.int .i64 0] 25))
  have HE := Lib.hid (show (w.alloc (.cells #[.int .i64 0] 25)).heap[w.heap.size]? = some (.cells #[.int .i64 0] 25 (0, 0)) from blk_new w _)
  have hfin : ∀ R : Prop, (Ending.returned (.int .i64 1) = Ending.returned (.int .i64 1) ∧ At ((w.alloc (.cells #[.int .i64 0] 25)).setCell ⟨w.heap.size, 0, none⟩ (.int .i64 1)) b g (newer w ok) T ∧ Fr w ((w.alloc (.cells #[.int .i64 0] 25)).setCell ⟨w.heap.size, 0, none⟩ (.int .i64 1)) ok → R) → R :=
    fun R hR => hR ⟨rfl, (HT.out.far (by simp) _).mono (fun k hk => Or.inl hk.1), fr_done (fr_box (Fr.refl _ _)) (Nat.le_refl _) _⟩
  have HFIN := Lib.hid hfin
  obtain ⟨v0, v1, v2, hb, _, _, _, _, h2⟩ := HT.out
  obtain ⟨A2, c2, rfl⟩ := Kd.R_slice h2
  have hk2 := (cells3 hb).2.2
  clear hT hfin HT h2 hb
  by_cases h0 : 0 ≤ v
  · have e0 : decide (0 ≤ v) = true := decide_eq_true h0
    have e1 : decide (v ≤ (T.frm.length : Int)) = false := decide_eq_false (fun h1 => h ⟨h0, h1⟩)
    clear h0 h
    go_enter_defers Try.func13, Try.ntmps13
    go_wp2_with fail
    refine (must_false _ _).mono ?_
    rintro e w' ⟨rfl, rfl⟩
    exact door13_panic w.heap.size 1 _ _ _ _ rfl rfl (e_cell HE.out).1 (e_cell HE.out).2 (HFIN.out _ (fun h => ⟨rfl, h.2⟩))
  · have e0 : decide (0 ≤ v) = false := decide_eq_false h0
    clear h0 h
    go_enter_defers Try.func13, Try.ntmps13
    go_wp2_with fail
    refine (must_false _ _).mono ?_
    rintro e w' ⟨rfl, rfl⟩
    exact door13_panic w.heap.size 1 _ _ _ _ rfl rfl (e_cell HE.out).1 (e_cell HE.out).2 (HFIN.out _ (fun h => ⟨rfl, h.2⟩))
set_option maxRecDepth 100000 in
set_option maxHeartbeats 4000000 in
theorem back_same {w : World} {b g : Nat} {ok : Nat → Prop} {T : TS} (hT : At w b g ok T) (hf : T.frm.length ≤ 100000) :
    Calls Try.prog 13 #[.pointer (some ⟨g, 0, none⟩), .int .i64 (T.frm.length : Int)] w fun e w' => e = .returned (.int .i64 0) ∧ At w' b g (newer w ok) T ∧ Fr w w' ok := by
  have HT := Lib.hid (hT.boxed (.cells #[.int .i64 0] 25))
  have HE := Lib.hid (show (w.alloc (.cells #[.int .i64 0] 25)).heap[w.heap.size]? = some (.cells #[.int .i64 0] 25 (0, 0)) from blk_new w _)
  have HFIN := Lib.hid (show At (w.alloc (.cells #[.int .i64 0] 25)) b g (newer w ok) T ∧ Fr w (w.alloc (.cells #[.int .i64 0] 25)) ok from ⟨HT.out.mono (fun k hk => Or.inl hk.1), fr_box (Fr.refl _ _)⟩)
  obtain ⟨v0, v1, v2, hb, _, _, _, _, h2⟩ := HT.out
  obtain ⟨A2, c2, rfl⟩ := Kd.R_slice h2
  have hk2 := (cells3 hb).2.2
  have hc5 := (e_cell HE.out).1
  have hz5 := (e_cell HE.out).2
  have h0 : (0 : Int) ≤ (T.frm.length : Int) := by omega
  have h00 : decide ((0 : Int) ≤ (T.frm.length : Int)) = true := decide_eq_true h0
  have e1 : decide ((T.frm.length : Int) ≤ (T.frm.length : Int)) = true := decide_eq_true (Int.le_refl _)
  have e2 : ((T.frm.length : Int) == (T.frm.length : Int)) = true := beq_self_eq_true _
  clear hT HT h2 hb
  go_enter_defers Try.func13, Try.ntmps13
  go_wp2_with ((with_reducible refine (must_true _ _).mono ?_); rintro e w' ⟨rfl, rfl⟩)
  exact door13_ret w.heap.size 0 _ _ _ rfl rfl hc5 ⟨rfl, HFIN.out⟩
set_option maxRecDepth 100000 in
set_option maxHeartbeats 4000000 in
theorem back_ok {w : World} {b g : Nat} {ok : Nat → Prop} {T : TS} (hT : At w b g ok T) (hF : Fine T) (k n : Nat) (hk : k < T.frm.length) (hn : T.frm.getD k 0 = (n : Int)) :
    Calls Try.prog 13 #[.pointer (some ⟨g, 0, none⟩), .int .i64 (k : Int)] w fun e w' => e = .returned (.int .i64 0) ∧ At w' b g (newer w ok) (bacT T (k : Int)) ∧ Fr w w' ok := by
  have HT := Lib.hid (hT.boxed (.cells #[.int .i64 0] 25))
  have HE := Lib.hid (show (w.alloc (.cells #[.int .i64 0] 25)).heap[w.heap.size]? = some (.cells #[.int .i64 0] 25 (0, 0)) from blk_new w _)
  have HFI := Lib.hid hF
  have HBT : Hid (bacT T (k : Int) = ⟨wipe T.of (T.l.drop n), T.l.take n, T.frm.take k⟩) := Lib.hid (by
    unfold bacT
    rw [if_pos ⟨by omega, by omega⟩, Int.toNat_natCast, hn, Int.toNat_natCast])
  obtain ⟨v0, v1, v2, hb, hog, hbg, h0, h1, h2⟩ := HT.out
  obtain ⟨A0, c0, rfl⟩ := Kd.R_slice h0
  obtain ⟨A1, c1, rfl⟩ := Kd.R_slice h1
  obtain ⟨A2, c2, rfl⟩ := Kd.R_slice h2
  obtain ⟨q, rfl, _, _, _, _⟩ := pl_cells h0 0 (by have := hF.n1; omega)
  obtain ⟨a2, rfl, _⟩ := at_lit _ A2 T.frm (Kd.R_reads' h2).2.2 k hk
  obtain ⟨q2, rfl⟩ := Kd.R_head h2
  have hcn : (w.alloc (.cells #[.int .i64 0] 25)).cell? ⟨q2, k, none⟩ = some (.int .i64 (n : Int)) := by
    obtain ⟨ad, e, hc⟩ := at_lit _ _ T.frm (Kd.R_reads' h2).2.2 k hk
    injection e with e
    subst e
    rw [add_plain, hn] at hc
    exact hc
  have hnl : n ≤ T.l.length := by
    have hm : T.frm.getD k 0 ∈ T.frm := by rw [List.getD_eq_getElem?_getD, List.getElem?_eq_getElem hk]; exact List.getElem_mem hk
    have := hF.frs _ hm
    rw [hn] at this
    omega
  have hk1 := (cells3 hb).2.1
  have hk2 := (cells3 hb).2.2
  have XG := Lib.hid hb
  have X0 := Lib.hid h0
  have X1 := Lib.hid h1
  have X2 := Lib.hid h2
  have XE := Lib.hid HE.out
  have XF := Lib.hid (Fr.refl (w.alloc (.cells #[.int .i64 0] 25)) (fun k => ok k ∧ k < w.heap.size))
  have HOG := Lib.hid (And.intro hog hbg)
  have HC1 := Lib.hid (Kd.R_reads' h1).2.1
  have HC2 := Lib.hid (Kd.R_reads' h2).2.1
  obtain ⟨r, hr⟩ : ∃ r, T.l.drop n = r := ⟨_, rfl⟩
  have hrl : r.length = T.l.length - n := by rw [← hr, List.length_drop]
  obtain ⟨A4, hA4⟩ : ∃ A4, (if c1 = n then A1 else A1.map (·.add (n * 1))) = A4 := ⟨_, rfl⟩
  have hcut : ∀ W : World, (Instr.slice 28 (.slice A1 T.l.length c1) (some (.int .i64 (n : Int))) none none).run Try.prog W = .ok (.slice A4 r.length (c1 - n)) W := by
    intro W
    obtain ⟨i0, hi0, _, hs0, _⟩ := info_parts info3
    have := cut_from (P := Try.prog) 28 3 .i64 Try.underlying28 hi0 1 hs0 A1 T.l.length c1 (n : Int) (by omega) (by omega) W
    rw [Int.toNat_natCast, hA4, ← hrl] at this
    exact this
  have HRL := Lib.hid hrl
  have HCD := Lib.hid (show ∀ W, Kd.C (Kd.int .i64) W A1 T.l.length T.l → Kd.C (Kd.int .i64) W A4 r.length r from fun W hW => by rw [← hA4, ← hr]; exact Kd.C_drop hW hnl HC1.out)
  have HLI := Lib.hid (show ∀ x ∈ r, x.natAbs < T.of.length from fun x hx => hF.lits x (List.mem_of_mem_drop (by rw [hr]; exact hx)))
  have HNL := Lib.hid hnl
  have HBT2 : Hid (bacT T (k : Int) = ⟨wipe T.of r, T.l.take n, T.frm.take k⟩) := Lib.hid (by rw [HBT.out, hr])
  have e0 : decide ((0 : Int) ≤ (k : Int)) = true := decide_eq_true (by omega)
  have e1 : decide (k ≤ T.frm.length) = true := decide_eq_true (by omega)
  have e3 : (k == T.frm.length) = false := beq_eq_false_iff_ne.mpr (by omega)
  have e2 : ((k : Int) == (T.frm.length : Int)) = false := beq_eq_false_iff_ne.mpr (by omega)
  have hkl : (k : Int) < (T.frm.length : Int) := by omega
  have hk0 : (0 : Int) ≤ (k : Int) := by omega
  have HK := Lib.hid hk
  have hrb : (r.length : Int) ≤ 100000 := by have := hF.ll; omega
  clear hT HT HE hb h0 h1 h2 hog hbg hF hn hk hrl hA4 hr hnl HBT
  go_enter_defers Try.func13, Try.ntmps13
  go_wp2_with ((with_reducible refine (must_true _ _).mono ?_); rintro e w' ⟨rfl, rfl⟩)
  go_loopw [41] (fun t wr => ∃ j : Nat, j ≤ r.length ∧ t = .int .i64 j ∧ Hid (wr.heap[g]? = some (.cells #[.slice (some ⟨q, 0, none⟩) T.of.length c0, .slice A1 T.l.length c1, .slice (some ⟨q2, 0, none⟩) T.frm.length c2] 61 (0, 0))) ∧ Hid (Kd.R k69 69 wr b (fun k => ok k ∧ k < w.heap.size) (.slice (some ⟨q, 0, none⟩) T.of.length c0) (wipe T.of (r.take j))) ∧ Hid (Kd.R (Kd.int .i64) 3 wr b (fun k => (ok k ∧ k < w.heap.size) ∧ some k ≠ (Value.slice (some ⟨q2, 0, none⟩) T.frm.length c2).ownBlock) (.slice A1 T.l.length c1) T.l) ∧ Hid (Kd.R (Kd.int .i64) 3 wr b (fun k => (ok k ∧ k < w.heap.size) ∧ some k ≠ (Value.slice A1 T.l.length c1).ownBlock) (.slice (some ⟨q2, 0, none⟩) T.frm.length c2) T.frm) ∧ Hid (wr.heap[w.heap.size]? = some (.cells #[.int .i64 0] 25 (0, 0))) ∧ Hid (Fr (w.alloc (.cells #[.int .i64 0] 25)) wr (fun k => ok k ∧ k < w.heap.size))) (fun t _ => r.length - (intOf t).toNat)
  case atStart => exact ⟨0, Nat.zero_le _, rfl, XG, X0, X1, X2, XE, XF⟩
  case round =>
    clear XG X0 X1 X2 XE XF hk1 hk2 hcn hcut e0 e1 e2 e3
    obtain ⟨j, hj, rfl, XG, X0, X1, X2, XE, XF⟩ := hrel
    by_cases hlt : j < r.length
    · obtain ⟨ad, hA4, hcell⟩ := at_lit _ A4 r (HCD.out _ (Kd.R_reads' X1.out).2.2) j hlt
      subst hA4
      obtain ⟨x, hx⟩ : ∃ x, r.getD j 0 = x := ⟨_, rfl⟩
      rw [hx] at hcell
      have hxl : x.natAbs < T.of.length := HLI.out x (by rw [← hx, List.getD_eq_getElem?_getD, List.getElem?_eq_getElem hlt]; exact List.getElem_mem hlt)
      have hA := Lib.hid (fun w => at_any x (by have := HFI.out.n2; omega) w)
      have HTK := Lib.hid (show wipe T.of (r.take (j + 1)) = (wipe T.of (r.take j)).set x.natAbs z69 by rw [take_next r j hlt, hx, wipe_snoc])
      obtain ⟨m, hm⟩ : ∃ m : Nat, x.natAbs = m := ⟨_, rfl⟩
      rw [hm] at hA hxl HTK
      have hml : (m : Int) < (T.of.length : Int) := by omega
      have hm0 : (0 : Int) ≤ (m : Int) := by omega
      have HML := Lib.hid hxl
      have hjlt : (j : Int) < (r.length : Int) := by omega
      clear hx hm hxl
      go_wp2_with fail
      refine start_ (n := 9) (S := fun w' => w'.heap[g]? = some (.cells #[.slice (some ⟨q, 0, none⟩) T.of.length c0, .slice A1 T.l.length c1, .slice (some ⟨q2, 0, none⟩) T.frm.length c2] 61 (0, 0))) (ds := []) #[false, false, false, false, false, false, false, false, false] (by kernel_rfl) rfl rfl XG.out (fun hHeld => ?_)
      refine with_tabW X13.tab9 X13.bits9 (fun HT_ HW_ => ?_)
      have YG := Lib.hid (show wr.drew.heap[g]? = some (.cells #[.slice (some ⟨q, 0, none⟩) T.of.length c0, .slice A1 T.l.length c1, .slice (some ⟨q2, 0, none⟩) T.frm.length c2] 61 (0, 0)) from XG.out)
      have Y0 := Lib.hid (Kd.R_drew X0.out)
      have Y1 := Lib.hid (Kd.R_drew X1.out)
      have Y2 := Lib.hid (Kd.R_drew X2.out)
      have YE := Lib.hid (show wr.drew.heap[w.heap.size]? = some (.cells #[.int .i64 0] 25 (0, 0)) from XE.out)
      have YF := Lib.hid (Fr.drew XF.out)
      clear XG X0 X1 X2 XE XF hcell
      generalize wr.drew = w3 at YG Y0 Y1 Y2 YE YF hHeld ⊢
      refine pure_ (i := 0) (N := some 45) (v := ?_) (a' := ?_) #[true, false, false, false, false, false, false, false, false] rfl rfl (any_of HT_.out (by kernel_rfl)) (fun c a w h => hq13 _ (by decide) _ c a w h) (Or.inl ⟨by rfl, ?_⟩) ?_ ?_
      rotate_left
      · intro w'
        go_simp
        with_reducible rfl
      rotate_left
      · simp only [Act.put, List.setIfInBounds_toArray, List.set_cons_zero, List.set_cons_succ, i64_w, i32_w]
        rfl
      refine pure_ (i := 1) (N := some 46) (v := ?_) (a' := ?_) #[true, true, false, false, false, false, false, false, false] rfl rfl (any_of HT_.out (by kernel_rfl)) (fun c a w h => hq13 _ (by decide) _ c a w h) (Or.inl ⟨by rfl, ?_⟩) ?_ ?_
      rotate_left
      · intro w'
        go_simp
        with_reducible rfl
      rotate_left
      · simp only [Act.put, List.setIfInBounds_toArray, List.set_cons_zero, List.set_cons_succ, i64_w, i32_w]
        rfl
      refine pure_ (i := 2) (N := some 47) (v := ?_) (a' := ?_) #[true, true, true, false, false, false, false, false, false] rfl rfl (any_of HT_.out (by kernel_rfl)) (fun c a w h => hq13 _ (by decide) _ c a w h) (Or.inl ⟨by rfl, ?_⟩) ?_ ?_
      rotate_left
      · intro w'
        go_simp
        with_reducible rfl
      rotate_left
      · simp only [Act.put, List.setIfInBounds_toArray, List.set_cons_zero, List.set_cons_succ, i64_w, i32_w]
        rfl
      refine take_ (i := 3) (N := some 48) (v := ?_) (a' := ?_) #[true, true, true, true, false, false, false, false, false] rfl rfl (take_ofW HT_.out HW_.out (by kernel_rfl)) (fun c a w h => hq13 _ (by decide) _ c a w h) (Or.inl ⟨by rfl, ?_⟩) hHeld ?_ ?_
      rotate_left
      · intro w' hS_
        obtain ⟨k0_, k1_, k2_⟩ := cells3 hS_
        go_simp
        with_reducible rfl
      rotate_left
      · simp only [Act.put, List.setIfInBounds_toArray, List.set_cons_zero, List.set_cons_succ, i64_w, i32_w]
        rfl
      refine pure_ (i := 4) (N := some 49) (v := ?_) (a' := ?_) #[true, true, true, true, true, false, false, false, false] rfl rfl (any_of HT_.out (by kernel_rfl)) (fun c a w h => hq13 _ (by decide) _ c a w h) (Or.inl ⟨by rfl, ?_⟩) ?_ ?_
      rotate_left
      · intro w'
        go_simp
        with_reducible rfl
      rotate_left
      · simp only [Act.put, List.setIfInBounds_toArray, List.set_cons_zero, List.set_cons_succ, i64_w, i32_w]
        rfl
      refine pure_ (i := 6) (N := some 51) (v := ?_) (a' := ?_) #[true, true, true, true, true, false, true, false, false] rfl rfl (any_of HT_.out (by kernel_rfl)) (fun c a w h => hq13 _ (by decide) _ c a w h) (Or.inl ⟨by rfl, ?_⟩) ?_ ?_
      rotate_left
      · intro w'
        go_simp
        with_reducible rfl
      rotate_left
      · simp only [Act.put, List.setIfInBounds_toArray, List.set_cons_zero, List.set_cons_succ, i64_w, i32_w]
        rfl
      refine one_ (i := 5) (N := some 50) #[true, true, true, true, true, true, true, false, false] rfl rfl (one_of HT_.out (by kernel_rfl)) (by decide) (fun K hK => ?_)
      refine goes_ Try.func34 (by kernel_rfl) rfl #[.int .i64 x] (by rfl) rfl rfl (by first | (go_simp; done) | (simp [Act.eval]; done)) ?_
      refine (hA.out _).mono ?_
      rintro e w' ⟨rfl, hw_⟩
      replace hw_ := hw_.symm
      subst hw_
      refine ⟨_, rfl, ?_⟩
      refine hK.out _ _ YG.out (fun hHeld => ?_)
      clear hK K
      refine norm_ (a' := ?_) ?_ ?_
      rotate_left
      · show Act.put _ (some 50) _ = _
        simp only [Act.put, List.setIfInBounds_toArray, List.set_cons_zero, List.set_cons_succ, i64_w, i32_w]
        rfl
      refine pure_ (i := 7) (N := some 52) (v := ?_) (a' := ?_) #[true, true, true, true, true, true, true, true, false] rfl rfl (any_of HT_.out (by kernel_rfl)) (fun c a w h => hq13 _ (by decide) _ c a w h) (Or.inl ⟨by rfl, ?_⟩) ?_ ?_
      rotate_left
      · intro w'
        go_simp
        with_reducible rfl
      rotate_left
      · simp only [Act.put, List.setIfInBounds_toArray, List.set_cons_zero, List.set_cons_succ, i64_w, i32_w]
        rfl
      refine one_ (i := 8) (N := none) #[true, true, true, true, true, true, true, true, true] rfl rfl (one_of HT_.out (by kernel_rfl)) (by decide) (fun K hK => ?_)
      have HWL := Lib.hid (wipe_length (r.take j) T.of)
      obtain ⟨o1, ho1⟩ : ∃ o1, wipe T.of (r.take j) = o1 := ⟨_, rfl⟩
      rw [ho1] at Y0 HWL HTK
      have hol : T.of.length = o1.length := HWL.out.symm
      have hqc := pl_cells (A := some ⟨q, 0, none⟩) (c := c0) (by rw [← hol]; exact Y0.out) m (by rw [← hol]; exact HML.out)
      obtain ⟨q', hqe, hql, k0, k1, k2⟩ := hqc
      injection hqe with hqe
      injection hqe with hqe _ _
      subst hqe
      have hfz : ∀ j, w3.frozen? ⟨q, j, none⟩ = false := fun j => by obtain ⟨cc, hcc⟩ := Kd.R_typed Y0.out q rfl; exact blk_frozen hcc _
      have hf0 := hfz (m * 3)
      have hf1 := hfz (m * 3 + 1)
      have hf2 := hfz (m * 3 + 2)
      have HOL := Lib.hid hol
      clear hfz hol ho1 HWL
      refine skip_ (w1 := ?_) (by rfl) rfl ?_ ?_
      rotate_left
      · go_simp
        rfl
      clear hf0 hf1 hf2 k0 k1 k2
      obtain ⟨hR, hgr⟩ := R_place Y0.out m (by rw [← HOL.out]; exact HML.out) 0 0 0
      have X1 := Lib.hid (Kd.R_over' (v := .slice (some ⟨q, 0, none⟩) T.of.length c0) Y1.out (Kd.R_typed Y0.out) (by decide) hgr)
      have X2 := Lib.hid (Kd.R_over' (v := .slice (some ⟨q, 0, none⟩) T.of.length c0) Y2.out (Kd.R_typed Y0.out) (by decide) hgr)
      have XG := Lib.hid (blk_grown YG.out hgr (Kd.R_ne Y0.out YG.out (by decide)))
      have XE := Lib.hid (blk_grown YE.out hgr (Kd.R_ne Y0.out YE.out (by decide)))
      have XF := Lib.hid (YF.out.trans (Fr.grown (ok := (fun k => ok k ∧ k < w.heap.size)) hgr (fun k hk => Y0.out.1 k hk)) (fun _ _ hk => hk))
      have X0 := Lib.hid hR
      clear YG Y0 Y1 Y2 YE YF hR hgr hHeld hql
      generalize ((w3.setCell { block := q, off := m * 3, spot := none } (Value.int IntKind.i64 0)).setCell { block := q, off := m * 3 + 1, spot := none } (Value.int IntKind.i64 0)).setCell { block := q, off := m * 3 + 2, spot := none } (Value.int IntKind.i64 0) = w4 at X0 X1 X2 XG XE XF ⊢
      refine hK.out _ _ XG.out (fun hHeld => ?_)
      clear hK K
      refine done_ (done_of HT_.out (by kernel_rfl)) ?_
      clear HT_ HW_ hHeld
      rw [show (⟨0, 0, 0⟩ : S69) = z69 from rfl, ← HTK.out] at X0
      go_wp2_with fail
      exact ⟨⟨j + 1, by omega, by go_num, XG, X0, X1, X2, XE, XF⟩, by simp only [intOf]; omega⟩
    · obtain rfl : j = r.length := by omega
      rw [List.take_length] at X0
      have hk1 := (cells3 XG.out).2.1
      have hk2 := (cells3 XG.out).2.2
      obtain ⟨l1, hl1⟩ : ∃ l1, T.l.take n = l1 := ⟨_, rfl⟩
      obtain ⟨f1, hf1⟩ : ∃ f1, T.frm.take k = f1 := ⟨_, rfl⟩
      have hll : l1.length = n := by rw [← hl1, List.length_take]; have := HNL.out; omega
      have hfl : f1.length = k := by rw [← hf1, List.length_take]; have := HK.out; omega
      have hcut1 : ∀ W : World, (Instr.slice 28 (.slice A1 T.l.length c1) none (some (.int .i64 (n : Int))) none).run Try.prog W = .ok (.slice A1 l1.length c1) W := by
        rw [hll]
        obtain ⟨i0, hi0, _, _, _⟩ := info_parts info3
        exact cut_to (P := Try.prog) 28 3 .i64 Try.underlying28 hi0 A1 T.l.length c1 (n : Int) (by omega) (by have := HNL.out; omega) HC1.out
      have hcut2 : ∀ W : World, (Instr.slice 28 (.slice (some ⟨q2, 0, none⟩) T.frm.length c2) none (some (.int .i64 (k : Int))) none).run Try.prog W = .ok (.slice (some ⟨q2, 0, none⟩) f1.length c2) W := by
        rw [hfl]
        obtain ⟨i0, hi0, _, _, _⟩ := info_parts info3
        exact cut_to (P := Try.prog) 28 3 .i64 Try.underlying28 hi0 (some ⟨q2, 0, none⟩) T.frm.length c2 (k : Int) (by omega) (by have := HK.out; omega) HC2.out
      have hR1 := Kd.R_take (m := n) X1.out HNL.out
      have hR2 := Kd.R_take (m := k) X2.out (Nat.le_of_lt HK.out)
      rw [hl1, ← hll] at hR1
      rw [hf1, ← hfl] at hR2
      have Z1 := Lib.hid (Kd.R_mono hR1 (fun k_ hk => (show (ok k_ ∧ k_ < w.heap.size) ∧ some k_ ≠ (Value.slice (some ⟨q2, 0, none⟩) f1.length c2).ownBlock from ⟨hk.1, by rw [own_len _ _ T.frm.length _ c2]; exact hk.2⟩)))
      have Z2 := Lib.hid (Kd.R_mono hR2 (fun k_ hk => (show (ok k_ ∧ k_ < w.heap.size) ∧ some k_ ≠ (Value.slice A1 l1.length c1).ownBlock from ⟨hk.1, by rw [own_len _ _ T.l.length _ c1]; exact hk.2⟩)))
      have HBT3 : Hid (bacT T (k : Int) = ⟨wipe T.of r, l1, f1⟩) := Lib.hid (by rw [HBT2.out, hl1, hf1])
      have X0' := Lib.hid (Kd.R_mono X0.out (fun k_ hk => (show ok k_ ∧ k_ < w.heap.size from hk)))
      have HWL := Lib.hid (wipe_length r T.of)
      obtain ⟨o1, ho1⟩ : ∃ o1, wipe T.of r = o1 := ⟨_, rfl⟩
      rw [ho1] at X0' HWL HBT3
      clear X0 X1 X2 hR1 hR2 hll hfl hl1 hf1 ho1 HBT2
      go_wp2_with fail
      refine start_ (n := 20) (S := fun w' => w'.heap[g]? = some (.cells #[.slice (some ⟨q, 0, none⟩) T.of.length c0, .slice A1 T.l.length c1, .slice (some ⟨q2, 0, none⟩) T.frm.length c2] 61 (0, 0))) (ds := [16, 19]) #[false, false, false, false, false, false, false, false, false, false, false, false, false, false, false, false, false, false, false, false] (by kernel_rfl) rfl rfl XG.out (fun hHeld => ?_)
      refine with_tabW X13.tab11 X13.bits11 (fun HT_ HW_ => ?_)
      have YG := Lib.hid (show wr.drew.heap[g]? = some (.cells #[.slice (some ⟨q, 0, none⟩) T.of.length c0, .slice A1 T.l.length c1, .slice (some ⟨q2, 0, none⟩) T.frm.length c2] 61 (0, 0)) from XG.out)
      have Y0 := Lib.hid (Kd.R_drew X0'.out)
      have Y1 := Lib.hid (Kd.R_drew Z1.out)
      have Y2 := Lib.hid (Kd.R_drew Z2.out)
      have YE := Lib.hid (show wr.drew.heap[w.heap.size]? = some (.cells #[.int .i64 0] 25 (0, 0)) from XE.out)
      have YF := Lib.hid (Fr.drew XF.out)
      clear XG X0' Z1 Z2 XE XF hk1 hk2
      generalize wr.drew = w3 at YG Y0 Y1 Y2 YE YF hHeld ⊢
      refine pure_ (i := 0) (N := some 54) (v := ?_) (a' := ?_) #[true, false, false, false, false, false, false, false, false, false, false, false, false, false, false, false, false, false, false, false] rfl rfl (any_of HT_.out (by kernel_rfl)) (fun c a w h => hq13 _ (by decide) _ c a w h) (Or.inl ⟨by rfl, ?_⟩) ?_ ?_
      rotate_left
      · intro w'
        go_simp
        with_reducible rfl
      rotate_left
      · simp only [Act.put, List.setIfInBounds_toArray, List.set_cons_zero, List.set_cons_succ, i64_w, i32_w]
        rfl
      refine pure_ (i := 1) (N := some 55) (v := ?_) (a' := ?_) #[true, true, false, false, false, false, false, false, false, false, false, false, false, false, false, false, false, false, false, false] rfl rfl (any_of HT_.out (by kernel_rfl)) (fun c a w h => hq13 _ (by decide) _ c a w h) (Or.inl ⟨by rfl, ?_⟩) ?_ ?_
      rotate_left
      · intro w'
        go_simp
        with_reducible rfl
      rotate_left
      · simp only [Act.put, List.setIfInBounds_toArray, List.set_cons_zero, List.set_cons_succ, i64_w, i32_w]
        rfl
      refine pure_ (i := 2) (N := some 56) (v := ?_) (a' := ?_) #[true, true, true, false, false, false, false, false, false, false, false, false, false, false, false, false, false, false, false, false] rfl rfl (any_of HT_.out (by kernel_rfl)) (fun c a w h => hq13 _ (by decide) _ c a w h) (Or.inl ⟨by rfl, ?_⟩) ?_ ?_
      rotate_left
      · intro w'
        go_simp
        with_reducible rfl
      rotate_left
      · simp only [Act.put, List.setIfInBounds_toArray, List.set_cons_zero, List.set_cons_succ, i64_w, i32_w]
        rfl
      refine pure_ (i := 3) (N := some 57) (v := ?_) (a' := ?_) #[true, true, true, true, false, false, false, false, false, false, false, false, false, false, false, false, false, false, false, false] rfl rfl (any_of HT_.out (by kernel_rfl)) (fun c a w h => hq13 _ (by decide) _ c a w h) (Or.inl ⟨by rfl, ?_⟩) ?_ ?_
      rotate_left
      · intro w'
        go_simp
        with_reducible rfl
      rotate_left
      · simp only [Act.put, List.setIfInBounds_toArray, List.set_cons_zero, List.set_cons_succ, i64_w, i32_w]
        rfl
      refine pure_ (i := 4) (N := some 58) (v := ?_) (a' := ?_) #[true, true, true, true, true, false, false, false, false, false, false, false, false, false, false, false, false, false, false, false] rfl rfl (any_of HT_.out (by kernel_rfl)) (fun c a w h => hq13 _ (by decide) _ c a w h) (Or.inl ⟨by rfl, ?_⟩) ?_ ?_
      rotate_left
      · intro w'
        go_simp
        with_reducible rfl
      rotate_left
      · simp only [Act.put, List.setIfInBounds_toArray, List.set_cons_zero, List.set_cons_succ, i64_w, i32_w]
        rfl
      refine take_ (i := 5) (N := some 59) (v := ?_) (a' := ?_) #[true, true, true, true, true, true, false, false, false, false, false, false, false, false, false, false, false, false, false, false] rfl rfl (take_ofW HT_.out HW_.out (by kernel_rfl)) (fun c a w h => hq13 _ (by decide) _ c a w h) (Or.inl ⟨by rfl, ?_⟩) hHeld ?_ ?_
      rotate_left
      · intro w' hS_
        obtain ⟨k0_, k1_, k2_⟩ := cells3 hS_
        go_simp
        with_reducible rfl
      rotate_left
      · simp only [Act.put, List.setIfInBounds_toArray, List.set_cons_zero, List.set_cons_succ, i64_w, i32_w]
        rfl
      refine pure_ (i := 6) (N := some 60) (v := ?_) (a' := ?_) #[true, true, true, true, true, true, true, false, false, false, false, false, false, false, false, false, false, false, false, false] rfl rfl (any_of HT_.out (by kernel_rfl)) (fun c a w h => hq13 _ (by decide) _ c a w h) (Or.inl ⟨by rfl, ?_⟩) ?_ ?_
      rotate_left
      · intro w'
        go_simp
        with_reducible rfl
      rotate_left
      · simp only [Act.put, List.setIfInBounds_toArray, List.set_cons_zero, List.set_cons_succ, i64_w, i32_w]
        rfl
      refine pure_ (i := 7) (N := some 61) (v := ?_) (a' := ?_) #[true, true, true, true, true, true, true, true, false, false, false, false, false, false, false, false, false, false, false, false] rfl rfl (any_of HT_.out (by kernel_rfl)) (fun c a w h => hq13 _ (by decide) _ c a w h) (Or.inl ⟨by rfl, ?_⟩) ?_ ?_
      rotate_left
      · intro w'
        go_simp
        with_reducible rfl
      rotate_left
      · simp only [Act.put, List.setIfInBounds_toArray, List.set_cons_zero, List.set_cons_succ, i64_w, i32_w]
        rfl
      refine pure_ (i := 8) (N := some 62) (v := ?_) (a' := ?_) #[true, true, true, true, true, true, true, true, true, false, false, false, false, false, false, false, false, false, false, false] rfl rfl (any_of HT_.out (by kernel_rfl)) (fun c a w h => hq13 _ (by decide) _ c a w h) (Or.inl ⟨by rfl, ?_⟩) ?_ ?_
      rotate_left
      · intro w'
        go_simp
        with_reducible rfl
      rotate_left
      · simp only [Act.put, List.setIfInBounds_toArray, List.set_cons_zero, List.set_cons_succ, i64_w, i32_w]
        rfl
      refine pure_ (i := 9) (N := some 63) (v := ?_) (a' := ?_) #[true, true, true, true, true, true, true, true, true, true, false, false, false, false, false, false, false, false, false, false] rfl rfl (any_of HT_.out (by kernel_rfl)) (fun c a w h => hq13 _ (by decide) _ c a w h) (Or.inl ⟨by rfl, ?_⟩) ?_ ?_
      rotate_left
      · intro w'
        go_simp
        with_reducible rfl
      rotate_left
      · simp only [Act.put, List.setIfInBounds_toArray, List.set_cons_zero, List.set_cons_succ, i64_w, i32_w]
        rfl
      refine pure_ (i := 10) (N := some 64) (v := ?_) (a' := ?_) #[true, true, true, true, true, true, true, true, true, true, true, false, false, false, false, false, false, false, false, false] rfl rfl (any_of HT_.out (by kernel_rfl)) (fun c a w h => hq13 _ (by decide) _ c a w h) (Or.inl ⟨by rfl, ?_⟩) ?_ ?_
      rotate_left
      · intro w'
        go_simp
        with_reducible rfl
      rotate_left
      · simp only [Act.put, List.setIfInBounds_toArray, List.set_cons_zero, List.set_cons_succ, i64_w, i32_w]
        rfl
      refine take_ (i := 11) (N := some 65) (v := ?_) (a' := ?_) #[true, true, true, true, true, true, true, true, true, true, true, true, false, false, false, false, false, false, false, false] rfl rfl (take_ofW HT_.out HW_.out (by kernel_rfl)) (fun c a w h => hq13 _ (by decide) _ c a w h) (Or.inl ⟨by rfl, ?_⟩) hHeld ?_ ?_
      rotate_left
      · intro w' hS_
        obtain ⟨k0_, k1_, k2_⟩ := cells3 hS_
        go_simp
        with_reducible rfl
      rotate_left
      · simp only [Act.put, List.setIfInBounds_toArray, List.set_cons_zero, List.set_cons_succ, i64_w, i32_w]
        rfl
      refine pure_ (i := 12) (N := some 66) (v := ?_) (a' := ?_) #[true, true, true, true, true, true, true, true, true, true, true, true, true, false, false, false, false, false, false, false] rfl rfl (any_of HT_.out (by kernel_rfl)) (fun c a w h => hq13 _ (by decide) _ c a w h) (Or.inl ⟨by rfl, ?_⟩) ?_ ?_
      rotate_left
      · intro w'
        go_simp
        with_reducible rfl
      rotate_left
      · simp only [Act.put, List.setIfInBounds_toArray, List.set_cons_zero, List.set_cons_succ, i64_w, i32_w]
        rfl
      refine pure_ (i := 13) (N := some 67) (v := ?_) (a' := ?_) #[true, true, true, true, true, true, true, true, true, true, true, true, true, true, false, false, false, false, false, false] rfl rfl (any_of HT_.out (by kernel_rfl)) (fun c a w h => hq13 _ (by decide) _ c a w h) (Or.inl ⟨by rfl, ?_⟩) ?_ ?_
      rotate_left
      · intro w'
        go_simp
        with_reducible rfl
      rotate_left
      · simp only [Act.put, List.setIfInBounds_toArray, List.set_cons_zero, List.set_cons_succ, i64_w, i32_w]
        rfl
      refine pure_ (i := 14) (N := some 68) (v := ?_) (a' := ?_) #[true, true, true, true, true, true, true, true, true, true, true, true, true, true, true, false, false, false, false, false] rfl rfl (any_of HT_.out (by kernel_rfl)) (fun c a w h => hq13 _ (by decide) _ c a w h) (Or.inl ⟨by rfl, ?_⟩) ?_ ?_
      rotate_left
      · intro w'
        go_simp
        with_reducible rfl
      rotate_left
      · simp only [Act.put, List.setIfInBounds_toArray, List.set_cons_zero, List.set_cons_succ, i64_w, i32_w]
        rfl
      refine pure_ (i := 15) (N := some 69) (v := ?_) (a' := ?_) #[true, true, true, true, true, true, true, true, true, true, true, true, true, true, true, true, false, false, false, false] rfl rfl (any_of HT_.out (by kernel_rfl)) (fun c a w h => hq13 _ (by decide) _ c a w h) (Or.inl ⟨by rfl, ?_⟩) ?_ ?_
      rotate_left
      · intro w'
        go_simp
        with_reducible rfl
      rotate_left
      · simp only [Act.put, List.setIfInBounds_toArray, List.set_cons_zero, List.set_cons_succ, i64_w, i32_w]
        rfl
      refine last_ (i := 16) (N := none) #[true, true, true, true, true, true, true, true, true, true, true, true, true, true, true, true, true, false, false, false] rfl rfl (one_of HT_.out (by kernel_rfl)) (by decide) (fun K hK => ?_)
      have k1 := (cells3 YG.out).2.1
      have hf2 := blk_frozen YG.out 1
      refine skip_ (w1 := ?_) (by rfl) rfl ?_ ?_
      rotate_left
      · go_simp
        rfl
      clear k1 hf2
      refine hK.out _ _ ?_
      clear hK K
      refine pure_ (i := 17) (N := some 70) (v := ?_) (a' := ?_) #[true, true, true, true, true, true, true, true, true, true, true, true, true, true, true, true, true, true, false, false] rfl rfl (any_of HT_.out (by kernel_rfl)) (fun c a w h => hq13 _ (by decide) _ c a w h) (Or.inl ⟨by rfl, ?_⟩) ?_ ?_
      rotate_left
      · intro w'
        go_simp
        with_reducible rfl
      rotate_left
      · simp only [Act.put, List.setIfInBounds_toArray, List.set_cons_zero, List.set_cons_succ, i64_w, i32_w]
        rfl
      refine pure_ (i := 18) (N := some 71) (v := ?_) (a' := ?_) #[true, true, true, true, true, true, true, true, true, true, true, true, true, true, true, true, true, true, true, false] rfl rfl (any_of HT_.out (by kernel_rfl)) (fun c a w h => hq13 _ (by decide) _ c a w h) (Or.inl ⟨by rfl, ?_⟩) ?_ ?_
      rotate_left
      · intro w'
        go_simp
        with_reducible rfl
      rotate_left
      · simp only [Act.put, List.setIfInBounds_toArray, List.set_cons_zero, List.set_cons_succ, i64_w, i32_w]
        rfl
      refine last_ (i := 19) (N := none) #[true, true, true, true, true, true, true, true, true, true, true, true, true, true, true, true, true, true, true, true] rfl rfl (one_of HT_.out (by kernel_rfl)) (by decide) (fun K hK => ?_)
      have HG1 := Lib.hid (blk_put YG.out 1 (.slice A1 l1.length c1) rfl)
      have k2 := (cells3 HG1.out).2.2
      have hf2 := blk_frozen HG1.out 2
      refine skip_ (w1 := ?_) (by rfl) rfl ?_ ?_
      rotate_left
      · go_simp
        rfl
      clear k2 hf2
      have hAT : At ((w3.setCell ⟨g, 1, none⟩ (.slice A1 l1.length c1)).setCell ⟨g, 2, none⟩ (.slice (some ⟨q2, 0, none⟩) f1.length c2)) b g (fun k => ok k ∧ k < w.heap.size) ⟨o1, l1, f1⟩ :=
        ⟨_, _, _, blk_put HG1.out 2 _ rfl, HOG.out.1, HOG.out.2, Kd.R_set (Kd.R_set Y0.out YG.out (by decide) 1 _) HG1.out (by decide) 2 _, Kd.R_set (Kd.R_set Y1.out YG.out (by decide) 1 _) HG1.out (by decide) 2 _, Kd.R_set (Kd.R_set Y2.out YG.out (by decide) 1 _) HG1.out (by decide) 2 _⟩
      have hne := blk_ne YE.out YG.out (by decide)
      have ZE := Lib.hid (blk_far (p := ⟨g, 2, none⟩) (blk_far (p := ⟨g, 1, none⟩) YE.out hne (.slice A1 l1.length c1)) hne (.slice (some ⟨q2, 0, none⟩) f1.length c2))
      have ZF := Lib.hid ((YF.out.trans (Fr.set (ok := (fun k => ok k ∧ k < w.heap.size)) ⟨g, 1, none⟩ (.slice A1 l1.length c1) HOG.out.1) (fun _ _ hk => hk)).trans (Fr.set (ok := (fun k => ok k ∧ k < w.heap.size)) ⟨g, 2, none⟩ (.slice (some ⟨q2, 0, none⟩) f1.length c2) HOG.out.1) (fun _ _ hk => hk))
      have HAT := Lib.hid hAT
      clear hAT hne Y0 Y1 Y2 YG YE YF HG1
      generalize (w3.setCell { block := g, off := 1, spot := none } (Value.slice A1 l1.length c1)).setCell { block := g, off := 2, spot := none } (Value.slice (some { block := q2, off := 0, spot := none }) f1.length c2) = w4 at HAT ZE ZF ⊢
      refine hK.out _ _ ?_
      clear hK K
      refine done_ (done_of HT_.out (by kernel_rfl)) ?_
      clear HT_ HW_
      have hc5 := (e_cell ZE.out).1
      have hz5 := (e_cell ZE.out).2
      go_wp2_with fail
      refine door13_ret w.heap.size 0 _ _ _ rfl rfl (World.cell?_setCell_same _ _ _ hc5) ⟨rfl, ?_, fr_done (fr_box ZF.out) (Nat.le_refl _) _⟩
      rw [HBT3.out]
      exact (HAT.out.far (by simp) _).mono (fun k_ hk => Or.inl hk.1)
/-- Back, whatever comes -/
theorem back_any {w : World} {b g : Nat} {ok : Nat → Prop} {T : TS} (hT : At w b g ok T) (hF : Fine T) (v : Int) :
    Calls Try.prog 13 #[.pointer (some ⟨g, 0, none⟩), .int .i64 v] w fun e w' => e = .returned (.int .i64 (bacE T v)) ∧ At w' b g (newer w ok) (bacT T v) ∧ Fr w w' ok := by
  by_cases h : 0 ≤ v ∧ v ≤ T.frm.length
  · have e : bacE T v = 0 := by unfold bacE; rw [if_pos h]
    rw [e]
    by_cases h2 : v = T.frm.length
    · have e2 : bacT T v = T := by unfold bacT; rw [if_neg (by omega)]
      rw [e2, h2]
      exact back_same hT hF.fl
    · obtain ⟨k, rfl⟩ : ∃ k : Nat, v = (k : Int) := ⟨v.toNat, by omega⟩
      have hk : k < T.frm.length := by omega
      have hm : T.frm.getD k 0 ∈ T.frm := by rw [List.getD_eq_getElem?_getD, List.getElem?_eq_getElem hk]; exact List.getElem_mem hk
      have h3 := hF.frs _ hm
      exact back_ok hT hF k (T.frm.getD k 0).toNat hk (by omega)
  · have e : bacE T v = 1 := by unfold bacE; rw [if_neg h]
    have e2 : bacT T v = T := by unfold bacT; rw [if_neg (fun hh => h ⟨hh.1, by omega⟩)]
    rw [e, e2]
    exact back_bad hT v h
end Go.Proofs.Ytdcemlennobjhaa.Tr
