/-
  The walk of Sound. Conditions: as each statement has them.
-/
import Derived.Test.YtdcemlennobjhaaTrI
import Derived.Deep.QuietTactic
import Derived.BigQuiet
import Derived.Outline
namespace Go.Proofs.Ytdcemlennobjhaa.Tr
open Go.RowKit Go.Proofs.YtdcemlennobjhaaW.PrintWords Go.Proofs.YtdcemlennobjhaaW.PrintLast Go.Proofs.YtdcemlennobjhaaW.PrintMore Go.Proofs.Ytdcemlennobjhaa.PTrailPlays
set_option linter.unusedSimpArgs false
set_option linter.unusedVariables false

abbrev CD : Kd (List Int) := Kd.slice 3 (Kd.int .i64)
/-- has a clause a literal, and are the contraries of all its others ahead? -/
def sup (done : List Int) (x : Int) (c : List Int) : Bool := c.any (fun y => x == y) && !(c.any (lacks done x))
/-- is the literal decided, or has it a reason? -/
def stands (T : TS) (cs : List (List Int)) (done : List Int) (x : Int) : Bool :=
  if (pl T x).f2 = -1 then true else decide ((pl T x).f2 < cs.length) && sup done x (cs.getD (pl T x).f2.toNat [])
def sndFrom (T : TS) (cs : List (List Int)) : List Int → List Int → Bool
  | _, [] => true
  | done, x :: r => stands T cs done x && sndFrom T cs (done ++ [x]) r
theorem at_row (w : World) (A : Option Addr) (ls : List (List Int)) (hc : Kd.C CD w A ls.length ls) (k : Nat) (hk : k < ls.length) :
    ∃ ad Ac cc, A = some ad ∧ w.cell? (ad.add k) = some (.slice Ac (ls.getD k []).length cc) ∧ (ls.getD k []).length ≤ cc ∧ Kd.C (Kd.int .i64) w Ac (ls.getD k []).length (ls.getD k []) := by
  obtain ⟨ad, A0, c0, h1, h2, h3, h4⟩ := at_L2 hc (k : Int) (by omega) (by omega)
  simp only [rd_L2, Int.toNat_natCast] at h2 h3 h4
  exact ⟨ad, A0, c0, h1, h2, h3, h4⟩
structure SoundOk (T : TS) (cs : List (List Int)) : Prop where
  n2 : T.of.length ≤ 257
  ll : T.l.length ≤ 100000
  lits : ∀ x ∈ T.l, x.natAbs < T.of.length
  rea : ∀ x ∈ T.l, -1 ≤ (pl T x).f2
  cl : cs.length ≤ 1000000
  cls : ∀ c ∈ cs, ∀ y ∈ c, -1000000 ≤ y ∧ y ≤ 1000000
def X26.T6 : Bool × List (List Nat × List Nat) := (true, [([], []), ([0], [0]), ([1], [1]), ([2], [2]), ([2], [2]), ([4, 2], [2, 4]), ([3, 5, 2], [2, 3, 5]), ([6, 2, 2], [2, 6]), ([7], [7]), ([7], [7]), ([8, 9, 7], [7, 8, 9]), ([10, 7], [7, 10]), ([7], [7]), ([11, 12, 7, 7], [7, 11, 12]), ([13, 7], [7, 13]), ([7, 14, 2], [2, 7, 14]), ([15, 13, 2], [2, 15]), ([16], [16]), ([16], [16]), ([17, 18, 16], [16, 17, 18]), ([19, 16], [16, 19]), ([16], [16]), ([20, 21, 16, 16], [16, 20, 21]), ([16, 22, 2], [2, 16, 22]), ([2, 23], [2, 23])])
def X26.B6 : List Nat := [0, 1, 3, 7, 7, 23, 63, 127, 255, 255, 1023, 2047, 255, 8191, 16383, 32767, 65535, 131071, 131071, 524287, 1048575, 131071, 4194303, 8388607, 16777215]
theorem X26.tab6 : rtab .any (opsOf Try.f26 6) = X26.T6 := by kernel_rfl
theorem X26.bits6 : waitsOk X26.T6.2 X26.B6 = true := by kernel_rfl
set_option maxRecDepth 100000 in
set_option maxHeartbeats 8000000 in
theorem sound_any {w : World} {b g : Nat} {ok : Nat → Prop} {T : TS} (hT : At w b g ok T) (cs : List (List Int)) (hS : SoundOk T cs) (A : Option Addr) (c : Nat) (hC : Kd.C CD w A cs.length cs) :
    Calls Try.prog 26 #[.pointer (some ⟨g, 0, none⟩), .slice A cs.length c] w fun e w' => e = .returned (.bool (sndFrom T cs [] T.l)) ∧ Below w.heap.size w w' := by
  have HT := Lib.hid hT
  have HC := Lib.hid hC
  have HS := Lib.hid hS
  obtain ⟨v0, v1, v2, hb, _, _, h0, h1, _⟩ := hT
  obtain ⟨A0, c0, rfl⟩ := Kd.R_slice h0
  obtain ⟨A1, c1, rfl⟩ := Kd.R_slice h1
  have hc0 := (cells3 hb).1
  have hc1 := (cells3 hb).2.1
  have hgl := blk_lt hb
  have HG := Lib.hid hb
  have X0 := Lib.hid h0
  have X1 := Lib.hid h1
  have HC0 := Lib.hid hc0
  have hmm := @run_makeMap Try.prog
  have hlen : (T.l.length : Int) ≤ 100000 := by have := hS.ll; omega
  have HA0 := Lib.hid ((Ahead.made w).kept (World.grownBy_alloc _ (.cells #[.map (some w.heap.size)] 76) none) (by simp))
  have HB0 := Lib.hid (below_alloc (below_alloc (Below.refl w.heap.size w) (.map #[] 0)) (.cells #[.map (some w.heap.size)] 76))
  have HM0 := Lib.hid (show ((w.alloc (.map #[] 0)).alloc (.cells #[.map (some w.heap.size)] 76)).heap[w.heap.size + 1]? = some (.cells #[.map (some w.heap.size)] 76 (0, 0)) from by have := blk_new (w.alloc (.map #[] 0)) (.cells #[.map (some w.heap.size)] 76); simpa using this)
  clear hC hS hb h0 h1 hc0
  go_enter Try.func26, Try.ntmps26
  go_wp2_with fail
  go_loopw [15] (fun t wr => ∃ k : Nat, k ≤ T.l.length ∧ t = .int .i64 k ∧ Hid (Ahead wr w.heap.size k (T.l.take k)) ∧ Hid (wr.heap[w.heap.size + 1]? = some (.cells #[.map (some w.heap.size)] 76 (0, 0))) ∧ Hid (Below w.heap.size w wr) ∧ Hid (sndFrom T cs (T.l.take k) (T.l.drop k) = sndFrom T cs [] T.l)) (fun t _ => T.l.length - (intOf t).toNat)
  case atStart => exact ⟨0, Nat.zero_le _, rfl, HA0, HM0, HB0, Lib.hid rfl⟩
  case round =>
    clear HA0 HM0 HB0 hc1 hgl hmm
    obtain ⟨k, hk, rfl, HA, HM, HB, HN⟩ := hrel
    by_cases hlt : k < T.l.length
    · obtain ⟨ad, hA1, hcell⟩ := at_lit' w A1 T.l (Kd.R_reads' X1.out).2.2 k hlt
      subst hA1
      obtain ⟨x, hx⟩ : ∃ x, T.l.getD k 0 = x := ⟨_, rfl⟩
      rw [hx] at hcell
      replace hcell := (HB.out.cell (World.block_lt_of_cell? w _ hcell)).trans hcell
      have hmem : x ∈ T.l := by rw [← hx, List.getD_eq_getElem?_getD, List.getElem?_eq_getElem hlt]; exact List.getElem_mem hlt
      have hdrop : T.l.drop k = x :: T.l.drop (k + 1) := by
        rw [List.drop_eq_getElem_cons hlt, ← hx, List.getD_eq_getElem?_getD, List.getElem?_eq_getElem hlt]; simp
      have htake : T.l.take (k + 1) = T.l.take k ++ [x] := by
        rw [List.take_succ_eq_append_getElem hlt, ← hx, List.getD_eq_getElem?_getD, List.getElem?_eq_getElem hlt]; simp
      have hxl := HS.out.lits x hmem
      have hxr := HS.out.rea x hmem
      have hn := HN.out
      rw [hdrop] at hn
      simp only [sndFrom] at hn
      rw [← htake] at hn
      have hA := Lib.hid (fun w => at_any x (by have := HS.out.n2; omega) w)
      have HBa := Lib.hid (below_alloc HB.out (.cells #[.int .i64 x] 3))
      have HGa := Lib.hid (blk_below HG.out HBa.out)
      have HAa := Lib.hid (HA.out.kept (World.grownBy_alloc _ (.cells #[.int .i64 x] 3) none) (by simp))
      have HMa := Lib.hid (blk_alloc HM.out (.cells #[.int .i64 x] 3))
      have HPa := Lib.hid (blk_new wr (.cells #[.int .i64 x] 3))
      have hpl := pl_cells (Kd.R_below X0.out HBa.out) x.natAbs hxl
      rw [show T.of.getD x.natAbs z69 = pl T x from rfl] at hpl
      obtain ⟨q0, hq0, _, _, _, hp2⟩ := hpl
      subst hq0
      have hxw := wf_i64 (y := x) (by have := HS.out.n2; omega)
      obtain ⟨m, hm⟩ : ∃ m : Nat, x.natAbs = m := ⟨_, rfl⟩
      rw [hm] at hA hp2 hxl
      obtain ⟨st, hst⟩ : ∃ st, stands T cs (T.l.take k) x = st := ⟨_, rfl⟩
      rw [hst] at hn
      have hst2 := hst
      unfold stands at hst2
      obtain ⟨y, hy⟩ : ∃ y, (pl T x).f2 = y := ⟨_, rfl⟩
      rw [hy] at hp2 hxr hst2
      have HP2 := Lib.hid hp2
      have HN2 := Lib.hid hn
      have HST := Lib.hid hst2
      have HXW := Lib.hid hxw
      have HTK := Lib.hid htake
      have hml : (m : Int) < (T.of.length : Int) := by omega
      have hm0 : (0 : Int) ≤ (m : Int) := by omega
      have hklt : (k : Int) < (T.l.length : Int) := by omega
      clear hm hst hst2 hy hn hxw htake hdrop hmem hx HA HM HN hp2 hxl
      go_wp2_with fail
      generalize hwa : wr.alloc (Obj.cells #[Value.int IntKind.i64 x] 3) = wa at HBa HGa HAa HMa HPa HP2 ⊢
      have hk0 := (cells3 HGa.out).1
      have hp2 := HP2.out
      have hpx : wa.cell? ⟨wr.heap.size, 0, none⟩ = some (.int .i64 x) := blk_cell HPa.out 0
      clear hcell hwa
      go_quiet ((go_at_call 34; exact Calls.quiet_of_same (hA.out _)))
      rename_i nq
      have t1_ := Lib.hid (pw_below_drewN HBa.out nq)
      have t3_ := Lib.hid (show Ahead (wa.drewN nq) w.heap.size k (T.l.take k) from HAa.out)
      have t4_ := Lib.hid (show (wa.drewN nq).heap[w.heap.size + 1]? = some (.cells #[.map (some w.heap.size)] 76 (0, 0)) from HMa.out)
      have t5_ := Lib.hid (show (wa.drewN nq).heap[wr.heap.size]? = some (.cells #[.int .i64 x] 3 (0, 0)) from HPa.out)
      clear HBa HAa HMa HPa hpx hk0 hp2
      have HBa := t1_
      have HAa := t3_
      have HMa := t4_
      have HPa := t5_
      clear t1_ t3_ t4_ t5_
      generalize wa.drewN nq = w2 at HBa HAa HMa HPa ⊢
      have hpx : w2.cell? ⟨wr.heap.size, 0, none⟩ = some (.int .i64 x) := blk_cell HPa.out 0
      by_cases hy1 : y = -1
      · have e1 : (y != -1) = false := bne_eq_false_iff_eq.mpr hy1
        have hs := HST.out
        rw [if_pos hy1] at hs
        subst hs
        clear hy1 HST hml hm0
        go_wp2_with fail
        go_quiet (fail)

        rename_i nq
        have t1_ := Lib.hid (pw_below_drewN HBa.out nq)
        have t3_ := Lib.hid (show Ahead (w2.drewN nq) w.heap.size k (T.l.take k) from HAa.out)
        have t4_ := Lib.hid (show (w2.drewN nq).heap[w.heap.size + 1]? = some (.cells #[.map (some w.heap.size)] 76 (0, 0)) from HMa.out)
        have t5_ := Lib.hid (show (w2.drewN nq).heap[wr.heap.size]? = some (.cells #[.int .i64 x] 3 (0, 0)) from HPa.out)
        clear HBa HAa HMa HPa hpx
        have HBa := t1_
        have HAa := t3_
        have HMa := t4_
        have HPa := t5_
        clear t1_ t3_ t4_ t5_
        generalize w2.drewN nq = w3 at HBa HAa HMa HPa ⊢

        have hpx : w3.cell? ⟨wr.heap.size, 0, none⟩ = some (.int .i64 x) := blk_cell HPa.out 0
        have hmp : w3.cell? ⟨w.heap.size + 1, 0, none⟩ = some (.map (some w.heap.size)) := blk_cell HMa.out 0
        have HN3 := Lib.hid (show sndFrom T cs (T.l.take (k + 1)) (T.l.drop (k + 1)) = sndFrom T cs [] T.l by rw [← HN2.out]; rfl)
        go_wp2_with (at_mapUpdate; refine wpList_ahead _ rfl _ _ _ rfl w.heap.size k (T.l.take k) x rfl rfl rfl HAa.out (by unfold maxLen; omega) HXW.out ?_; intro w4 ha hg; have HA5 := Lib.hid ha; have HM5 := Lib.hid (blk_grown HMa.out hg (by simp)); have HB5 := Lib.hid (HBa.out.grown hg HBa.out.size (fun k hk => by injection hk with hk; omega)); clear ha hg)
        rw [← HTK.out] at HA5
        exact ⟨⟨k + 1, by omega, by go_num, HA5, HM5, HB5, HN3⟩, by simp only [intOf]; omega⟩
      · have e1 : (y != -1) = true := bne_iff_ne.mpr hy1
        obtain ⟨r, rfl⟩ : ∃ r : Nat, y = (r : Int) := ⟨y.toNat, by omega⟩
        have hs := HST.out
        rw [if_neg hy1, Int.toNat_natCast] at hs
        have HST2 := Lib.hid hs
        clear hs HST hy1 hml hm0 HP2 HGa
        by_cases hr : r < cs.length
        · have e2 : decide (cs.length ≤ r) = false := decide_eq_false (by omega)
          obtain ⟨ad2, Ac, cc, hA2, hcell2, hcc, hCc⟩ := at_row w A cs HC.out r hr
          subst hA2
          replace hcell2 := (HBa.out.cell (World.block_lt_of_cell? w _ hcell2)).trans hcell2
          obtain ⟨cl, hcl⟩ : ∃ cl, cs.getD r [] = cl := ⟨_, rfl⟩
          have hcm : ∀ y ∈ cl, -1000000 ≤ y ∧ y ≤ 1000000 := HS.out.cls cl (by rw [← hcl, List.getD_eq_getElem?_getD, List.getElem?_eq_getElem hr]; exact List.getElem_mem hr)
          rw [hcl] at hcell2 hCc hcc
          have hs := HST2.out
          rw [hcl, decide_eq_true (show (r : Int) < (cs.length : Int) by omega), Bool.true_and] at hs
          unfold sup at hs
          have HQ1d := Lib.hid (contains_eq w2.drew x Ac cl cc (Kd.C_drew (Kd.C_below hCc HBa.out)))
          have hmf := hmf45
          have HQ2d := Lib.hid (contains_func (w := w2.drew) (show Ahead w2.drew w.heap.size k (T.l.take k) from HAa.out) ⟨wr.heap.size, 0, none⟩ ⟨w.heap.size + 1, 0, none⟩ x hpx (blk_cell (w := w2.drew) HMa.out 0) Ac cl cc (Kd.C_drew (Kd.C_below hCc HBa.out)) hcm)
          obtain ⟨q1, hq1⟩ : ∃ q, cl.any (fun y => x == y) = q := ⟨_, rfl⟩
          obtain ⟨q2, hq2⟩ : ∃ q, cl.any (lacks (T.l.take k) x) = q := ⟨_, rfl⟩
          rw [hq1] at HQ1d
          rw [hq2] at HQ2d
          rw [hq1, hq2] at hs
          have HS2 := Lib.hid hs
          have hrl : (r : Int) < (cs.length : Int) := by omega
          have hr0 : (0 : Int) ≤ (r : Int) := by omega
          clear hs hq1 hq2 HST2 hcl hcm hCc hcc hr
          cases q1 with
          | false =>
            obtain rfl := HS2.out
            go_wp2_with fail
            have HSS := Lib.hid (show w2.drew.cell? (ad2.add r) = some (.slice Ac cl.length cc) ∧ w2.drew.cell? ⟨wr.heap.size, 0, none⟩ = some (.int .i64 x) from ⟨hcell2, hpx⟩)
            have Q1 := Lib.hid (show Calls Try.prog 43 #[.slice Ac cl.length cc, .int .i64 x] w2.drew _ from HQ1d.out)
            have Q2 := Lib.hid (show Calls Try.prog 44 #[.slice Ac cl.length cc, .func (.func 45) #[] #[.pointer (some ⟨wr.heap.size, 0, none⟩), .pointer (some ⟨w.heap.size + 1, 0, none⟩)]] w2.drew _ from HQ2d.out)
            have t1_ := Lib.hid (pw_below_drewN HBa.out 1)
            have t3_ := Lib.hid (show Ahead w2.drew w.heap.size k (T.l.take k) from HAa.out)
            have t4_ := Lib.hid (show w2.drew.heap[w.heap.size + 1]? = some (.cells #[.map (some w.heap.size)] 76 (0, 0)) from HMa.out)
            have t5_ := Lib.hid (show w2.drew.heap[wr.heap.size]? = some (.cells #[.int .i64 x] 3 (0, 0)) from HPa.out)
            have t6_ := Lib.hid (show Below w.heap.size w w2.drew from t1_.out)
            clear HBa HAa HMa HPa hpx hcell2 HQ1d HQ2d t1_
            have HBa := t6_
            have HAa := t3_
            have HMa := t4_
            have HPa := t5_
            clear t6_ t3_ t4_ t5_
            refine start_ (n := 25) (S := fun w' => w'.cell? (ad2.add r) = some (.slice Ac cl.length cc) ∧ w'.cell? ⟨wr.heap.size, 0, none⟩ = some (.int .i64 x)) (ds := []) #[false, false, false, false, false, false, false, false, false, false, false, false, false, false, false, false, false, false, false, false, false, false, false, false, false] (by kernel_rfl) rfl rfl HSS.out (fun hHeld => ?_)
            refine with_tabW X26.tab6 X26.bits6 (fun HT_ HW_ => ?_)
            generalize w2.drew = w3 at HBa HAa HMa HPa HSS Q1 Q2 hHeld ⊢
            refine pure_ (i := 0) (N := some 28) (v := ?_) (a' := ?_) #[true, false, false, false, false, false, false, false, false, false, false, false, false, false, false, false, false, false, false, false, false, false, false, false, false] rfl rfl (any_of HT_.out (by kernel_rfl)) (fun _ _ _ h => h) (Or.inl ⟨by rfl, ?_⟩) ?_ ?_
            rotate_left
            · intro w'
              go_simp
              with_reducible rfl
            rotate_left
            · simp only [Act.put, List.setIfInBounds_toArray, List.set_cons_zero, List.set_cons_succ, i64_w, i32_w]
              rfl
            refine pure_ (i := 1) (N := some 29) (v := ?_) (a' := ?_) #[true, true, false, false, false, false, false, false, false, false, false, false, false, false, false, false, false, false, false, false, false, false, false, false, false] rfl rfl (any_of HT_.out (by kernel_rfl)) (fun _ _ _ h => h) (Or.inl ⟨by rfl, ?_⟩) ?_ ?_
            rotate_left
            · intro w'
              go_simp
              with_reducible rfl
            rotate_left
            · simp only [Act.put, List.setIfInBounds_toArray, List.set_cons_zero, List.set_cons_succ, i64_w, i32_w]
              rfl
            refine pure_ (i := 2) (N := some 30) (v := ?_) (a' := ?_) #[true, true, true, false, false, false, false, false, false, false, false, false, false, false, false, false, false, false, false, false, false, false, false, false, false] rfl rfl (any_of HT_.out (by kernel_rfl)) (fun _ _ _ h => h) (Or.inl ⟨by rfl, ?_⟩) ?_ ?_
            rotate_left
            · intro w'
              go_simp
              with_reducible rfl
            rotate_left
            · simp only [Act.put, List.setIfInBounds_toArray, List.set_cons_zero, List.set_cons_succ, i64_w, i32_w]
              rfl
            refine pure_ (i := 3) (N := some 31) (v := ?_) (a' := ?_) #[true, true, true, true, false, false, false, false, false, false, false, false, false, false, false, false, false, false, false, false, false, false, false, false, false] rfl rfl (any_of HT_.out (by kernel_rfl)) (fun _ _ _ h => h) (Or.inl ⟨by rfl, ?_⟩) ?_ ?_
            rotate_left
            · intro w'
              go_simp
              with_reducible rfl
            rotate_left
            · simp only [Act.put, List.setIfInBounds_toArray, List.set_cons_zero, List.set_cons_succ, i64_w, i32_w]
              rfl
            refine pure_ (i := 4) (N := some 32) (v := ?_) (a' := ?_) #[true, true, true, true, true, false, false, false, false, false, false, false, false, false, false, false, false, false, false, false, false, false, false, false, false] rfl rfl (any_of HT_.out (by kernel_rfl)) (fun _ _ _ h => h) (Or.inl ⟨by rfl, ?_⟩) ?_ ?_
            rotate_left
            · intro w'
              go_simp
              with_reducible rfl
            rotate_left
            · simp only [Act.put, List.setIfInBounds_toArray, List.set_cons_zero, List.set_cons_succ, i64_w, i32_w]
              rfl
            refine pure_ (i := 5) (N := some 33) (v := ?_) (a' := ?_) #[true, true, true, true, true, true, false, false, false, false, false, false, false, false, false, false, false, false, false, false, false, false, false, false, false] rfl rfl (any_of HT_.out (by kernel_rfl)) (fun _ _ _ h => h) (Or.inl ⟨by rfl, ?_⟩) ?_ ?_
            rotate_left
            · intro w'
              go_simp
              with_reducible rfl
            rotate_left
            · simp only [Act.put, List.setIfInBounds_toArray, List.set_cons_zero, List.set_cons_succ, i64_w, i32_w]
              rfl
            refine pure_ (i := 6) (N := some 34) (v := ?_) (a' := ?_) #[true, true, true, true, true, true, true, false, false, false, false, false, false, false, false, false, false, false, false, false, false, false, false, false, false] rfl rfl (any_of HT_.out (by kernel_rfl)) (fun _ _ _ h => h) (Or.inl ⟨by rfl, ?_⟩) ?_ ?_
            rotate_left
            · intro w'
              go_simp
              with_reducible rfl
            rotate_left
            · simp only [Act.put, List.setIfInBounds_toArray, List.set_cons_zero, List.set_cons_succ, i64_w, i32_w]
              rfl
            refine pure_ (i := 7) (N := some 35) (v := ?_) (a' := ?_) #[true, true, true, true, true, true, true, true, false, false, false, false, false, false, false, false, false, false, false, false, false, false, false, false, false] rfl rfl (any_of HT_.out (by kernel_rfl)) (fun _ _ _ h => h) (Or.inl ⟨by rfl, ?_⟩) ?_ ?_
            rotate_left
            · intro w'
              go_simp
              with_reducible rfl
            rotate_left
            · simp only [Act.put, List.setIfInBounds_toArray, List.set_cons_zero, List.set_cons_succ, i64_w, i32_w]
              rfl
            refine pure_ (i := 8) (N := some 36) (v := ?_) (a' := ?_) #[true, true, true, true, true, true, true, true, true, false, false, false, false, false, false, false, false, false, false, false, false, false, false, false, false] rfl rfl (any_of HT_.out (by kernel_rfl)) (fun _ _ _ h => h) (Or.inl ⟨by rfl, ?_⟩) ?_ ?_
            rotate_left
            · intro w'
              go_simp
              with_reducible rfl
            rotate_left
            · simp only [Act.put, List.setIfInBounds_toArray, List.set_cons_zero, List.set_cons_succ, i64_w, i32_w]
              rfl
            refine pure_ (i := 9) (N := some 37) (v := ?_) (a' := ?_) #[true, true, true, true, true, true, true, true, true, true, false, false, false, false, false, false, false, false, false, false, false, false, false, false, false] rfl rfl (any_of HT_.out (by kernel_rfl)) (fun _ _ _ h => h) (Or.inl ⟨by rfl, ?_⟩) ?_ ?_
            rotate_left
            · intro w'
              go_simp
              with_reducible rfl
            rotate_left
            · simp only [Act.put, List.setIfInBounds_toArray, List.set_cons_zero, List.set_cons_succ, i64_w, i32_w]
              rfl
            refine pure_ (i := 10) (N := some 38) (v := ?_) (a' := ?_) #[true, true, true, true, true, true, true, true, true, true, true, false, false, false, false, false, false, false, false, false, false, false, false, false, false] rfl rfl (any_of HT_.out (by kernel_rfl)) (fun _ _ _ h => h) (Or.inl ⟨by rfl, ?_⟩) ?_ ?_
            rotate_left
            · intro w'
              go_simp
              with_reducible rfl
            rotate_left
            · simp only [Act.put, List.setIfInBounds_toArray, List.set_cons_zero, List.set_cons_succ, i64_w, i32_w]
              rfl
            refine take_ (i := 11) (N := some 39) (v := ?_) (a' := ?_) #[true, true, true, true, true, true, true, true, true, true, true, true, false, false, false, false, false, false, false, false, false, false, false, false, false] rfl rfl (take_ofW HT_.out HW_.out (by kernel_rfl)) (fun _ _ _ h => h) (Or.inl ⟨by rfl, ?_⟩) hHeld ?_ ?_
            rotate_left
            · intro w' hS_
              obtain ⟨k0_, k1_⟩ := hS_
              go_simp
              with_reducible rfl
            rotate_left
            · simp only [Act.put, List.setIfInBounds_toArray, List.set_cons_zero, List.set_cons_succ, i64_w, i32_w]
              rfl
            refine take_ (i := 12) (N := some 40) (v := ?_) (a' := ?_) #[true, true, true, true, true, true, true, true, true, true, true, true, true, false, false, false, false, false, false, false, false, false, false, false, false] rfl rfl (take_ofW HT_.out HW_.out (by kernel_rfl)) (fun _ _ _ h => h) (Or.inl ⟨by rfl, ?_⟩) hHeld ?_ ?_
            rotate_left
            · intro w' hS_
              obtain ⟨k0_, k1_⟩ := hS_
              go_simp
              with_reducible rfl
            rotate_left
            · simp only [Act.put, List.setIfInBounds_toArray, List.set_cons_zero, List.set_cons_succ, i64_w, i32_w]
              rfl
            refine one_ (i := 13) (N := some 41) #[true, true, true, true, true, true, true, true, true, true, true, true, true, true, false, false, false, false, false, false, false, false, false, false, false] rfl rfl (one_of HT_.out (by kernel_rfl)) (by decide) (fun K hK => ?_)
            refine goes_ Try.func43 (by kernel_rfl) rfl #[.slice Ac cl.length cc, .int .i64 x] (by rfl) rfl rfl (by first | (go_simp; done) | (simp [Act.eval]; done)) ?_
            refine Q1.out.mono ?_
            rintro e w' ⟨rfl, hw_⟩
            replace hw_ := hw_.symm
            subst hw_
            refine ⟨_, rfl, ?_⟩
            refine hK.out _ _ HSS.out (fun hHeld => ?_)
            clear hK K
            refine norm_ (a' := ?_) ?_ ?_
            rotate_left
            · show Act.put _ (some 41) _ = _
              simp only [Act.put, List.setIfInBounds_toArray, List.set_cons_zero, List.set_cons_succ, i64_w, i32_w]
              rfl
            refine pure_ (i := 14) (N := some 42) (v := ?_) (a' := ?_) #[true, true, true, true, true, true, true, true, true, true, true, true, true, true, true, false, false, false, false, false, false, false, false, false, false] rfl rfl (any_of HT_.out (by kernel_rfl)) (fun _ _ _ h => h) (Or.inl ⟨by rfl, ?_⟩) ?_ ?_
            rotate_left
            · intro w'
              go_simp
              with_reducible rfl
            rotate_left
            · simp only [Act.put, List.setIfInBounds_toArray, List.set_cons_zero, List.set_cons_succ, i64_w, i32_w]
              rfl
            refine pure_ (i := 15) (N := some 43) (v := ?_) (a' := ?_) #[true, true, true, true, true, true, true, true, true, true, true, true, true, true, true, true, false, false, false, false, false, false, false, false, false] rfl rfl (any_of HT_.out (by kernel_rfl)) (fun _ _ _ h => h) (Or.inl ⟨by rfl, ?_⟩) ?_ ?_
            rotate_left
            · intro w'
              go_simp
              with_reducible rfl
            rotate_left
            · simp only [Act.put, List.setIfInBounds_toArray, List.set_cons_zero, List.set_cons_succ, i64_w, i32_w]
              rfl
            refine pure_ (i := 16) (N := some 44) (v := ?_) (a' := ?_) #[true, true, true, true, true, true, true, true, true, true, true, true, true, true, true, true, true, false, false, false, false, false, false, false, false] rfl rfl (any_of HT_.out (by kernel_rfl)) (fun _ _ _ h => h) (Or.inl ⟨by rfl, ?_⟩) ?_ ?_
            rotate_left
            · intro w'
              go_simp
              with_reducible rfl
            rotate_left
            · simp only [Act.put, List.setIfInBounds_toArray, List.set_cons_zero, List.set_cons_succ, i64_w, i32_w]
              rfl
            refine pure_ (i := 17) (N := some 45) (v := undef) (a' := ?_) #[true, true, true, true, true, true, true, true, true, true, true, true, true, true, true, true, true, true, false, false, false, false, false, false, false] rfl rfl (any_of HT_.out (by kernel_rfl)) (fun _ _ _ h => h) (Or.inr ⟨by rfl, rfl⟩) ?_ ?_
            rotate_left
            · simp only [Act.put, List.setIfInBounds_toArray, List.set_cons_zero, List.set_cons_succ, i64_w, i32_w]
              rfl
            refine pure_ (i := 18) (N := some 46) (v := undef) (a' := ?_) #[true, true, true, true, true, true, true, true, true, true, true, true, true, true, true, true, true, true, true, false, false, false, false, false, false] rfl rfl (any_of HT_.out (by kernel_rfl)) (fun _ _ _ h => h) (Or.inr ⟨by rfl, rfl⟩) ?_ ?_
            rotate_left
            · simp only [Act.put, List.setIfInBounds_toArray, List.set_cons_zero, List.set_cons_succ, i64_w, i32_w]
              rfl
            refine pure_ (i := 19) (N := some 47) (v := undef) (a' := ?_) #[true, true, true, true, true, true, true, true, true, true, true, true, true, true, true, true, true, true, true, true, false, false, false, false, false] rfl rfl (any_of HT_.out (by kernel_rfl)) (fun _ _ _ h => h) (Or.inr ⟨by rfl, rfl⟩) ?_ ?_
            rotate_left
            · simp only [Act.put, List.setIfInBounds_toArray, List.set_cons_zero, List.set_cons_succ, i64_w, i32_w]
              rfl
            refine pure_ (i := 20) (N := some 48) (v := undef) (a' := ?_) #[true, true, true, true, true, true, true, true, true, true, true, true, true, true, true, true, true, true, true, true, true, false, false, false, false] rfl rfl (any_of HT_.out (by kernel_rfl)) (fun _ _ _ h => h) (Or.inr ⟨by rfl, rfl⟩) ?_ ?_
            rotate_left
            · simp only [Act.put, List.setIfInBounds_toArray, List.set_cons_zero, List.set_cons_succ, i64_w, i32_w]
              rfl
            refine pure_ (i := 21) (N := some 49) (v := undef) (a' := ?_) #[true, true, true, true, true, true, true, true, true, true, true, true, true, true, true, true, true, true, true, true, true, true, false, false, false] rfl rfl (any_of HT_.out (by kernel_rfl)) (fun _ _ _ h => h) (Or.inr ⟨by rfl, rfl⟩) ?_ ?_
            rotate_left
            · simp only [Act.put, List.setIfInBounds_toArray, List.set_cons_zero, List.set_cons_succ, i64_w, i32_w]
              rfl
            refine pure_ (i := 22) (N := some 50) (v := undef) (a' := ?_) #[true, true, true, true, true, true, true, true, true, true, true, true, true, true, true, true, true, true, true, true, true, true, true, false, false] rfl rfl (any_of HT_.out (by kernel_rfl)) (fun _ _ _ h => h) (Or.inr ⟨by rfl, rfl⟩) ?_ ?_
            rotate_left
            · simp only [Act.put, List.setIfInBounds_toArray, List.set_cons_zero, List.set_cons_succ, i64_w, i32_w]
              rfl
            refine pure_ (i := 23) (N := some 51) (v := ?_) (a' := ?_) #[true, true, true, true, true, true, true, true, true, true, true, true, true, true, true, true, true, true, true, true, true, true, true, true, false] rfl rfl (any_of HT_.out (by kernel_rfl)) (fun _ _ _ h => h) (Or.inl ⟨by rfl, ?_⟩) ?_ ?_
            rotate_left
            · intro w'
              go_simp
              with_reducible rfl
            rotate_left
            · simp only [Act.put, List.setIfInBounds_toArray, List.set_cons_zero, List.set_cons_succ, i64_w, i32_w]
              rfl
            refine pure_ (i := 24) (N := some 52) (v := ?_) (a' := ?_) #[true, true, true, true, true, true, true, true, true, true, true, true, true, true, true, true, true, true, true, true, true, true, true, true, true] rfl rfl (any_of HT_.out (by kernel_rfl)) (fun _ _ _ h => h) (Or.inl ⟨by rfl, ?_⟩) ?_ ?_
            rotate_left
            · intro w'
              go_simp
              with_reducible rfl
            rotate_left
            · simp only [Act.put, List.setIfInBounds_toArray, List.set_cons_zero, List.set_cons_succ, i64_w, i32_w]
              rfl
            refine done_ (done_of HT_.out (by kernel_rfl)) ?_
            clear HT_ HW_ hHeld
            clear HSS Q1 Q2

            go_wp2_with fail
            go_ret
            exact ⟨by rw [← HN2.out]; rfl, HBa.out⟩
          | true =>
            cases q2 with
            | true =>
              obtain rfl := HS2.out
              go_wp2_with fail
              have HSS := Lib.hid (show w2.drew.cell? (ad2.add r) = some (.slice Ac cl.length cc) ∧ w2.drew.cell? ⟨wr.heap.size, 0, none⟩ = some (.int .i64 x) from ⟨hcell2, hpx⟩)
              have Q1 := Lib.hid (show Calls Try.prog 43 #[.slice Ac cl.length cc, .int .i64 x] w2.drew _ from HQ1d.out)
              have Q2 := Lib.hid (show Calls Try.prog 44 #[.slice Ac cl.length cc, .func (.func 45) #[] #[.pointer (some ⟨wr.heap.size, 0, none⟩), .pointer (some ⟨w.heap.size + 1, 0, none⟩)]] w2.drew _ from HQ2d.out)
              have t1_ := Lib.hid (pw_below_drewN HBa.out 1)
              have t3_ := Lib.hid (show Ahead w2.drew w.heap.size k (T.l.take k) from HAa.out)
              have t4_ := Lib.hid (show w2.drew.heap[w.heap.size + 1]? = some (.cells #[.map (some w.heap.size)] 76 (0, 0)) from HMa.out)
              have t5_ := Lib.hid (show w2.drew.heap[wr.heap.size]? = some (.cells #[.int .i64 x] 3 (0, 0)) from HPa.out)
              have t6_ := Lib.hid (show Below w.heap.size w w2.drew from t1_.out)
              clear HBa HAa HMa HPa hpx hcell2 HQ1d HQ2d t1_
              have HBa := t6_
              have HAa := t3_
              have HMa := t4_
              have HPa := t5_
              clear t6_ t3_ t4_ t5_
              refine start_ (n := 25) (S := fun w' => w'.cell? (ad2.add r) = some (.slice Ac cl.length cc) ∧ w'.cell? ⟨wr.heap.size, 0, none⟩ = some (.int .i64 x)) (ds := []) #[false, false, false, false, false, false, false, false, false, false, false, false, false, false, false, false, false, false, false, false, false, false, false, false, false] (by kernel_rfl) rfl rfl HSS.out (fun hHeld => ?_)
              refine with_tabW X26.tab6 X26.bits6 (fun HT_ HW_ => ?_)
              generalize w2.drew = w3 at HBa HAa HMa HPa HSS Q1 Q2 hHeld ⊢
              refine pure_ (i := 0) (N := some 28) (v := ?_) (a' := ?_) #[true, false, false, false, false, false, false, false, false, false, false, false, false, false, false, false, false, false, false, false, false, false, false, false, false] rfl rfl (any_of HT_.out (by kernel_rfl)) (fun _ _ _ h => h) (Or.inl ⟨by rfl, ?_⟩) ?_ ?_
              rotate_left
              · intro w'
                go_simp
                with_reducible rfl
              rotate_left
              · simp only [Act.put, List.setIfInBounds_toArray, List.set_cons_zero, List.set_cons_succ, i64_w, i32_w]
                rfl
              refine pure_ (i := 1) (N := some 29) (v := ?_) (a' := ?_) #[true, true, false, false, false, false, false, false, false, false, false, false, false, false, false, false, false, false, false, false, false, false, false, false, false] rfl rfl (any_of HT_.out (by kernel_rfl)) (fun _ _ _ h => h) (Or.inl ⟨by rfl, ?_⟩) ?_ ?_
              rotate_left
              · intro w'
                go_simp
                with_reducible rfl
              rotate_left
              · simp only [Act.put, List.setIfInBounds_toArray, List.set_cons_zero, List.set_cons_succ, i64_w, i32_w]
                rfl
              refine pure_ (i := 2) (N := some 30) (v := ?_) (a' := ?_) #[true, true, true, false, false, false, false, false, false, false, false, false, false, false, false, false, false, false, false, false, false, false, false, false, false] rfl rfl (any_of HT_.out (by kernel_rfl)) (fun _ _ _ h => h) (Or.inl ⟨by rfl, ?_⟩) ?_ ?_
              rotate_left
              · intro w'
                go_simp
                with_reducible rfl
              rotate_left
              · simp only [Act.put, List.setIfInBounds_toArray, List.set_cons_zero, List.set_cons_succ, i64_w, i32_w]
                rfl
              refine pure_ (i := 3) (N := some 31) (v := ?_) (a' := ?_) #[true, true, true, true, false, false, false, false, false, false, false, false, false, false, false, false, false, false, false, false, false, false, false, false, false] rfl rfl (any_of HT_.out (by kernel_rfl)) (fun _ _ _ h => h) (Or.inl ⟨by rfl, ?_⟩) ?_ ?_
              rotate_left
              · intro w'
                go_simp
                with_reducible rfl
              rotate_left
              · simp only [Act.put, List.setIfInBounds_toArray, List.set_cons_zero, List.set_cons_succ, i64_w, i32_w]
                rfl
              refine pure_ (i := 4) (N := some 32) (v := ?_) (a' := ?_) #[true, true, true, true, true, false, false, false, false, false, false, false, false, false, false, false, false, false, false, false, false, false, false, false, false] rfl rfl (any_of HT_.out (by kernel_rfl)) (fun _ _ _ h => h) (Or.inl ⟨by rfl, ?_⟩) ?_ ?_
              rotate_left
              · intro w'
                go_simp
                with_reducible rfl
              rotate_left
              · simp only [Act.put, List.setIfInBounds_toArray, List.set_cons_zero, List.set_cons_succ, i64_w, i32_w]
                rfl
              refine pure_ (i := 5) (N := some 33) (v := ?_) (a' := ?_) #[true, true, true, true, true, true, false, false, false, false, false, false, false, false, false, false, false, false, false, false, false, false, false, false, false] rfl rfl (any_of HT_.out (by kernel_rfl)) (fun _ _ _ h => h) (Or.inl ⟨by rfl, ?_⟩) ?_ ?_
              rotate_left
              · intro w'
                go_simp
                with_reducible rfl
              rotate_left
              · simp only [Act.put, List.setIfInBounds_toArray, List.set_cons_zero, List.set_cons_succ, i64_w, i32_w]
                rfl
              refine pure_ (i := 6) (N := some 34) (v := ?_) (a' := ?_) #[true, true, true, true, true, true, true, false, false, false, false, false, false, false, false, false, false, false, false, false, false, false, false, false, false] rfl rfl (any_of HT_.out (by kernel_rfl)) (fun _ _ _ h => h) (Or.inl ⟨by rfl, ?_⟩) ?_ ?_
              rotate_left
              · intro w'
                go_simp
                with_reducible rfl
              rotate_left
              · simp only [Act.put, List.setIfInBounds_toArray, List.set_cons_zero, List.set_cons_succ, i64_w, i32_w]
                rfl
              refine pure_ (i := 7) (N := some 35) (v := ?_) (a' := ?_) #[true, true, true, true, true, true, true, true, false, false, false, false, false, false, false, false, false, false, false, false, false, false, false, false, false] rfl rfl (any_of HT_.out (by kernel_rfl)) (fun _ _ _ h => h) (Or.inl ⟨by rfl, ?_⟩) ?_ ?_
              rotate_left
              · intro w'
                go_simp
                with_reducible rfl
              rotate_left
              · simp only [Act.put, List.setIfInBounds_toArray, List.set_cons_zero, List.set_cons_succ, i64_w, i32_w]
                rfl
              refine pure_ (i := 8) (N := some 36) (v := ?_) (a' := ?_) #[true, true, true, true, true, true, true, true, true, false, false, false, false, false, false, false, false, false, false, false, false, false, false, false, false] rfl rfl (any_of HT_.out (by kernel_rfl)) (fun _ _ _ h => h) (Or.inl ⟨by rfl, ?_⟩) ?_ ?_
              rotate_left
              · intro w'
                go_simp
                with_reducible rfl
              rotate_left
              · simp only [Act.put, List.setIfInBounds_toArray, List.set_cons_zero, List.set_cons_succ, i64_w, i32_w]
                rfl
              refine pure_ (i := 9) (N := some 37) (v := ?_) (a' := ?_) #[true, true, true, true, true, true, true, true, true, true, false, false, false, false, false, false, false, false, false, false, false, false, false, false, false] rfl rfl (any_of HT_.out (by kernel_rfl)) (fun _ _ _ h => h) (Or.inl ⟨by rfl, ?_⟩) ?_ ?_
              rotate_left
              · intro w'
                go_simp
                with_reducible rfl
              rotate_left
              · simp only [Act.put, List.setIfInBounds_toArray, List.set_cons_zero, List.set_cons_succ, i64_w, i32_w]
                rfl
              refine pure_ (i := 10) (N := some 38) (v := ?_) (a' := ?_) #[true, true, true, true, true, true, true, true, true, true, true, false, false, false, false, false, false, false, false, false, false, false, false, false, false] rfl rfl (any_of HT_.out (by kernel_rfl)) (fun _ _ _ h => h) (Or.inl ⟨by rfl, ?_⟩) ?_ ?_
              rotate_left
              · intro w'
                go_simp
                with_reducible rfl
              rotate_left
              · simp only [Act.put, List.setIfInBounds_toArray, List.set_cons_zero, List.set_cons_succ, i64_w, i32_w]
                rfl
              refine take_ (i := 11) (N := some 39) (v := ?_) (a' := ?_) #[true, true, true, true, true, true, true, true, true, true, true, true, false, false, false, false, false, false, false, false, false, false, false, false, false] rfl rfl (take_ofW HT_.out HW_.out (by kernel_rfl)) (fun _ _ _ h => h) (Or.inl ⟨by rfl, ?_⟩) hHeld ?_ ?_
              rotate_left
              · intro w' hS_
                obtain ⟨k0_, k1_⟩ := hS_
                go_simp
                with_reducible rfl
              rotate_left
              · simp only [Act.put, List.setIfInBounds_toArray, List.set_cons_zero, List.set_cons_succ, i64_w, i32_w]
                rfl
              refine take_ (i := 12) (N := some 40) (v := ?_) (a' := ?_) #[true, true, true, true, true, true, true, true, true, true, true, true, true, false, false, false, false, false, false, false, false, false, false, false, false] rfl rfl (take_ofW HT_.out HW_.out (by kernel_rfl)) (fun _ _ _ h => h) (Or.inl ⟨by rfl, ?_⟩) hHeld ?_ ?_
              rotate_left
              · intro w' hS_
                obtain ⟨k0_, k1_⟩ := hS_
                go_simp
                with_reducible rfl
              rotate_left
              · simp only [Act.put, List.setIfInBounds_toArray, List.set_cons_zero, List.set_cons_succ, i64_w, i32_w]
                rfl
              refine one_ (i := 13) (N := some 41) #[true, true, true, true, true, true, true, true, true, true, true, true, true, true, false, false, false, false, false, false, false, false, false, false, false] rfl rfl (one_of HT_.out (by kernel_rfl)) (by decide) (fun K hK => ?_)
              refine goes_ Try.func43 (by kernel_rfl) rfl #[.slice Ac cl.length cc, .int .i64 x] (by rfl) rfl rfl (by first | (go_simp; done) | (simp [Act.eval]; done)) ?_
              refine Q1.out.mono ?_
              rintro e w' ⟨rfl, hw_⟩
              replace hw_ := hw_.symm
              subst hw_
              refine ⟨_, rfl, ?_⟩
              refine hK.out _ _ HSS.out (fun hHeld => ?_)
              clear hK K
              refine norm_ (a' := ?_) ?_ ?_
              rotate_left
              · show Act.put _ (some 41) _ = _
                simp only [Act.put, List.setIfInBounds_toArray, List.set_cons_zero, List.set_cons_succ, i64_w, i32_w]
                rfl
              refine pure_ (i := 14) (N := some 42) (v := ?_) (a' := ?_) #[true, true, true, true, true, true, true, true, true, true, true, true, true, true, true, false, false, false, false, false, false, false, false, false, false] rfl rfl (any_of HT_.out (by kernel_rfl)) (fun _ _ _ h => h) (Or.inl ⟨by rfl, ?_⟩) ?_ ?_
              rotate_left
              · intro w'
                go_simp
                with_reducible rfl
              rotate_left
              · simp only [Act.put, List.setIfInBounds_toArray, List.set_cons_zero, List.set_cons_succ, i64_w, i32_w]
                rfl
              refine pure_ (i := 15) (N := some 43) (v := ?_) (a' := ?_) #[true, true, true, true, true, true, true, true, true, true, true, true, true, true, true, true, false, false, false, false, false, false, false, false, false] rfl rfl (any_of HT_.out (by kernel_rfl)) (fun _ _ _ h => h) (Or.inl ⟨by rfl, ?_⟩) ?_ ?_
              rotate_left
              · intro w'
                go_simp
                with_reducible rfl
              rotate_left
              · simp only [Act.put, List.setIfInBounds_toArray, List.set_cons_zero, List.set_cons_succ, i64_w, i32_w]
                rfl
              refine pure_ (i := 16) (N := some 44) (v := ?_) (a' := ?_) #[true, true, true, true, true, true, true, true, true, true, true, true, true, true, true, true, true, false, false, false, false, false, false, false, false] rfl rfl (any_of HT_.out (by kernel_rfl)) (fun _ _ _ h => h) (Or.inl ⟨by rfl, ?_⟩) ?_ ?_
              rotate_left
              · intro w'
                go_simp
                with_reducible rfl
              rotate_left
              · simp only [Act.put, List.setIfInBounds_toArray, List.set_cons_zero, List.set_cons_succ, i64_w, i32_w]
                rfl
              refine pure_ (i := 17) (N := some 45) (v := ?_) (a' := ?_) #[true, true, true, true, true, true, true, true, true, true, true, true, true, true, true, true, true, true, false, false, false, false, false, false, false] rfl rfl (any_of HT_.out (by kernel_rfl)) (fun _ _ _ h => h) (Or.inl ⟨by rfl, ?_⟩) ?_ ?_
              rotate_left
              · intro w'
                go_simp
                with_reducible rfl
              rotate_left
              · simp only [Act.put, List.setIfInBounds_toArray, List.set_cons_zero, List.set_cons_succ, i64_w, i32_w]
                rfl
              refine pure_ (i := 18) (N := some 46) (v := ?_) (a' := ?_) #[true, true, true, true, true, true, true, true, true, true, true, true, true, true, true, true, true, true, true, false, false, false, false, false, false] rfl rfl (any_of HT_.out (by kernel_rfl)) (fun _ _ _ h => h) (Or.inl ⟨by rfl, ?_⟩) ?_ ?_
              rotate_left
              · intro w'
                go_simp
                with_reducible rfl
              rotate_left
              · simp only [Act.put, List.setIfInBounds_toArray, List.set_cons_zero, List.set_cons_succ, i64_w, i32_w]
                rfl
              refine pure_ (i := 19) (N := some 47) (v := ?_) (a' := ?_) #[true, true, true, true, true, true, true, true, true, true, true, true, true, true, true, true, true, true, true, true, false, false, false, false, false] rfl rfl (any_of HT_.out (by kernel_rfl)) (fun _ _ _ h => h) (Or.inl ⟨by rfl, ?_⟩) ?_ ?_
              rotate_left
              · intro w'
                go_simp
                with_reducible rfl
              rotate_left
              · simp only [Act.put, List.setIfInBounds_toArray, List.set_cons_zero, List.set_cons_succ, i64_w, i32_w]
                rfl
              refine take_ (i := 20) (N := some 48) (v := ?_) (a' := ?_) #[true, true, true, true, true, true, true, true, true, true, true, true, true, true, true, true, true, true, true, true, true, false, false, false, false] rfl rfl (take_ofW HT_.out HW_.out (by kernel_rfl)) (fun _ _ _ h => h) (Or.inl ⟨by rfl, ?_⟩) hHeld ?_ ?_
              rotate_left
              · intro w' hS_
                obtain ⟨k0_, k1_⟩ := hS_
                go_simp
                with_reducible rfl
              rotate_left
              · simp only [Act.put, List.setIfInBounds_toArray, List.set_cons_zero, List.set_cons_succ, i64_w, i32_w]
                rfl
              refine pure_ (i := 21) (N := some 49) (v := ?_) (a' := ?_) #[true, true, true, true, true, true, true, true, true, true, true, true, true, true, true, true, true, true, true, true, true, true, false, false, false] rfl rfl (any_of HT_.out (by kernel_rfl)) (fun _ _ _ h => h) (Or.inl ⟨by rfl, ?_⟩) ?_ ?_
              rotate_left
              · intro w'
                go_simp
                with_reducible rfl
              rotate_left
              · simp only [Act.put, List.setIfInBounds_toArray, List.set_cons_zero, List.set_cons_succ, i64_w, i32_w]
                rfl
              refine one_ (i := 22) (N := some 50) #[true, true, true, true, true, true, true, true, true, true, true, true, true, true, true, true, true, true, true, true, true, true, true, false, false] rfl rfl (one_of HT_.out (by kernel_rfl)) (by decide) (fun K hK => ?_)
              refine goes_ Try.func44 (by kernel_rfl) rfl #[.slice Ac cl.length cc, .func (.func 45) #[] #[.pointer (some ⟨wr.heap.size, 0, none⟩), .pointer (some ⟨w.heap.size + 1, 0, none⟩)]] (by rfl) rfl rfl (by first | (go_simp; done) | (simp [Act.eval]; done)) ?_
              refine Q2.out.mono ?_
              rintro e w' ⟨rfl, hw_⟩
              replace hw_ := hw_.symm
              subst hw_
              refine ⟨_, rfl, ?_⟩
              refine hK.out _ _ HSS.out (fun hHeld => ?_)
              clear hK K
              refine norm_ (a' := ?_) ?_ ?_
              rotate_left
              · show Act.put _ (some 50) _ = _
                simp only [Act.put, List.setIfInBounds_toArray, List.set_cons_zero, List.set_cons_succ, i64_w, i32_w]
                rfl
              refine pure_ (i := 23) (N := some 51) (v := ?_) (a' := ?_) #[true, true, true, true, true, true, true, true, true, true, true, true, true, true, true, true, true, true, true, true, true, true, true, true, false] rfl rfl (any_of HT_.out (by kernel_rfl)) (fun _ _ _ h => h) (Or.inl ⟨by rfl, ?_⟩) ?_ ?_
              rotate_left
              · intro w'
                go_simp
                with_reducible rfl
              rotate_left
              · simp only [Act.put, List.setIfInBounds_toArray, List.set_cons_zero, List.set_cons_succ, i64_w, i32_w]
                rfl
              refine pure_ (i := 24) (N := some 52) (v := ?_) (a' := ?_) #[true, true, true, true, true, true, true, true, true, true, true, true, true, true, true, true, true, true, true, true, true, true, true, true, true] rfl rfl (any_of HT_.out (by kernel_rfl)) (fun _ _ _ h => h) (Or.inl ⟨by rfl, ?_⟩) ?_ ?_
              rotate_left
              · intro w'
                go_simp
                with_reducible rfl
              rotate_left
              · simp only [Act.put, List.setIfInBounds_toArray, List.set_cons_zero, List.set_cons_succ, i64_w, i32_w]
                rfl
              refine done_ (done_of HT_.out (by kernel_rfl)) ?_
              clear HT_ HW_ hHeld
              clear HSS Q1 Q2

              go_wp2_with fail
              go_ret
              exact ⟨by rw [← HN2.out]; rfl, HBa.out⟩
            | false =>
              obtain rfl := HS2.out
              go_wp2_with fail
              have HSS := Lib.hid (show w2.drew.cell? (ad2.add r) = some (.slice Ac cl.length cc) ∧ w2.drew.cell? ⟨wr.heap.size, 0, none⟩ = some (.int .i64 x) from ⟨hcell2, hpx⟩)
              have Q1 := Lib.hid (show Calls Try.prog 43 #[.slice Ac cl.length cc, .int .i64 x] w2.drew _ from HQ1d.out)
              have Q2 := Lib.hid (show Calls Try.prog 44 #[.slice Ac cl.length cc, .func (.func 45) #[] #[.pointer (some ⟨wr.heap.size, 0, none⟩), .pointer (some ⟨w.heap.size + 1, 0, none⟩)]] w2.drew _ from HQ2d.out)
              have t1_ := Lib.hid (pw_below_drewN HBa.out 1)
              have t3_ := Lib.hid (show Ahead w2.drew w.heap.size k (T.l.take k) from HAa.out)
              have t4_ := Lib.hid (show w2.drew.heap[w.heap.size + 1]? = some (.cells #[.map (some w.heap.size)] 76 (0, 0)) from HMa.out)
              have t5_ := Lib.hid (show w2.drew.heap[wr.heap.size]? = some (.cells #[.int .i64 x] 3 (0, 0)) from HPa.out)
              have t6_ := Lib.hid (show Below w.heap.size w w2.drew from t1_.out)
              clear HBa HAa HMa HPa hpx hcell2 HQ1d HQ2d t1_
              have HBa := t6_
              have HAa := t3_
              have HMa := t4_
              have HPa := t5_
              clear t6_ t3_ t4_ t5_
              refine start_ (n := 25) (S := fun w' => w'.cell? (ad2.add r) = some (.slice Ac cl.length cc) ∧ w'.cell? ⟨wr.heap.size, 0, none⟩ = some (.int .i64 x)) (ds := []) #[false, false, false, false, false, false, false, false, false, false, false, false, false, false, false, false, false, false, false, false, false, false, false, false, false] (by kernel_rfl) rfl rfl HSS.out (fun hHeld => ?_)
              refine with_tabW X26.tab6 X26.bits6 (fun HT_ HW_ => ?_)
              generalize w2.drew = w3 at HBa HAa HMa HPa HSS Q1 Q2 hHeld ⊢
              refine pure_ (i := 0) (N := some 28) (v := ?_) (a' := ?_) #[true, false, false, false, false, false, false, false, false, false, false, false, false, false, false, false, false, false, false, false, false, false, false, false, false] rfl rfl (any_of HT_.out (by kernel_rfl)) (fun _ _ _ h => h) (Or.inl ⟨by rfl, ?_⟩) ?_ ?_
              rotate_left
              · intro w'
                go_simp
                with_reducible rfl
              rotate_left
              · simp only [Act.put, List.setIfInBounds_toArray, List.set_cons_zero, List.set_cons_succ, i64_w, i32_w]
                rfl
              refine pure_ (i := 1) (N := some 29) (v := ?_) (a' := ?_) #[true, true, false, false, false, false, false, false, false, false, false, false, false, false, false, false, false, false, false, false, false, false, false, false, false] rfl rfl (any_of HT_.out (by kernel_rfl)) (fun _ _ _ h => h) (Or.inl ⟨by rfl, ?_⟩) ?_ ?_
              rotate_left
              · intro w'
                go_simp
                with_reducible rfl
              rotate_left
              · simp only [Act.put, List.setIfInBounds_toArray, List.set_cons_zero, List.set_cons_succ, i64_w, i32_w]
                rfl
              refine pure_ (i := 2) (N := some 30) (v := ?_) (a' := ?_) #[true, true, true, false, false, false, false, false, false, false, false, false, false, false, false, false, false, false, false, false, false, false, false, false, false] rfl rfl (any_of HT_.out (by kernel_rfl)) (fun _ _ _ h => h) (Or.inl ⟨by rfl, ?_⟩) ?_ ?_
              rotate_left
              · intro w'
                go_simp
                with_reducible rfl
              rotate_left
              · simp only [Act.put, List.setIfInBounds_toArray, List.set_cons_zero, List.set_cons_succ, i64_w, i32_w]
                rfl
              refine pure_ (i := 3) (N := some 31) (v := ?_) (a' := ?_) #[true, true, true, true, false, false, false, false, false, false, false, false, false, false, false, false, false, false, false, false, false, false, false, false, false] rfl rfl (any_of HT_.out (by kernel_rfl)) (fun _ _ _ h => h) (Or.inl ⟨by rfl, ?_⟩) ?_ ?_
              rotate_left
              · intro w'
                go_simp
                with_reducible rfl
              rotate_left
              · simp only [Act.put, List.setIfInBounds_toArray, List.set_cons_zero, List.set_cons_succ, i64_w, i32_w]
                rfl
              refine pure_ (i := 4) (N := some 32) (v := ?_) (a' := ?_) #[true, true, true, true, true, false, false, false, false, false, false, false, false, false, false, false, false, false, false, false, false, false, false, false, false] rfl rfl (any_of HT_.out (by kernel_rfl)) (fun _ _ _ h => h) (Or.inl ⟨by rfl, ?_⟩) ?_ ?_
              rotate_left
              · intro w'
                go_simp
                with_reducible rfl
              rotate_left
              · simp only [Act.put, List.setIfInBounds_toArray, List.set_cons_zero, List.set_cons_succ, i64_w, i32_w]
                rfl
              refine pure_ (i := 5) (N := some 33) (v := ?_) (a' := ?_) #[true, true, true, true, true, true, false, false, false, false, false, false, false, false, false, false, false, false, false, false, false, false, false, false, false] rfl rfl (any_of HT_.out (by kernel_rfl)) (fun _ _ _ h => h) (Or.inl ⟨by rfl, ?_⟩) ?_ ?_
              rotate_left
              · intro w'
                go_simp
                with_reducible rfl
              rotate_left
              · simp only [Act.put, List.setIfInBounds_toArray, List.set_cons_zero, List.set_cons_succ, i64_w, i32_w]
                rfl
              refine pure_ (i := 6) (N := some 34) (v := ?_) (a' := ?_) #[true, true, true, true, true, true, true, false, false, false, false, false, false, false, false, false, false, false, false, false, false, false, false, false, false] rfl rfl (any_of HT_.out (by kernel_rfl)) (fun _ _ _ h => h) (Or.inl ⟨by rfl, ?_⟩) ?_ ?_
              rotate_left
              · intro w'
                go_simp
                with_reducible rfl
              rotate_left
              · simp only [Act.put, List.setIfInBounds_toArray, List.set_cons_zero, List.set_cons_succ, i64_w, i32_w]
                rfl
              refine pure_ (i := 7) (N := some 35) (v := ?_) (a' := ?_) #[true, true, true, true, true, true, true, true, false, false, false, false, false, false, false, false, false, false, false, false, false, false, false, false, false] rfl rfl (any_of HT_.out (by kernel_rfl)) (fun _ _ _ h => h) (Or.inl ⟨by rfl, ?_⟩) ?_ ?_
              rotate_left
              · intro w'
                go_simp
                with_reducible rfl
              rotate_left
              · simp only [Act.put, List.setIfInBounds_toArray, List.set_cons_zero, List.set_cons_succ, i64_w, i32_w]
                rfl
              refine pure_ (i := 8) (N := some 36) (v := ?_) (a' := ?_) #[true, true, true, true, true, true, true, true, true, false, false, false, false, false, false, false, false, false, false, false, false, false, false, false, false] rfl rfl (any_of HT_.out (by kernel_rfl)) (fun _ _ _ h => h) (Or.inl ⟨by rfl, ?_⟩) ?_ ?_
              rotate_left
              · intro w'
                go_simp
                with_reducible rfl
              rotate_left
              · simp only [Act.put, List.setIfInBounds_toArray, List.set_cons_zero, List.set_cons_succ, i64_w, i32_w]
                rfl
              refine pure_ (i := 9) (N := some 37) (v := ?_) (a' := ?_) #[true, true, true, true, true, true, true, true, true, true, false, false, false, false, false, false, false, false, false, false, false, false, false, false, false] rfl rfl (any_of HT_.out (by kernel_rfl)) (fun _ _ _ h => h) (Or.inl ⟨by rfl, ?_⟩) ?_ ?_
              rotate_left
              · intro w'
                go_simp
                with_reducible rfl
              rotate_left
              · simp only [Act.put, List.setIfInBounds_toArray, List.set_cons_zero, List.set_cons_succ, i64_w, i32_w]
                rfl
              refine pure_ (i := 10) (N := some 38) (v := ?_) (a' := ?_) #[true, true, true, true, true, true, true, true, true, true, true, false, false, false, false, false, false, false, false, false, false, false, false, false, false] rfl rfl (any_of HT_.out (by kernel_rfl)) (fun _ _ _ h => h) (Or.inl ⟨by rfl, ?_⟩) ?_ ?_
              rotate_left
              · intro w'
                go_simp
                with_reducible rfl
              rotate_left
              · simp only [Act.put, List.setIfInBounds_toArray, List.set_cons_zero, List.set_cons_succ, i64_w, i32_w]
                rfl
              refine take_ (i := 11) (N := some 39) (v := ?_) (a' := ?_) #[true, true, true, true, true, true, true, true, true, true, true, true, false, false, false, false, false, false, false, false, false, false, false, false, false] rfl rfl (take_ofW HT_.out HW_.out (by kernel_rfl)) (fun _ _ _ h => h) (Or.inl ⟨by rfl, ?_⟩) hHeld ?_ ?_
              rotate_left
              · intro w' hS_
                obtain ⟨k0_, k1_⟩ := hS_
                go_simp
                with_reducible rfl
              rotate_left
              · simp only [Act.put, List.setIfInBounds_toArray, List.set_cons_zero, List.set_cons_succ, i64_w, i32_w]
                rfl
              refine take_ (i := 12) (N := some 40) (v := ?_) (a' := ?_) #[true, true, true, true, true, true, true, true, true, true, true, true, true, false, false, false, false, false, false, false, false, false, false, false, false] rfl rfl (take_ofW HT_.out HW_.out (by kernel_rfl)) (fun _ _ _ h => h) (Or.inl ⟨by rfl, ?_⟩) hHeld ?_ ?_
              rotate_left
              · intro w' hS_
                obtain ⟨k0_, k1_⟩ := hS_
                go_simp
                with_reducible rfl
              rotate_left
              · simp only [Act.put, List.setIfInBounds_toArray, List.set_cons_zero, List.set_cons_succ, i64_w, i32_w]
                rfl
              refine one_ (i := 13) (N := some 41) #[true, true, true, true, true, true, true, true, true, true, true, true, true, true, false, false, false, false, false, false, false, false, false, false, false] rfl rfl (one_of HT_.out (by kernel_rfl)) (by decide) (fun K hK => ?_)
              refine goes_ Try.func43 (by kernel_rfl) rfl #[.slice Ac cl.length cc, .int .i64 x] (by rfl) rfl rfl (by first | (go_simp; done) | (simp [Act.eval]; done)) ?_
              refine Q1.out.mono ?_
              rintro e w' ⟨rfl, hw_⟩
              replace hw_ := hw_.symm
              subst hw_
              refine ⟨_, rfl, ?_⟩
              refine hK.out _ _ HSS.out (fun hHeld => ?_)
              clear hK K
              refine norm_ (a' := ?_) ?_ ?_
              rotate_left
              · show Act.put _ (some 41) _ = _
                simp only [Act.put, List.setIfInBounds_toArray, List.set_cons_zero, List.set_cons_succ, i64_w, i32_w]
                rfl
              refine pure_ (i := 14) (N := some 42) (v := ?_) (a' := ?_) #[true, true, true, true, true, true, true, true, true, true, true, true, true, true, true, false, false, false, false, false, false, false, false, false, false] rfl rfl (any_of HT_.out (by kernel_rfl)) (fun _ _ _ h => h) (Or.inl ⟨by rfl, ?_⟩) ?_ ?_
              rotate_left
              · intro w'
                go_simp
                with_reducible rfl
              rotate_left
              · simp only [Act.put, List.setIfInBounds_toArray, List.set_cons_zero, List.set_cons_succ, i64_w, i32_w]
                rfl
              refine pure_ (i := 15) (N := some 43) (v := ?_) (a' := ?_) #[true, true, true, true, true, true, true, true, true, true, true, true, true, true, true, true, false, false, false, false, false, false, false, false, false] rfl rfl (any_of HT_.out (by kernel_rfl)) (fun _ _ _ h => h) (Or.inl ⟨by rfl, ?_⟩) ?_ ?_
              rotate_left
              · intro w'
                go_simp
                with_reducible rfl
              rotate_left
              · simp only [Act.put, List.setIfInBounds_toArray, List.set_cons_zero, List.set_cons_succ, i64_w, i32_w]
                rfl
              refine pure_ (i := 16) (N := some 44) (v := ?_) (a' := ?_) #[true, true, true, true, true, true, true, true, true, true, true, true, true, true, true, true, true, false, false, false, false, false, false, false, false] rfl rfl (any_of HT_.out (by kernel_rfl)) (fun _ _ _ h => h) (Or.inl ⟨by rfl, ?_⟩) ?_ ?_
              rotate_left
              · intro w'
                go_simp
                with_reducible rfl
              rotate_left
              · simp only [Act.put, List.setIfInBounds_toArray, List.set_cons_zero, List.set_cons_succ, i64_w, i32_w]
                rfl
              refine pure_ (i := 17) (N := some 45) (v := ?_) (a' := ?_) #[true, true, true, true, true, true, true, true, true, true, true, true, true, true, true, true, true, true, false, false, false, false, false, false, false] rfl rfl (any_of HT_.out (by kernel_rfl)) (fun _ _ _ h => h) (Or.inl ⟨by rfl, ?_⟩) ?_ ?_
              rotate_left
              · intro w'
                go_simp
                with_reducible rfl
              rotate_left
              · simp only [Act.put, List.setIfInBounds_toArray, List.set_cons_zero, List.set_cons_succ, i64_w, i32_w]
                rfl
              refine pure_ (i := 18) (N := some 46) (v := ?_) (a' := ?_) #[true, true, true, true, true, true, true, true, true, true, true, true, true, true, true, true, true, true, true, false, false, false, false, false, false] rfl rfl (any_of HT_.out (by kernel_rfl)) (fun _ _ _ h => h) (Or.inl ⟨by rfl, ?_⟩) ?_ ?_
              rotate_left
              · intro w'
                go_simp
                with_reducible rfl
              rotate_left
              · simp only [Act.put, List.setIfInBounds_toArray, List.set_cons_zero, List.set_cons_succ, i64_w, i32_w]
                rfl
              refine pure_ (i := 19) (N := some 47) (v := ?_) (a' := ?_) #[true, true, true, true, true, true, true, true, true, true, true, true, true, true, true, true, true, true, true, true, false, false, false, false, false] rfl rfl (any_of HT_.out (by kernel_rfl)) (fun _ _ _ h => h) (Or.inl ⟨by rfl, ?_⟩) ?_ ?_
              rotate_left
              · intro w'
                go_simp
                with_reducible rfl
              rotate_left
              · simp only [Act.put, List.setIfInBounds_toArray, List.set_cons_zero, List.set_cons_succ, i64_w, i32_w]
                rfl
              refine take_ (i := 20) (N := some 48) (v := ?_) (a' := ?_) #[true, true, true, true, true, true, true, true, true, true, true, true, true, true, true, true, true, true, true, true, true, false, false, false, false] rfl rfl (take_ofW HT_.out HW_.out (by kernel_rfl)) (fun _ _ _ h => h) (Or.inl ⟨by rfl, ?_⟩) hHeld ?_ ?_
              rotate_left
              · intro w' hS_
                obtain ⟨k0_, k1_⟩ := hS_
                go_simp
                with_reducible rfl
              rotate_left
              · simp only [Act.put, List.setIfInBounds_toArray, List.set_cons_zero, List.set_cons_succ, i64_w, i32_w]
                rfl
              refine pure_ (i := 21) (N := some 49) (v := ?_) (a' := ?_) #[true, true, true, true, true, true, true, true, true, true, true, true, true, true, true, true, true, true, true, true, true, true, false, false, false] rfl rfl (any_of HT_.out (by kernel_rfl)) (fun _ _ _ h => h) (Or.inl ⟨by rfl, ?_⟩) ?_ ?_
              rotate_left
              · intro w'
                go_simp
                with_reducible rfl
              rotate_left
              · simp only [Act.put, List.setIfInBounds_toArray, List.set_cons_zero, List.set_cons_succ, i64_w, i32_w]
                rfl
              refine one_ (i := 22) (N := some 50) #[true, true, true, true, true, true, true, true, true, true, true, true, true, true, true, true, true, true, true, true, true, true, true, false, false] rfl rfl (one_of HT_.out (by kernel_rfl)) (by decide) (fun K hK => ?_)
              refine goes_ Try.func44 (by kernel_rfl) rfl #[.slice Ac cl.length cc, .func (.func 45) #[] #[.pointer (some ⟨wr.heap.size, 0, none⟩), .pointer (some ⟨w.heap.size + 1, 0, none⟩)]] (by rfl) rfl rfl (by first | (go_simp; done) | (simp [Act.eval]; done)) ?_
              refine Q2.out.mono ?_
              rintro e w' ⟨rfl, hw_⟩
              replace hw_ := hw_.symm
              subst hw_
              refine ⟨_, rfl, ?_⟩
              refine hK.out _ _ HSS.out (fun hHeld => ?_)
              clear hK K
              refine norm_ (a' := ?_) ?_ ?_
              rotate_left
              · show Act.put _ (some 50) _ = _
                simp only [Act.put, List.setIfInBounds_toArray, List.set_cons_zero, List.set_cons_succ, i64_w, i32_w]
                rfl
              refine pure_ (i := 23) (N := some 51) (v := ?_) (a' := ?_) #[true, true, true, true, true, true, true, true, true, true, true, true, true, true, true, true, true, true, true, true, true, true, true, true, false] rfl rfl (any_of HT_.out (by kernel_rfl)) (fun _ _ _ h => h) (Or.inl ⟨by rfl, ?_⟩) ?_ ?_
              rotate_left
              · intro w'
                go_simp
                with_reducible rfl
              rotate_left
              · simp only [Act.put, List.setIfInBounds_toArray, List.set_cons_zero, List.set_cons_succ, i64_w, i32_w]
                rfl
              refine pure_ (i := 24) (N := some 52) (v := ?_) (a' := ?_) #[true, true, true, true, true, true, true, true, true, true, true, true, true, true, true, true, true, true, true, true, true, true, true, true, true] rfl rfl (any_of HT_.out (by kernel_rfl)) (fun _ _ _ h => h) (Or.inl ⟨by rfl, ?_⟩) ?_ ?_
              rotate_left
              · intro w'
                go_simp
                with_reducible rfl
              rotate_left
              · simp only [Act.put, List.setIfInBounds_toArray, List.set_cons_zero, List.set_cons_succ, i64_w, i32_w]
                rfl
              refine done_ (done_of HT_.out (by kernel_rfl)) ?_
              clear HT_ HW_ hHeld
              clear HSS Q1 Q2

              have hpx : w3.cell? ⟨wr.heap.size, 0, none⟩ = some (.int .i64 x) := blk_cell HPa.out 0
              have hmp : w3.cell? ⟨w.heap.size + 1, 0, none⟩ = some (.map (some w.heap.size)) := blk_cell HMa.out 0
              have HN3 := Lib.hid (show sndFrom T cs (T.l.take (k + 1)) (T.l.drop (k + 1)) = sndFrom T cs [] T.l by rw [← HN2.out]; rfl)
              go_wp2_with (at_mapUpdate; refine wpList_ahead _ rfl _ _ _ rfl w.heap.size k (T.l.take k) x rfl rfl rfl HAa.out (by unfold maxLen; omega) HXW.out ?_; intro w4 ha hg; have HA5 := Lib.hid ha; have HM5 := Lib.hid (blk_grown HMa.out hg (by simp)); have HB5 := Lib.hid (HBa.out.grown hg HBa.out.size (fun k hk => by injection hk with hk; omega)); clear ha hg)
              rw [← HTK.out] at HA5
              exact ⟨⟨k + 1, by omega, by go_num, HA5, HM5, HB5, HN3⟩, by simp only [intOf]; omega⟩
        · have e2 : decide (cs.length ≤ r) = true := decide_eq_true (by omega)
          have hs := HST2.out
          rw [decide_eq_false (show ¬ (r : Int) < (cs.length : Int) by omega), Bool.false_and] at hs
          subst hs
          clear HST2 hr
          go_wp2_with fail
          go_quiet (fail)

          rename_i nq
          have t1_ := Lib.hid (pw_below_drewN HBa.out nq)
          have t3_ := Lib.hid (show Ahead (w2.drewN nq) w.heap.size k (T.l.take k) from HAa.out)
          have t4_ := Lib.hid (show (w2.drewN nq).heap[w.heap.size + 1]? = some (.cells #[.map (some w.heap.size)] 76 (0, 0)) from HMa.out)
          have t5_ := Lib.hid (show (w2.drewN nq).heap[wr.heap.size]? = some (.cells #[.int .i64 x] 3 (0, 0)) from HPa.out)
          clear HBa HAa HMa HPa hpx
          have HBa := t1_
          have HAa := t3_
          have HMa := t4_
          have HPa := t5_
          clear t1_ t3_ t4_ t5_
          generalize w2.drewN nq = w3 at HBa HAa HMa HPa ⊢

          go_wp2_with fail
          go_ret
          exact ⟨by rw [← HN2.out]; rfl, HBa.out⟩
    · obtain rfl : k = T.l.length := by omega
      have hn := HN.out
      rw [List.drop_length] at hn
      have HN2 := Lib.hid hn
      clear HN hn
      go_wp2_with fail
      go_ret
      exact ⟨by rw [← HN2.out]; rfl, HB.out⟩
end Go.Proofs.Ytdcemlennobjhaa.Tr
