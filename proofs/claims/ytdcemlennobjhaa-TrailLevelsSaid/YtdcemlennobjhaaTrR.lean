/-
  The walk of TrailImplied. Conditions: as each statement has them.
-/
import Derived.Test.YtdcemlennobjhaaTrN
import Derived.Test.YtdcemlennobjhaaTrQ
namespace Go.Proofs.Ytdcemlennobjhaa.Tr
open Go.RowKit Go.Proofs.YtdcemlennobjhaaW.PrintWords Go.Proofs.YtdcemlennobjhaaW.PrintLast Go.Proofs.YtdcemlennobjhaaW.PrintMore Go.Proofs.Ytdcemlennobjhaa.PTrailPlays
set_option linter.unusedSimpArgs false
set_option linter.unusedVariables false

theorem at_u8 (w : World) (A : Option Addr) (xs : List Int) (hc : Kd.C (Kd.int .u8) w A xs.length xs) (k : Nat) (hk : k < xs.length) : ∃ ad, A = some ad ∧ w.cell? (ad.add k) = some (.int .u8 (xs.getD k 0)) := by
  obtain ⟨ad, e, h⟩ := Kd.at_int hc (k : Int) (by omega) (by omega)
  exact ⟨ad, e, by simpa [rd] using h⟩
theorem byte_of {a : Int} (h : (Lit.int .u8 a).wf = true) : 0 ≤ a ∧ a ≤ 255 := by
  simp [Lit.wf, IntKind.min, IntKind.max, IntKind.bits, IntKind.signed] at h
  omega
set_option maxRecDepth 100000 in
set_option maxHeartbeats 4000000 in
theorem implied_walk (A0 : Option Addr) (c0 : Nat) (l0 : List Int) (a1 : Int) (w : World) (hr0 : Kd.C (Kd.int .u8) w A0 l0.length l0) (hc0 : l0.length ≤ c0) (hw : ∀ n ∈ l0, (Lit.int .u8 n).wf = true) (h1 : 0 ≤ a1 ∧ a1 ≤ 255) :
    Calls Try.prog 4 #[.slice A0 l0.length c0, .int .u8 a1] w fun e w' => e = .returned (.bool true) ∧ Below w.heap.size w w' := by
  obtain ⟨m, rfl⟩ : ∃ m : Nat, a1 = (m : Int) := ⟨a1.toNat, by omega⟩
  have HR := Lib.hid hr0
  have HW := Lib.hid hw
  clear hr0 hw
  have HB := Lib.hid (Below.refl w.heap.size w)
  go_enter Try.func4, Try.ntmps4
  go_wp2_with fail
  refine (known_walk _).mono ?_
  rintro e w1_ ⟨rfl, hb⟩
  have t_ := Lib.hid (HB.out.trans (hb.mono HB.out.size)); clear HB; have HB := t_; clear t_ hb
  by_cases hs : l0.length < 1
  · have hg : (l0.length : Int) < 1 := by omega
    go_wp2_with fail
    go_ret
    exact ⟨rfl, HB.out⟩
  have hg : ¬ (l0.length : Int) < 1 := by omega
  by_cases hs2 : 12 < l0.length
  · have hg2 : (12 : Int) < (l0.length : Int) := by omega
    go_wp2_with fail
    go_ret
    exact ⟨rfl, HB.out⟩
  have hg2 : ¬ (12 : Int) < (l0.length : Int) := by omega
  obtain ⟨ad, rfl, _⟩ := at_u8 w A0 l0 HR.out 0 (by omega)
  go_wp2_with fail
  refine (own_new (b := w.heap.size) 100 _ (by decide) HB.out.size).mono ?_
  rintro e w2_ ⟨g, rfl, h_, hb⟩
  have HT := Lib.hid (show One (TrP w.heap.size g (conc 100 [] 0)) w2_ from (show new 100 = conc 100 [] 0 from new_conc 100) ▸ h_)
  have t_ := Lib.hid (HB.out.trans hb)
  clear HB h_ hb hg hg2
  have HB := t_
  clear t_
  go_wp2_with fail
  go_loopw [7, 8, 9] (fun t7 t8 t9 wr => ∃ (i : Nat) (L : List En) (f : Nat), i ≤ l0.length ∧ t9 = .int .i64 i ∧ t7 = .int .i64 ((L.length : Int) + 1) ∧ t8 = .int .i64 f ∧ Hid (Tk 100 L (i - 1)) ∧ Hid (L.length ≤ 7 * i) ∧ Hid (Fz L f) ∧ Hid (One (TrP w.heap.size g (conc 100 L (i - 1))) wr) ∧ Hid (Below w.heap.size w wr)) (fun _ _ t9 _ => l0.length - (intOf t9).toNat)
  case atStart => exact ⟨0, [], 0, Nat.zero_le _, rfl, rfl, rfl, Lib.hid (Tk.nil (by decide)), Lib.hid (Nat.zero_le _), Lib.hid (Fz.none _), HT, HB⟩
  case round =>
    clear HT HB
    obtain ⟨i, L, f, hi, rfl, rfl, rfl, HK, HL, HF, HT, HB⟩ := hrel
    by_cases hlt : i < l0.length
    · by_cases hi0 : i = 0
      · have hL0 : L = [] := List.length_eq_zero_iff.1 (by have := HL.out; omega)
        subst hL0
        have t_ := Lib.hid (show Fz ([] : List En) ([] : List En).length from Fz.none _)
        clear HF
        have HF := t_
        clear t_
        rw [show i - 1 = i by omega] at HK HT
        have HI0 := Lib.hid hi0
        have hlt' : (i : Int) < (l0.length : Int) := by omega
        have hng : ¬ (0 : Int) < (i : Int) := by omega
        have hze : ((i : Int) == 0) = true := by rw [hi0]; rfl
        clear hi0
        go_wp2_with fail
        go_loopw [7, 10] (fun t7 t10 wr => ∃ (k : Nat) (M : List En), k ≤ 6 ∧ t10 = .int .i64 k ∧ t7 = .int .i64 ((M.length : Int) + 1) ∧ Hid (Tk 100 M i) ∧ Hid (M.length ≤ 0 + k) ∧ Hid (Fz M M.length) ∧ Hid (One (TrP w.heap.size g (conc 100 M i)) wr) ∧ Hid (Below w.heap.size w wr)) (fun _ t10 _ => 7 - (intOf t10).toNat)
        case atStart => exact ⟨0, [], by omega, rfl, by first | (simp; done) | (simp; omega), HK, Lib.hid (Nat.zero_le _), HF, HT, HB⟩
        case round =>
          clear HT HB HK HL HF
          obtain ⟨k, M, hk6, rfl, rfl, HK, HL, HF, HT, HB⟩ := hrel
          obtain ⟨x, hx⟩ : ∃ x, l0.getD i 0 = x := ⟨_, rfl⟩
          obtain ⟨ad', e_, hcell⟩ := at_u8 w (some ad) l0 HR.out i hlt
          injection e_ with e_
          subst e_
          rw [hx] at hcell
          replace hcell := (HB.out.cell (World.block_lt_of_cell? w _ hcell)).trans hcell
          have hxb := byte_of (HW.out x (by rw [← hx, List.getD_eq_getElem?_getD, List.getElem?_eq_getElem hlt]; exact List.getElem_mem hlt))
          obtain ⟨q, hq_, hq⟩ : ∃ q : Nat, x % 7 = (q : Int) ∧ q ≤ 6 := ⟨(x % 7).toNat, by omega, by omega⟩
          clear hx
          have hM : M.length < 100 := by have := HL.out; omega
          by_cases hkq : k < q
          · have hkq' : (k : Int) < (q : Int) := by omega
            have H1 := Lib.hid (HK.out.imp (x := -((M.length : Int) + 1)) (r := (k : Int)) (by omega) hM (by omega))
            have HI := Lib.hid (own_imply HT.out (HK.out.fine (by omega)) HB.out.size (-((M.length : Int) + 1)) (k : Int) 0 _ H1.out.2.1 H1.out.2.2.1)
            go_wp2_with fail
            refine (HI.out).mono ?_
            rintro e w5_ ⟨rfl, h_, hb⟩
            clear HT
            have HT := Lib.hid h_
            have t_ := Lib.hid (HB.out.trans hb)
            clear HB h_ hb
            have HB := t_
            clear t_
            clear HI
            go_wp2_with fail
            refine (own_level HT.out (by rw [conc_of_length]; omega) ((M.length : Int) + 1) (i : Int) H1.out.2.2.2.1).mono ?_
            rintro e w6_ ⟨rfl, hb⟩
            have t_ := Lib.hid (One.below (foot_tr _ _ _) HT.out hb)
            clear HT
            have HT := t_
            clear t_
            have t_ := Lib.hid (HB.out.trans (hb.mono HB.out.size))
            clear HB hb
            have HB := t_
            clear t_
            have hii : ((i : Int) == (i : Int)) = true := beq_self_eq_true _
            have hkk : ((k : Int) == (k : Int)) = true := beq_self_eq_true _
            go_wp2_with fail
            refine (own_reason HT.out (by rw [conc_of_length]; omega) ((M.length : Int) + 1) (k : Int) H1.out.2.2.2.2).mono ?_
            rintro e w7_ ⟨rfl, hb⟩
            have t_ := Lib.hid (One.below (foot_tr _ _ _) HT.out hb)
            clear HT
            have HT := t_
            clear t_
            have t_ := Lib.hid (HB.out.trans (hb.mono HB.out.size))
            clear HB hb
            have HB := t_
            clear t_
            go_wp2_with fail
            exact ⟨⟨k + 1, M ++ [⟨-((M.length : Int) + 1), i, (k : Int)⟩], by omega, by go_num, by rw [List.length_append, List.length_singleton]; go_num, Lib.hid H1.out.1, Lib.hid (by rw [List.length_append, List.length_singleton]; have := HL.out; omega), Lib.hid (by rw [List.length_append, List.length_singleton, HI0.out]; exact HF.out.more _), HT, HB⟩, by simp only [intOf]; omega⟩
          · have hkq' : ¬ (k : Int) < (q : Int) := by omega
            go_wp2_with fail
            exact ⟨⟨i + 1, M, M.length, by omega, by go_num, rfl, by go_num, HK, Lib.hid (by have := HL.out; omega), HF, HT, HB⟩, by simp only [intOf]; omega⟩
      · have hi1 : i - 1 + 1 = i := by omega
        have hgt : (0 : Int) < (i : Int) := by omega
        have hne : ((i : Int) == 0) = false := beq_eq_false_iff_ne.mpr (by omega)
        have hlt' : (i : Int) < (l0.length : Int) := by omega
        have hLl : L.length ≤ 84 := by have := HL.out; omega
        have H1_ := HK.out.dec (x := (L.length : Int) + 1) (by omega) (by have := HL.out; omega)
        rw [hi1] at H1_
        have H1 := Lib.hid H1_
        clear H1_
        have HI := Lib.hid (own_decide HT.out (HK.out.fine (by have := HL.out; omega)) HB.out.size ((L.length : Int) + 1) 0 _ H1.out.2.1 H1.out.2.2)
        go_wp2_with fail
        refine (HI.out).mono ?_
        rintro e w3_ ⟨rfl, h_, hb⟩
        clear HT
        have HT := Lib.hid h_
        have t_ := Lib.hid (HB.out.trans hb)
        clear HB h_ hb
        have HB := t_
        clear t_
        clear HI HK
        have HK := Lib.hid H1.out.1
        have t_ := Lib.hid (HF.out.snoc (⟨(L.length : Int) + 1, i, -1⟩ : En))
        clear HF
        have HF := t_
        clear t_ H1
        go_wp2_with fail
        go_loopw [7, 10] (fun t7 t10 wr => ∃ (k : Nat) (M : List En), k ≤ 6 ∧ t10 = .int .i64 k ∧ t7 = .int .i64 ((M.length : Int) + 1) ∧ Hid (Tk 100 M i) ∧ Hid (M.length ≤ (7 * i + 1) + k) ∧ Hid (Fz M f) ∧ Hid (One (TrP w.heap.size g (conc 100 M i)) wr) ∧ Hid (Below w.heap.size w wr)) (fun _ t10 _ => 7 - (intOf t10).toNat)
        case atStart => exact ⟨0, L ++ [⟨(L.length : Int) + 1, i, -1⟩], by omega, rfl, by first | (simp; done) | (simp; omega), HK, Lib.hid (by rw [List.length_append, List.length_singleton]; have := HL.out; omega), HF, HT, HB⟩
        case round =>
          clear HT HB HK HL HF
          obtain ⟨k, M, hk6, rfl, rfl, HK, HL, HF, HT, HB⟩ := hrel
          obtain ⟨x, hx⟩ : ∃ x, l0.getD i 0 = x := ⟨_, rfl⟩
          obtain ⟨ad', e_, hcell⟩ := at_u8 w (some ad) l0 HR.out i hlt
          injection e_ with e_
          subst e_
          rw [hx] at hcell
          replace hcell := (HB.out.cell (World.block_lt_of_cell? w _ hcell)).trans hcell
          have hxb := byte_of (HW.out x (by rw [← hx, List.getD_eq_getElem?_getD, List.getElem?_eq_getElem hlt]; exact List.getElem_mem hlt))
          obtain ⟨q, hq_, hq⟩ : ∃ q : Nat, x % 7 = (q : Int) ∧ q ≤ 6 := ⟨(x % 7).toNat, by omega, by omega⟩
          clear hx
          have hM : M.length < 100 := by have := HL.out; omega
          by_cases hkq : k < q
          · have hkq' : (k : Int) < (q : Int) := by omega
            have H1 := Lib.hid (HK.out.imp (x := -((M.length : Int) + 1)) (r := (k : Int)) (by omega) hM (by omega))
            have HI := Lib.hid (own_imply HT.out (HK.out.fine (by omega)) HB.out.size (-((M.length : Int) + 1)) (k : Int) 0 _ H1.out.2.1 H1.out.2.2.1)
            go_wp2_with fail
            refine (HI.out).mono ?_
            rintro e w5_ ⟨rfl, h_, hb⟩
            clear HT
            have HT := Lib.hid h_
            have t_ := Lib.hid (HB.out.trans hb)
            clear HB h_ hb
            have HB := t_
            clear t_
            clear HI
            go_wp2_with fail
            refine (own_level HT.out (by rw [conc_of_length]; omega) ((M.length : Int) + 1) (i : Int) H1.out.2.2.2.1).mono ?_
            rintro e w6_ ⟨rfl, hb⟩
            have t_ := Lib.hid (One.below (foot_tr _ _ _) HT.out hb)
            clear HT
            have HT := t_
            clear t_
            have t_ := Lib.hid (HB.out.trans (hb.mono HB.out.size))
            clear HB hb
            have HB := t_
            clear t_
            have hii : ((i : Int) == (i : Int)) = true := beq_self_eq_true _
            have hkk : ((k : Int) == (k : Int)) = true := beq_self_eq_true _
            go_wp2_with fail
            refine (own_reason HT.out (by rw [conc_of_length]; omega) ((M.length : Int) + 1) (k : Int) H1.out.2.2.2.2).mono ?_
            rintro e w7_ ⟨rfl, hb⟩
            have t_ := Lib.hid (One.below (foot_tr _ _ _) HT.out hb)
            clear HT
            have HT := t_
            clear t_
            have t_ := Lib.hid (HB.out.trans (hb.mono HB.out.size))
            clear HB hb
            have HB := t_
            clear t_
            go_wp2_with fail
            exact ⟨⟨k + 1, M ++ [⟨-((M.length : Int) + 1), i, (k : Int)⟩], by omega, by go_num, by rw [List.length_append, List.length_singleton]; go_num, Lib.hid H1.out.1, Lib.hid (by rw [List.length_append, List.length_singleton]; have := HL.out; omega), Lib.hid (HF.out.snoc _), HT, HB⟩, by simp only [intOf]; omega⟩
          · have hkq' : ¬ (k : Int) < (q : Int) := by omega
            go_wp2_with fail
            exact ⟨⟨i + 1, M, f, by omega, by go_num, rfl, by go_num, HK, Lib.hid (by have := HL.out; omega), HF, HT, HB⟩, by simp only [intOf]; omega⟩
    · obtain rfl : i = l0.length := by omega
      have hb0 : ((l0.length : Int) == 0) = false := beq_eq_false_iff_ne.mpr (by omega)
      obtain ⟨n, hn⟩ : ∃ n : Nat, m % l0.length = n := ⟨_, rfl⟩
      have hnl : n < l0.length := by rw [← hn]; exact Nat.mod_lt _ (by omega)
      have hmk : (m : Int) % (l0.length : Int) = (n : Int) := by rw [← hn]; exact (Int.natCast_emod m l0.length).symm
      clear hn
      have HN := Lib.hid hnl
      have HI := Lib.hid (own_back HT.out (HK.out.fine (by have := HL.out; omega)) HB.out.size (n : Int) 0 _ (by rw [bacE_conc, if_pos ⟨by omega, by omega⟩]) (bac_conc HK.out.wf (k := n) (by omega)))
      go_wp2_with fail
      refine (HI.out).mono ?_
      rintro e w8_ ⟨rfl, h_, hb⟩
      clear HT
      have HT := Lib.hid h_
      have t_ := Lib.hid (HB.out.trans hb)
      clear HB h_ hb
      have HB := t_
      clear t_
      clear HI
      have HQ := Lib.hid (HK.out.wf.back (k := n) (by omega))
      have HZ := Lib.hid (HF.out.back n)
      obtain ⟨Z, hZ⟩ : ∃ Z, backTo L n = Z := ⟨_, rfl⟩
      have HZL := Lib.hid (show (backTo L n).length ≤ 100 from by
        have h1 := List.length_filter_le (fun e : En => decide (e.v ≤ n)) L
        have := HL.out
        unfold backTo
        omega)
      rw [hZ] at HQ HZ HT HZL
      have hfl : f ≤ 84 := by
        have h1_ := HF.out.room
        have h2_ := upto_le L 0
        have := HL.out
        omega
      have HMK := Lib.hid hmk
      clear hZ HK HF HL hmk
      go_wp2_with fail
      go_loopw [12] (fun t wr => ∃ k : Nat, 1 ≤ k ∧ k ≤ f + 1 ∧ t = .int .i64 k ∧ Hid (One (TrP w.heap.size g (conc 100 Z n)) wr) ∧ Hid (Below w.heap.size w wr)) (fun t _ => f + 1 - (intOf t).toNat)
      case atStart => exact ⟨1, Nat.le_refl _, by omega, rfl, HT, HB⟩
      case round =>
        clear HT HB
        obtain ⟨k, hk1, hkf1, rfl, HT, HB⟩ := hrel
        by_cases hkf : k ≤ f
        · have H2 := Lib.hid (HZ.out.told HQ.out hk1 hkf)
          have hkf' : (k : Int) ≤ (f : Int) := by omega
          go_wp2_with fail
          refine (own_value HT.out (by rw [conc_of_length]; omega) (k : Int) (-1) H2.out.1).mono ?_
          rintro e w9_ ⟨rfl, hb⟩
          have t_ := Lib.hid (One.below (foot_tr _ _ _) HT.out hb)
          clear HT
          have HT := t_
          clear t_
          have t_ := Lib.hid (HB.out.trans (hb.mono HB.out.size))
          clear HB hb
          have HB := t_
          clear t_
          go_wp2_with fail
          refine (own_level HT.out (by rw [conc_of_length]; omega) (k : Int) 0 H2.out.2).mono ?_
          rintro e wa_ ⟨rfl, hb⟩
          have t_ := Lib.hid (One.below (foot_tr _ _ _) HT.out hb)
          clear HT
          have HT := t_
          clear t_
          have t_ := Lib.hid (HB.out.trans (hb.mono HB.out.size))
          clear HB hb
          have HB := t_
          clear t_
          go_wp2_with fail
          exact ⟨⟨k + 1, by omega, by omega, by go_num, HT, HB⟩, by simp only [intOf]; omega⟩
        · have hkf' : ¬ (k : Int) ≤ (f : Int) := by omega
          go_wp2_with fail
          obtain ⟨Y, hY⟩ : ∃ Y, (conc 100 Z n).l = Y := ⟨_, rfl⟩
          have hYl : f ≤ Y.length := by
            rw [← hY, conc_l_length]
            exact Nat.le_trans HZ.out.room (upto_le _ _)
          have hYi : (f : Int) ≤ (Y.length : Int) := by omega
          have hll : (conc 100 Z n).l.length ≤ 100000 := by
            rw [conc_l_length]
            have := HZL.out
            omega
          refine (own_lits HT.out hll Y hY).mono ?_
          rintro e wb_ ⟨AL, cAL, rfl, _, _, _, hb⟩
          have t_ := Lib.hid (One.below (foot_tr _ _ _) HT.out hb)
          clear HT
          have HT := t_
          clear t_
          have t_ := Lib.hid (HB.out.trans (hb.mono HB.out.size))
          clear HB hb
          have HB := t_
          clear t_
          go_wp2_with fail
          refine (own_deep HT.out (n : Int) (by rw [conc_f_length])).mono ?_
          rintro e wc_ ⟨rfl, hb⟩
          have t_ := Lib.hid (One.below (foot_tr _ _ _) HT.out hb)
          clear HT
          have HT := t_
          clear t_
          have t_ := Lib.hid (HB.out.trans (hb.mono HB.out.size))
          clear HB hb
          have HB := t_
          clear t_
          have hnn : ((n : Int) == ((m : Int) % (l0.length : Int))) = true := by rw [HMK.out]; exact beq_self_eq_true _
          go_wp2_with fail
          go_ret
          exact ⟨rfl, HB.out⟩
end Go.Proofs.Ytdcemlennobjhaa.Tr
