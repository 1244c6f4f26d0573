/-
  The walk of TrailTwins. Conditions: as each statement has them.
-/
import Derived.Test.YtdcemlennobjhaaTrN
import Derived.Test.YtdcemlennobjhaaTrO
namespace Go.Proofs.Ytdcemlennobjhaa.Tr
open Go.RowKit Go.Proofs.YtdcemlennobjhaaW.PrintWords Go.Proofs.YtdcemlennobjhaaW.PrintLast Go.Proofs.YtdcemlennobjhaaW.PrintMore Go.Proofs.Ytdcemlennobjhaa.PTrailPlays
set_option linter.unusedSimpArgs false
set_option linter.unusedVariables false

set_option maxRecDepth 100000 in
set_option maxHeartbeats 4000000 in
theorem twins_walk (a b : Int) (w : World) (ha : 0 ≤ a ∧ a ≤ 255) (hb : 0 ≤ b ∧ b ≤ 255) :
    Calls Try.prog 6 #[.int .u8 a, .int .u8 b] w fun e w' => e = .returned (.bool true) ∧ Below w.heap.size w w' := by
  obtain ⟨n, hn_, hn⟩ : ∃ n : Nat, a % 30 = (n : Int) ∧ n < 30 := ⟨(a % 30).toNat, by omega, by omega⟩
  obtain ⟨m, hm_, hm⟩ : ∃ m : Nat, b % 30 = (m : Int) ∧ m < 30 := ⟨(b % 30).toNat, by omega, by omega⟩
  have HB := Lib.hid (Below.refl w.heap.size w)
  go_enter Try.func6, Try.ntmps6
  go_wp2_with fail
  refine (known_walk _).mono ?_
  rintro e w1_ ⟨rfl, hb⟩
  have t_ := Lib.hid (HB.out.trans (hb.mono HB.out.size)); clear HB; have HB := t_; clear t_ hb
  go_wp2_with fail
  refine (own_new (b := w.heap.size) 60 _ (by decide) HB.out.size).mono ?_
  rintro e w2_ ⟨g, rfl, h_, hb⟩
  have HT := Lib.hid (show One (TrP w.heap.size g (D 60 [])) w2_ from (show new 60 = D 60 [] from new_conc 60) ▸ h_)
  have t_ := Lib.hid (HB.out.trans hb)
  clear HB h_ hb
  have HB := t_
  clear t_
  go_wp2_with fail
  clear hn_ hm_
  go_loopw [9] (fun t wr => ∃ i : Nat, i ≤ n ∧ t = .int .i64 i ∧ ∃ xs : List Int, xs.length = i ∧ Hid (Sq 60 xs) ∧ Hid (One (TrP w.heap.size g (D 60 xs)) wr) ∧ Hid (Below w.heap.size w wr)) (fun t _ => n - (intOf t).toNat)
  case atStart => exact ⟨0, Nat.zero_le _, rfl, [], rfl, Lib.hid (Sq.nil (by decide)), HT, HB⟩
  case round =>
    clear HT HB
    obtain ⟨i, hi, rfl, xs, hxs, HS, HT, HB⟩ := hrel
    by_cases hlt : i < n
    · have hlt' : (i : Int) < (n : Int) := by omega
      have H1 := Lib.hid (HS.out.snoc (x := (i : Int) + 1) (by omega) (by omega))
      go_wp2_with fail
      refine (own_decide HT.out HS.out.fine HB.out.size ((i : Int) + 1) 0 _ H1.out.2.1 H1.out.2.2).mono ?_
      rintro e w3_ ⟨rfl, h_, hb⟩
      clear HT
      have HT := Lib.hid h_
      have t_ := Lib.hid (HB.out.trans hb)
      clear HB h_ hb
      have HB := t_
      clear t_
      go_wp2_with fail
      exact ⟨⟨i + 1, by omega, by go_num, xs ++ [(i : Int) + 1], by rw [List.length_append, List.length_singleton, hxs], Lib.hid H1.out.1, HT, HB⟩, by simp only [intOf]; omega⟩
    · obtain rfl : i = n := by omega
      go_wp2_with fail
      refine (own_twin HT.out HS.out.fine HB.out.size).mono ?_
      rintro e w4_ ⟨g2, rfl, h_, hb⟩
      clear HT
      have HT := Lib.hid h_
      have t_ := Lib.hid (HB.out.trans (hb.mono HB.out.size))
      clear HB h_ hb
      have HB := t_
      clear t_
      go_wp2_with fail
      go_loopw [11] (fun t wr => ∃ j : Nat, j ≤ m ∧ t = .int .i64 j ∧ ∃ us : List Int, us.length = i + j ∧ Hid (Sq 60 us) ∧ Hid (Two (TrP w.heap.size g (D 60 xs)) (TrP w.heap.size g2 (D 60 us)) wr) ∧ Hid (Below w.heap.size w wr)) (fun t _ => m - (intOf t).toNat)
      case atStart => exact ⟨0, Nat.zero_le _, rfl, xs, hxs, HS, HT, HB⟩
      case round =>
        clear HT HB
        obtain ⟨j, hj, rfl, us, hus, HU, HT, HB⟩ := hrel
        by_cases hlt2 : j < m
        · have hlt2' : (j : Int) < (m : Int) := by omega
          have H1 := Lib.hid (HU.out.snoc (x := -((i : Int) + (j : Int) + 1)) (by omega) (by omega))
          go_wp2_with fail
          refine (two_decide HT.out.symm (foot_tr _ _ _) HU.out.fine HB.out.size (-((i : Int) + (j : Int) + 1)) 0 _ H1.out.2.1 H1.out.2.2).mono ?_
          rintro e w5_ ⟨rfl, h_, hb⟩
          clear HT
          have HT := Lib.hid h_.symm
          have t_ := Lib.hid (HB.out.trans hb)
          clear HB h_ hb
          have HB := t_
          clear t_
          go_wp2_with fail
          exact ⟨⟨j + 1, by omega, by go_num, us ++ [-((i : Int) + (j : Int) + 1)], by rw [List.length_append, List.length_singleton, hus]; rfl, Lib.hid H1.out.1, HT, HB⟩, by simp only [intOf]; omega⟩
        · obtain rfl : j = m := by omega
          go_wp2_with fail
          refine (own_deep HT.out.fst (i : Int) (by rw [D_f, hxs])).mono ?_
          rintro e w6_ ⟨rfl, hb⟩
          have t_ := Lib.hid (Two.below (foot_tr _ _ _) (foot_tr _ _ _) HT.out hb)
          clear HT
          have HT := t_
          clear t_
          have t_ := Lib.hid (HB.out.trans (hb.mono HB.out.size))
          clear HB hb
          have HB := t_
          clear t_
          go_wp2_with fail
          refine (own_deep HT.out.snd ((i : Int) + (j : Int)) (by rw [D_f, hus]; omega)).mono ?_
          rintro e w7_ ⟨rfl, hb⟩
          have t_ := Lib.hid (Two.below (foot_tr _ _ _) (foot_tr _ _ _) HT.out hb)
          clear HT
          have HT := t_
          clear t_
          have t_ := Lib.hid (HB.out.trans (hb.mono HB.out.size))
          clear HB hb
          have HB := t_
          clear t_
          have hij : (((i : Int) + (j : Int)) == ((i : Int) + (j : Int))) = true := beq_self_eq_true _
          have hii : ((i : Int) == (i : Int)) = true := beq_self_eq_true _
          have H0 := Lib.hid (HS.out.back (k := 0) (Nat.zero_le _))
          go_wp2_with fail
          refine (two_back HT.out (foot_tr _ _ _) HS.out.fine HB.out.size 0 0 _ H0.out.2.1 H0.out.2.2).mono ?_
          rintro e w8_ ⟨rfl, h_, hb⟩
          clear HT
          have HT := Lib.hid h_
          have t_ := Lib.hid (HB.out.trans hb)
          clear HB h_ hb
          have HB := t_
          clear t_
          go_wp2_with fail
          refine (own_deep HT.out.snd ((i : Int) + (j : Int)) (by rw [D_f, hus]; omega)).mono ?_
          rintro e w9_ ⟨rfl, hb⟩
          have t_ := Lib.hid (Two.below (foot_tr _ _ _) (foot_tr _ _ _) HT.out hb)
          clear HT
          have HT := t_
          clear t_
          have t_ := Lib.hid (HB.out.trans (hb.mono HB.out.size))
          clear HB hb
          have HB := t_
          clear t_
          go_wp2_with fail
          refine (own_lits HT.out.snd HU.out.fine.ll us (D_l _ _)).mono ?_
          rintro e wa_ ⟨AL, cAL, rfl, _, _, _, hb⟩
          have t_ := Lib.hid (Two.below (foot_tr _ _ _) (foot_tr _ _ _) HT.out hb)
          clear HT
          have HT := t_
          clear t_
          have t_ := Lib.hid (HB.out.trans (hb.mono HB.out.size))
          clear HB hb
          have HB := t_
          clear t_
          have hul : (us.length : Int) = (i : Int) + (j : Int) := by omega
          go_wp2_with fail
          refine (own_lits HT.out.fst H0.out.1.fine.ll [] (D_l _ _)).mono ?_
          rintro e wb_ ⟨AM, cAM, rfl, _, _, _, hb⟩
          have t_ := Lib.hid (HB.out.trans (hb.mono HB.out.size))
          clear HB hb
          have HB := t_
          clear t_
          go_wp2_with fail
          go_ret
          exact ⟨rfl, HB.out⟩
theorem byte_in {a : Int} (h : (Lit.int .u8 a).wf = true) : 0 ≤ a ∧ a ≤ 255 := by
  simp [Lit.wf, IntKind.min, IntKind.max, IntKind.bits, IntKind.signed] at h
  omega
end Go.Proofs.Ytdcemlennobjhaa.Tr
