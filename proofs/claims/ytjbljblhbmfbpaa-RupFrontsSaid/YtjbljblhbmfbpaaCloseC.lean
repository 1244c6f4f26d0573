/-
  The walk of prop.Close.
-/
import Derived.Test.YtjbljblhbmfbpaaCloseB
import Derived.Deep.DeepMust
namespace Go.Proofs.Ytjbljblhbmfbpaa
open Go.RowKit Prop15 Go.Proofs.YtjbljblhbmfbpaaW.PrintWords

/-- what a call leaves, by what the plain function tells -/
def CloseEnd (w : World) (r : Option (List Int)) (e : Ending) (w' : World) : Prop :=
  match r with
  | none => ClosePost w [] true e w'
  | some m => ClosePost w (outF 0 m) false e w'

set_option maxRecDepth 100000 in
set_option maxHeartbeats 2000000 in
theorem Close_any (n : Nat) (hn : n ≤ 1000000) (A1 : Option Addr) (c1 : Nat) (l1 : List (List Int)) (A2 : Option Addr) (c2 : Nat) (l2 : List Int) (w : World) (hr1 : Kd.C (Kd.slice 3 (Kd.int .i64)) w A1 l1.length l1) (_hc1 : l1.length ≤ c1) (hr2 : Kd.C (Kd.int .i64) w A2 l2.length l2) (_hc2 : l2.length ≤ c2)
    (hv1 : ∀ c ∈ l1, ∀ x ∈ c, lit (n + 1) x) (hv2 : ∀ x ∈ l2, lit (n + 1) x) :
    Calls Try.prog 15 #[.int .i64 n, .slice A1 l1.length c1, .slice A2 l2.length c2] w (CloseEnd w (close n l1 l2)) := by
  have hmax1 := Kd.C_max hr1
  have hmax2 := Kd.C_max hr2
  have HR1 := Lib.hid hr1
  have HR2 := Lib.hid hr2
  have HV1 := Lib.hid hv1
  have HV2 := Lib.hid hv2
  clear hr1 hr2 hv1 hv2
  have hnI : ((n : Int) + 1).toNat = n + 1 := by omega
  have HN := Lib.hid hnI
  clear hnI
  go_enter_defers Try.func15, Try.ntmps15
  go_wp2_with (refine Kd.R_make (Kd.int .i8) (w0 := ((w.alloc (.cells #[.slice none 0 0] 23)).alloc (.cells #[.bool false] 4))) (w.heap.size + 2) 67 rfl (N := 18) rfl 64 (.tmp 17) (.tmp 17) rfl ((n : Int) + 1) rfl rfl Try.underlying64 (.int .i8 0) 1 info67 rfl (by decide) (by omega) 0 (ok := fun _ => True) (okp := fun _ => True) rfl (fun _ hk => hk) trivial (by omega) (by omega) (Below.refl _ _) (by simp) ?_; intro v1 w2 hs hb2 hg2 hnew2)
  obtain ⟨b, cap, hv1, hbb, hbs, _⟩ := Kd.R_form hs (by rw [HN.out]; simp)
  rw [List.length_replicate, HN.out] at hv1
  rw [HN.out, hv1] at hs
  subst hv1
  clear hnew2 hg2
  have hsz0 : w.heap.size + 1 < w2.heap.size := by have := hb2.size; simp at this; omega
  have hBw : Below w.heap.size w w2 := (((Below.refl w.heap.size w).alloc (Nat.le_refl _) _).alloc (by simp) _).trans (hb2.mono (by omega))
  have hcO : w2.cell? ⟨w.heap.size, 0, none⟩ = some (.slice none 0 0) := by rw [hb2.cell (by simp)]; simp
  have hzO : w2.frozen? ⟨w.heap.size, 0, none⟩ = false := by rw [hb2.frozen (by simp)]; simp
  have hcI : w2.cell? ⟨w.heap.size + 1, 0, none⟩ = some (.bool false) := by rw [hb2.cell (by simp)]; simp
  have hzI : w2.frozen? ⟨w.heap.size + 1, 0, none⟩ = false := by rw [hb2.frozen (by simp)]; simp
  have HX0 : Hid (Box w w2) := Lib.hid ⟨hBw, hsz0, hcO, hzO, hcI, hzI⟩
  clear hsz0 hBw hcO hzO hcI hzI hb2
  have HS := Lib.hid hs
  clear hs
  have HM0 : Hid (Sg (List.replicate (n + 1) 0)) := fun i => .inl (by simp [List.getD_eq_getElem?_getD, List.getElem?_replicate]; split <;> rfl)
  go_loopw [21] (fun t wr => ∃ (k : Nat) (m : List Int), k ≤ l2.length ∧ t = .int .i64 k ∧ Hid (SR wr (w.heap.size + 2) b cap (n + 1) m) ∧ Hid (Sg m ∧ m.length = n + 1) ∧ Hid (puts m (l2.drop k) = puts (List.replicate (n + 1) 0) l2) ∧ Hid (Box w wr)) (fun t _ => l2.length - (intOf t).toNat)
  case atStart => exact ⟨0, _, Nat.zero_le _, rfl, HS, Lib.hid ⟨HM0.out, by simp⟩, Lib.hid rfl, HX0⟩
  case round =>
    obtain ⟨k, m, hk, rfl, HSR, HSG, HPU, HX⟩ := hrel
    clear HS HX0
    by_cases hlt : k < l2.length
    · obtain ⟨ad, hA2, hcell⟩ := at_clause wr A2 l2 (Kd.C_below HR2.out HX.out.bel) k hlt
      subst hA2
      obtain ⟨x, hx⟩ : ∃ x, l2.getD k 0 = x := ⟨_, rfl⟩
      have hxl : lit (n + 1) x := HV2.out x (by rw [← hx, List.getD_eq_getElem?_getD, List.getElem?_eq_getElem hlt]; simp)
      have hdrop : l2.drop k = x :: l2.drop (k + 1) := by
        rw [List.drop_eq_getElem_cons hlt, ← hx, List.getD_eq_getElem?_getD, List.getElem?_eq_getElem hlt]; simp
      rw [hx] at hcell
      have hpu := HPU.out
      rw [hdrop] at hpu
      simp only [puts] at hpu
      have HP := put_any wr (w.heap.size + 2) b cap (n + 1) m x HSG.out.1 (by omega) HSR.out hxl
      have hklt : (k : Int) < (l2.length : Int) := by omega
      obtain ⟨r, hr⟩ : ∃ r, put m x = r := ⟨_, rfl⟩
      rw [hr] at HP hpu
      have HP2 := Lib.hid HP
      have HPU2 := Lib.hid hpu
      have HXL := Lib.hid hxl
      have HPR := Lib.hid hr
      clear HP hpu hxl hr hdrop hx HPU
      go_wp2_with fail
      refine HP2.out.mono ?_
      intro e w' hpost
      unfold PutPost at hpost
      obtain ⟨hb, hpost⟩ := hpost
      have hX' := HX.out.step hb hbb
      cases r with
      | none =>
        simp only at hpost
        subst hpost
        refine door_panic (w := w) ?_ _ _ _ rfl rfl rfl hX'.bel _ _ hX'.cO hX'.zO hX'.cI hX'.zI hX'.sz
        have hcl : close n l1 l2 = none := by unfold close; rw [← HPU2.out]; rfl
        intro e w'' h
        rw [hcl]
        exact h
      | some r =>
        obtain ⟨m', q⟩ := r
        obtain ⟨rfl, hsr⟩ := hpost
        have hf := put_facts HSG.out.1 HSG.out.2 HXL.out HPR.out
        have HB := Lib.hid hX'
        have HSR2 := Lib.hid hsr
        have HF := Lib.hid hf
        clear hb hsr hf hX'
        go_wp2_with fail
        exact ⟨⟨k + 1, m', hlt, by go_num, HSR2, Lib.hid ⟨HF.out.1, HF.out.2.1⟩, HPU2, HB⟩, by simp only [intOf]; omega⟩
    · obtain rfl : k = l2.length := by omega
      have hpu := HPU.out
      rw [List.drop_length] at hpu
      simp only [puts] at hpu
      have HPU2 := Lib.hid hpu
      clear HPU hpu
      go_wp2_with fail
      have HZ0 : Hid (zc m < n + 2) := Lib.hid (by have := zc_le m; have := HSG.out.2; omega)
      obtain ⟨RES, hRES⟩ : ∃ R, iter l1 (n + 2) m = R := ⟨_, rfl⟩
      have HRES : Hid (close n l1 l2 = RES) := Lib.hid (by unfold close; rw [← HPU2.out]; exact hRES)
      have HIT0 : Hid ((if true then iter l1 (n + 2) m else some m) = RES) := Lib.hid hRES
      clear hRES HPU2
      go_loopg [11] (n + 2) (fun f v11 wq => ∃ (bm : Bool) (m' : List Int), v11 = .bool bm ∧ Hid (SR wq (w.heap.size + 2) b cap (n + 1) m') ∧ Hid (Sg m' ∧ m'.length = n + 1) ∧ Hid (Box w wq) ∧ Hid ((if bm then iter l1 f m' else some m') = RES) ∧ Hid (bm = true → zc m' < f))
      case atStart => exact ⟨true, m, rfl, HSR, HSG, HX, HIT0, Lib.hid (fun _ => HZ0.out)⟩
      case round =>
        clear HSR HSG HX HZ0 HIT0
        obtain ⟨bm, mo, rfl, HSRo, HSGo, HXo, HIT, HZ⟩ := hrel
        cases bm with
        | true =>
          cases gk with
          | zero => exact absurd (HZ.out rfl) (Nat.not_lt_zero _)
          | succ f =>
            have hit := HIT.out
            simp only [if_true, iter] at hit
            have HIT2 := Lib.hid hit
            have HZ2 : Hid (zc mo ≤ f) := Lib.hid (Nat.le_of_lt_succ (HZ.out rfl))
            clear hit HIT HZ
            obtain ⟨wo, hwo⟩ : ∃ wo : World, wo = wr := ⟨_, rfl⟩
            subst hwo
            go_wp2_with fail
            go_loopw [11, 32] (fun v11 t wi => ∃ (k : Nat) (bq : Bool) (mi : List Int), k ≤ l1.length ∧ t = .int .i64 k ∧ v11 = .bool bq ∧ Hid (SR wi (w.heap.size + 2) b cap (n + 1) mi) ∧ Hid (Sg mi ∧ mi.length = n + 1) ∧ Hid (Box w wi) ∧ Hid (pass mi bq (l1.drop k) = pass mo false l1) ∧ Hid (zc mi ≤ zc mo ∧ (bq = true → zc mi < zc mo))) (fun _ t _ => l1.length - (intOf t).toNat)
            case atStart => exact ⟨0, false, mo, Nat.zero_le _, rfl, rfl, HSRo, HSGo, HXo, Lib.hid rfl, Lib.hid ⟨Nat.le_refl _, fun h => by cases h⟩⟩
            case round =>
              clear HSRo HSGo HXo
              obtain ⟨k, bq, mi, hk, rfl, rfl, HSR, HSG, HX, HPA, HZI⟩ := hrel
              by_cases hlt : k < l1.length
              · obtain ⟨ad, Ac, cc, hA1, hcell, hcc, hC⟩ := at_row wr A1 l1 (Kd.C_below HR1.out HX.out.bel) k hlt
                subst hA1
                obtain ⟨x, hx⟩ : ∃ x, l1.getD k [] = x := ⟨_, rfl⟩
                have hxl : ∀ y ∈ x, lit (n + 1) y := HV1.out x (by rw [← hx, List.getD_eq_getElem?_getD, List.getElem?_eq_getElem hlt]; simp)
                have hdrop : l1.drop k = x :: l1.drop (k + 1) := by
                  rw [List.drop_eq_getElem_cons hlt, ← hx, List.getD_eq_getElem?_getD, List.getElem?_eq_getElem hlt]; simp
                rw [hx] at hcell hcc hC
                have hpa := HPA.out
                rw [hdrop] at hpa
                simp only [pass] at hpa
                have HP := see_any wr (w.heap.size + 2) b cap (n + 1) mi Ac x cc HSG.out.1 (by omega) HSR.out hC hcc hxl
                have hklt : (k : Int) < (l1.length : Int) := by omega
                obtain ⟨r, hr⟩ : ∃ r, see mi x = r := ⟨_, rfl⟩
                rw [hr] at HP hpa
                have HP2 := Lib.hid HP
                have HPA2 := Lib.hid hpa
                have HXL := Lib.hid hxl
                have HPR := Lib.hid hr
                clear HP hpa hxl hr hdrop hx HPA hC hcc
                go_wp2_with fail
                refine HP2.out.mono ?_
                intro e w' hpost
                unfold PutPost at hpost
                obtain ⟨hb, hpost⟩ := hpost
                have hX' := HX.out.step hb hbb
                cases r with
                | none =>
                  simp only at hpost
                  subst hpost
                  refine door_panic (w := w) ?_ _ _ _ rfl rfl rfl hX'.bel _ _ hX'.cO hX'.zO hX'.cI hX'.zI hX'.sz
                  have hcl : close n l1 l2 = none := by rw [HRES.out, ← HIT2.out, ← HPA2.out]; rfl
                  intro e w'' h
                  rw [hcl]
                  exact h
                | some r =>
                  obtain ⟨m', q⟩ := r
                  obtain ⟨rfl, hsr⟩ := hpost
                  have hf := see_facts HSG.out.1 HSG.out.2 HXL.out HPR.out
                  have HB := Lib.hid hX'
                  have HSR2 := Lib.hid hsr
                  have HF := Lib.hid hf
                  clear hb hsr hf hX'
                  cases q with
                  | true =>
                    have HZ' : Hid (zc m' + 1 = zc mi) := Lib.hid (HF.out.2.2.2 rfl)
                    go_wp2_with fail
                    have hz := HZ'.out
                    exact ⟨⟨k + 1, true, m', hlt, by go_num, rfl, HSR2, Lib.hid ⟨HF.out.1, HF.out.2.1⟩, HB, HPA2, Lib.hid (by have := HZI.out.1; exact ⟨by omega, fun _ => by omega⟩)⟩, by simp only [intOf]; omega⟩
                  | false =>
                    have HZ' : Hid (m' = mi) := Lib.hid (HF.out.2.2.1 rfl)
                    go_wp2_with fail
                    have hz := HZ'.out
                    exact ⟨⟨k + 1, bq, m', hlt, by go_num, rfl, HSR2, Lib.hid ⟨HF.out.1, HF.out.2.1⟩, HB, HPA2, Lib.hid (by rw [hz]; exact HZI.out)⟩, by simp only [intOf]; omega⟩
              · obtain rfl : k = l1.length := by omega
                have hpa := HPA.out
                rw [List.drop_length] at hpa
                simp only [pass] at hpa
                have HPA2 := Lib.hid hpa
                clear HPA hpa
                go_wp2_with fail
                go_roundg f
                case measure => exact Nat.lt_succ_self _
                case rel =>
                  refine ⟨bq, mi, rfl, HSR, HSG, HX, Lib.hid ?_, Lib.hid (fun hb => ?_)⟩
                  · rw [← HIT2.out, ← HPA2.out]; rfl
                  · have h1 := HZI.out.2 hb
                    have h2 := HZ2.out
                    omega
        | false =>
          have hit := HIT.out
          simp only [Bool.false_eq_true, if_false] at hit
          have HCL : Hid (close n l1 l2 = some mo) := Lib.hid (by rw [HRES.out, ← hit])
          clear hit HIT HZ HRES
          go_wp2_with fail
          obtain ⟨O, hO⟩ : ∃ O, outF 0 mo = O := ⟨_, rfl⟩
          have HO := Lib.hid hO
          clear hO
          obtain ⟨hsg, hlen⟩ := HSGo.out
          have HSGo1 : Hid (Sg mo) := Lib.hid hsg
          have HLEN : Hid (mo.length = n + 1) := Lib.hid hlen
          clear hsg hlen HSGo
          have HV0 : Hid (Kd.R (Kd.int .i64) 3 wr (w.heap.size + 2) (fun _ => True) (.slice none 0 0) []) := Lib.hid (Kd.R_nil _ _ _ _ _)
          obtain ⟨hx1, hx2, hx3, hx4, hx5, hx6⟩ := HXo.out
          have HX1 := Lib.hid hx1
          have HX3 := Lib.hid hx3
          have HX4 := Lib.hid hx4
          have HX5 := Lib.hid hx5
          have HX6 := Lib.hid hx6
          clear hx1 hx3 hx4 hx5 hx6 HXo
          obtain ⟨wz, hwz⟩ : ∃ wz : World, wz = wr := ⟨_, rfl⟩
          subst hwz
          go_loopw [42] (fun t wl => ∃ (k : Nat) (vo : Value) (xs : List Int), k ≤ n + 1 ∧ t = .int .i64 k ∧ w.heap.size + 1 < wl.heap.size ∧ Hid (xs.length ≤ k) ∧ Hid (SR wl (w.heap.size + 2) b cap (n + 1) mo) ∧ Hid (wl.cell? ⟨w.heap.size, 0, none⟩ = some vo) ∧ Hid (wl.frozen? ⟨w.heap.size, 0, none⟩ = false) ∧ Hid (wl.cell? ⟨w.heap.size + 1, 0, none⟩ = some (.bool false)) ∧ Hid (wl.frozen? ⟨w.heap.size + 1, 0, none⟩ = false) ∧ Hid (Kd.R (Kd.int .i64) 3 wl (w.heap.size + 2) (fun _ => True) vo xs) ∧ Hid (xs ++ outF k (mo.drop k) = O) ∧ Hid (Below w.heap.size w wl)) (fun t _ => n + 1 - (intOf t).toNat)
          case atStart => exact ⟨0, _, [], Nat.zero_le _, rfl, hx2, Lib.hid (Nat.le_refl _), HSRo, HX3, HX4, HX5, HX6, HV0, HO, HX1⟩
          case round =>
            clear HSRo HV0 HX1 HX3 HX4 HX5 HX6 hx2
            obtain ⟨k, vo, xs, hk, rfl, hsz, HXL, HSR, HC, HZ, HCI, HZI, HR, HOU, HB⟩ := hrel
            by_cases hlt : k < n + 1
            · obtain ⟨hc0, hf0⟩ := Kd.R_celln 0 HSR.out (k : Int) (by omega) (by omega)
              rw [Int.toNat_natCast, show rdOf 0 mo (k : Int) = mo.getD k 0 from by simp [rdOf]] at hc0
              have hlen := HLEN.out
              have hdrop : mo.drop k = mo.getD k 0 :: mo.drop (k + 1) := by
                rw [List.drop_eq_getElem_cons (by omega), List.getD_eq_getElem?_getD, List.getElem?_eq_getElem (by omega)]; simp
              have hou := HOU.out
              rw [hdrop] at hou
              simp only [outF] at hou
              have HOU2 := Lib.hid hou
              have hklt : (k : Int) < (n : Int) + 1 := by omega
              clear hdrop hou HOU hlen hf0
              rcases HSGo1.out k with e | e | e
              · rw [e] at hc0
                have hou := HOU2.out
                rw [if_pos e] at hou
                have HOU3 := Lib.hid hou
                clear e hou HOU2
                go_wp2_with fail
                exact ⟨⟨k + 1, vo, xs, hlt, by go_num, hsz, Lib.hid (by have := HXL.out; omega), HSR, HC, HZ, HCI, HZI, HR, HOU3, HB⟩, by simp only [intOf]; omega⟩
              · rw [e] at hc0
                have hou := HOU2.out
                rw [e, if_neg (by decide), List.append_cons, Int.mul_one] at hou
                have HOU3 := Lib.hid hou
                clear e hou HOU2
                have hcc := HC.out
                have hle : (xs.length + 1) * 8 ≤ 140737488355328 := by have := HXL.out; omega
                go_wp2_with (at_builtin; go_must (refine Kd.R_append (Kd.int .i64) (w0 := wr) (w.heap.size + 2) rfl (.tmp 49) (.tmp 54) 23 3 (.int .i64 0) 8 rfl Try.underlying23 info3 rfl (by decide) (by omega) vo xs ((k : Int)) [.int .i64 ((k : Int))] (fun _ => True) (fun _ => False) rfl rfl rfl (fun _ hk => hk.elim) (fun _ _ => trivial) HR.out (Below.refl _ _) (by omega) hle ?_); intro v3 w3 ho hb3 hg hat; clear hat hcc hc0; obtain ⟨A3, c3, e3⟩ := Kd.R_slice ho; rw [List.length_append, List.length_singleton] at e3; rw [e3] at ho ⊢; clear e3; have k1 := (hb3.cell (p := ⟨w.heap.size, 0, none⟩) (by simp)).trans HC.out; have k2 := (hb3.frozen (p := ⟨w.heap.size, 0, none⟩) (by simp)).trans HZ.out; have HG := Lib.hid hg; have HO3 := Lib.hid ho; have HB3 := Lib.hid hb3; clear hg ho hb3)
                have hs3 : SR w3 (w.heap.size + 2) b cap (n + 1) mo := Kd.R_over HSR.out HR.out (by intro q hq; simp [Kd.int, Kd.scalar] at hq; omega) HG.out
                refine ⟨⟨k + 1, _, xs ++ [(k : Int)], hlt, by go_num, ?_, Lib.hid (by have := HXL.out; simp; omega), Lib.hid (R_below_set hs3 ⟨w.heap.size, 0, none⟩ (by simp) _), Lib.hid (World.cell?_setCell_same _ _ _ k1), Lib.hid ?_, Lib.hid ?_, Lib.hid ?_, Lib.hid (R_below_set HO3.out ⟨w.heap.size, 0, none⟩ (by simp) _), HOU3, Lib.hid ?_⟩, by simp only [intOf]; omega⟩
                · have := HB3.out.size; simp [World.setCell]; omega
                · rw [World.frozen?_setCell]; exact k2
                · rw [cell_other _ _ _ _ (by simp)]; exact (HB3.out.cell (by simp)).trans HCI.out
                · rw [World.frozen?_setCell]; exact (HB3.out.frozen (by simp)).trans HZI.out
                · exact (HB.out.trans (HB3.out.mono (by omega))).setCell (p := ⟨w.heap.size, 0, none⟩) (Nat.le_refl _) _
              · rw [e] at hc0
                have hou := HOU2.out
                rw [e, if_neg (by decide), List.append_cons, Int.mul_neg_one] at hou
                have HOU3 := Lib.hid hou
                clear e hou HOU2
                have hcc := HC.out
                have hle : (xs.length + 1) * 8 ≤ 140737488355328 := by have := HXL.out; omega
                go_wp2_with (at_builtin; go_must (refine Kd.R_append (Kd.int .i64) (w0 := wr) (w.heap.size + 2) rfl (.tmp 49) (.tmp 54) 23 3 (.int .i64 0) 8 rfl Try.underlying23 info3 rfl (by decide) (by omega) vo xs (-(k : Int)) [.int .i64 (-(k : Int))] (fun _ => True) (fun _ => False) rfl rfl rfl (fun _ hk => hk.elim) (fun _ _ => trivial) HR.out (Below.refl _ _) (by omega) hle ?_); intro v3 w3 ho hb3 hg hat; clear hat hcc hc0; obtain ⟨A3, c3, e3⟩ := Kd.R_slice ho; rw [List.length_append, List.length_singleton] at e3; rw [e3] at ho ⊢; clear e3; have k1 := (hb3.cell (p := ⟨w.heap.size, 0, none⟩) (by simp)).trans HC.out; have k2 := (hb3.frozen (p := ⟨w.heap.size, 0, none⟩) (by simp)).trans HZ.out; have HG := Lib.hid hg; have HO3 := Lib.hid ho; have HB3 := Lib.hid hb3; clear hg ho hb3)
                have hs3 : SR w3 (w.heap.size + 2) b cap (n + 1) mo := Kd.R_over HSR.out HR.out (by intro q hq; simp [Kd.int, Kd.scalar] at hq; omega) HG.out
                refine ⟨⟨k + 1, _, xs ++ [-(k : Int)], hlt, by go_num, ?_, Lib.hid (by have := HXL.out; simp; omega), Lib.hid (R_below_set hs3 ⟨w.heap.size, 0, none⟩ (by simp) _), Lib.hid (World.cell?_setCell_same _ _ _ k1), Lib.hid ?_, Lib.hid ?_, Lib.hid ?_, Lib.hid (R_below_set HO3.out ⟨w.heap.size, 0, none⟩ (by simp) _), HOU3, Lib.hid ?_⟩, by simp only [intOf]; omega⟩
                · have := HB3.out.size; simp [World.setCell]; omega
                · rw [World.frozen?_setCell]; exact k2
                · rw [cell_other _ _ _ _ (by simp)]; exact (HB3.out.cell (by simp)).trans HCI.out
                · rw [World.frozen?_setCell]; exact (HB3.out.frozen (by simp)).trans HZI.out
                · exact (HB.out.trans (HB3.out.mono (by omega))).setCell (p := ⟨w.heap.size, 0, none⟩) (Nat.le_refl _) _
            · obtain rfl : k = n + 1 := by omega
              have hou := HOU.out
              rw [show mo.drop (n + 1) = [] from List.drop_eq_nil_iff.mpr (by rw [HLEN.out]; exact Nat.le_refl _)] at hou
              simp only [outF, List.append_nil] at hou
              have HOU3 := Lib.hid hou
              clear hou HOU
              obtain ⟨A3, c3, e3⟩ := Kd.R_slice HR.out
              subst e3
              have k1 := HC.out
              have k2 := HZ.out
              have k3 := HCI.out
              have k4 := HZI.out
              have k5 := (cell_other wr ⟨w.heap.size, 0, none⟩ ⟨w.heap.size + 1, 0, none⟩ (.slice A3 xs.length c3) (by simp)).trans k3
              have k6 := (frozen_other wr ⟨w.heap.size, 0, none⟩ ⟨w.heap.size + 1, 0, none⟩ (.slice A3 xs.length c3) (by simp)).trans k4
              go_wp2_with fail
              have e1 : ((wr.setCell ⟨w.heap.size, 0, none⟩ (.slice A3 xs.length c3)).setCell ⟨w.heap.size + 1, 0, none⟩ (.bool false)).cell? ⟨w.heap.size, 0, none⟩ = some (.slice A3 xs.length c3) := by
                rw [cell_other _ _ _ _ (by simp)]; exact World.cell?_setCell_same _ _ _ k1
              have e2 : ((wr.setCell ⟨w.heap.size, 0, none⟩ (.slice A3 xs.length c3)).setCell ⟨w.heap.size + 1, 0, none⟩ (.bool false)).cell? ⟨w.heap.size + 1, 0, none⟩ = some (.bool false) := World.cell?_setCell_same _ _ _ k5
              refine door_return (w := w) (r1 := outF 0 mo) ?_ _ _ _ rfl rfl rfl ?_ _ e1 ?_ e2
              · intro e w'' h
                rw [HCL.out]
                exact h
              · exact (HB.out.setCell (p := ⟨w.heap.size, 0, none⟩) (Nat.le_refl _) _).setCell (p := ⟨w.heap.size + 1, 0, none⟩) (by simp) _
              · rw [HO.out, ← HOU3.out]
                exact Kd.R_lower (R_below_set (R_below_set HR.out ⟨w.heap.size, 0, none⟩ (by simp) _) ⟨w.heap.size + 1, 0, none⟩ (by simp) _) (by omega)
end Go.Proofs.Ytjbljblhbmfbpaa
