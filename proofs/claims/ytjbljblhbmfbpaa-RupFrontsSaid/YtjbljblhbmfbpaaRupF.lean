/-
  The walk of rup.Check.
-/
import Derived.Test.YtjbljblhbmfbpaaRupE
namespace Go.Proofs.Ytjbljblhbmfbpaa
open Go.RowKit Prop15 Go.Proofs.YtjbljblhbmfbpaaW.PrintWords

/-- what rup.Check tells of the steps from one on. -/
def rupFrom (n : Int) : List (List Int) → List (List Int) → Nat → Int × Int
  | _, [], _ => (0, 0)
  | all, c :: p, i => if chk n c = 0 then (if fol n.toNat all c = true then rupFrom n (all ++ [c]) p (i + 1) else ((i : Int), 13)) else ((i : Int), chk n c)
def rupChk (n : Int) (l p : List (List Int)) : Int × Int := if (chkAll n l).2 = 0 then rupFrom n l p 0 else (0, (chkAll n l).2)

theorem bad_lit {n x : Int} (h0 : 0 ≤ n) (h : bad n x = false) : lit (n.toNat + 1) x := by
  unfold bad at h
  have h1 : x ≠ 0 ∧ -n ≤ x ∧ x ≤ n := by simpa using h
  obtain ⟨a, b, c⟩ := h1
  refine ⟨a, ?_, ?_⟩ <;> omega
theorem chk_ok {n : Int} {c : List Int} (h : chk n c = 0) : 0 ≤ n ∧ n ≤ 256 ∧ c.length ≤ 256 ∧ ∀ x ∈ c, lit (n.toNat + 1) x := by
  unfold chk at h
  split at h
  · cases h
  · rename_i h1
    split at h
    · cases h
    · rename_i h2
      split at h
      · cases h
      · rename_i h3
        have h0 : 0 ≤ n := by omega
        refine ⟨h0, by omega, by omega, fun x hx => bad_lit h0 ?_⟩
        cases hb : bad n x with
        | false => rfl
        | true => exact absurd (List.any_eq_true.2 ⟨x, hx, hb⟩) h3
theorem chkFrom_ok {n : Int} : ∀ (l : List (List Int)) (i : Nat), (chkFrom n l i).2 = 0 → ∀ c ∈ l, chk n c = 0
  | [], _, _, c, hc => by cases hc
  | d :: l, i, h, c, hc => by
    unfold chkFrom at h
    split at h
    · rename_i hd
      rcases List.mem_cons.1 hc with rfl | hc
      · exact hd
      · exact chkFrom_ok l (i + 1) h c hc
    · rename_i hd
      exact absurd h hd
theorem chkAll_ok {n : Int} {l : List (List Int)} (h : (chkAll n l).2 = 0) : 0 ≤ n ∧ n ≤ 256 ∧ l.length ≤ 131072 ∧ ∀ c ∈ l, ∀ x ∈ c, lit (n.toNat + 1) x := by
  unfold chkAll at h
  split at h
  · cases h
  · rename_i h1
    split at h
    · cases h
    · rename_i h2
      exact ⟨by omega, by omega, by omega, fun c hc => (chk_ok (chkFrom_ok l 0 h c hc)).2.2.2⟩

theorem doorR_panic {R : Ending → World → Prop} {w : World} (at_ er : Int) (hR : ∀ e w'', CkPost w (at_, er) e w'' → R e w'') (tmps : Array Value) (ds : List Deferred) (w' : World)
    (hds : ds = [{ target := .fn (.func 41) #[], args := #[.pointer (some ⟨w.heap.size, 0, none⟩), .pointer (some ⟨w.heap.size + 1, 0, none⟩)] }])
    (h6 : tmps[6]?.getD undef = .pointer (some ⟨w.heap.size, 0, none⟩)) (h7 : tmps[7]?.getD undef = .pointer (some ⟨w.heap.size + 1, 0, none⟩)) (hx : BoxI w w') :
    Leaves Try.prog Try.f27 tmps R ds (.panicking (wrongR at_ er)) w' := by
  subst hds
  refine leaves_cons (f := 41) (args := #[.pointer (some ⟨w.heap.size, 0, none⟩), .pointer (some ⟨w.heap.size + 1, 0, none⟩)]) (by simp) (by simp [go_sem]) ?_
  refine (catchR_panicking ⟨w.heap.size, 0, none⟩ ⟨w.heap.size + 1, 0, none⟩ _ _ at_ er [] w' hx.cO hx.zO hx.cI hx.zI (by simp) (by have := hx.sz; simp; omega) hx.sz).mono ?_
  rintro e u' w'' ⟨rfl, rfl, rfl⟩
  obtain ⟨g1, g2⟩ := set_cells w' w.heap.size 85 at_ er _ _ hx.sz hx.cO hx.cI #[.int .i64 at_, .int .i64 er]
  refine ⟨.tuple #[.int .i64 at_, .int .i64 er], ?_, hR _ _ ⟨rfl, ?_⟩⟩
  · generalize (((w'.alloc (.cells #[.int .i64 at_, .int .i64 er] 85)).setCell ⟨w.heap.size, 0, none⟩ (.int .i64 at_)).setCell ⟨w.heap.size + 1, 0, none⟩ (.int .i64 er)).drew = W at g1 g2 ⊢
    simp [results, Try.results27, go_sem, h6, h7, g1, g2]
  · exact (((hx.bel.alloc hx.bel.size _).setCell (p := ⟨w.heap.size, 0, none⟩) (Nat.le_refl _) _).setCell (p := ⟨w.heap.size + 1, 0, none⟩) (by simp) _).drew

theorem doorR_return {R : Ending → World → Prop} {w : World} (at_ er : Int) (hR : ∀ e w'', CkPost w (at_, er) e w'' → R e w'') (tmps : Array Value) (ds : List Deferred) (w' : World)
    (hds : ds = [{ target := .fn (.func 41) #[], args := #[.pointer (some ⟨w.heap.size, 0, none⟩), .pointer (some ⟨w.heap.size + 1, 0, none⟩)] }])
    (h6 : tmps[6]?.getD undef = .pointer (some ⟨w.heap.size, 0, none⟩)) (h7 : tmps[7]?.getD undef = .pointer (some ⟨w.heap.size + 1, 0, none⟩))
    (hb : Below w.heap.size w w') (hc : w'.cell? ⟨w.heap.size, 0, none⟩ = some (.int .i64 at_)) (hc2 : w'.cell? ⟨w.heap.size + 1, 0, none⟩ = some (.int .i64 er)) :
    Leaves Try.prog Try.f27 tmps R ds .returning w' := by
  subst hds
  refine leaves_cons (f := 41) (args := #[.pointer (some ⟨w.heap.size, 0, none⟩), .pointer (some ⟨w.heap.size + 1, 0, none⟩)]) (by simp) (by simp [go_sem]) ?_
  refine (catchR_idle ⟨w.heap.size, 0, none⟩ ⟨w.heap.size + 1, 0, none⟩ w').mono ?_
  rintro e u' w'' ⟨rfl, rfl, rfl⟩
  refine ⟨.tuple #[.int .i64 at_, .int .i64 er], ?_, hR _ _ ⟨rfl, hb⟩⟩
  simp [results, Try.results27, go_sem, h6, h7, hc, hc2]

/-- the rows that came in are read now, too -/
theorem C_now {w wr : World} (hb : Below w.heap.size w wr) {A : Option Addr} {n : Nat} {xs : List (List Int)} (h : (Kd.fixed CD w).C wr A n xs) : CD.C wr A n xs :=
  Kd.C_read (d := CD) (dm := Kd.fixed CD w) (w := wr) rfl (fun x cs hk => CD.K_below hb (show CD.K w x cs from hk)) h

set_option maxRecDepth 100000 in
set_option maxHeartbeats 2000000 in
theorem RCheck_any (n : Int) (A1 : Option Addr) (c1 : Nat) (l1 : List (List Int)) (A2 : Option Addr) (c2 : Nat) (l2 : List (List Int)) (w : World) (hr1 : Kd.C CD w A1 l1.length l1) (hc1 : l1.length ≤ c1) (hr2 : Kd.C CD w A2 l2.length l2) (hp : l2.length ≤ 1000000) :
    Calls Try.prog 27 #[.int .i64 n, .slice A1 l1.length c1, .slice A2 l2.length c2] w (CkPost w (rupChk n l1 l2)) := by
  have HR1 := Lib.hid hr1
  have HR2 := Lib.hid hr2
  have HC1 := Lib.hid hc1
  have HB0 := Lib.hid (BoxI.start w)
  clear hr1 hr2 hc1
  have HK := Lib.hid (CheckAll_any n A1 l1 c1 ((w.alloc (.cells #[.int .i64 0] 3)).alloc (.cells #[.int .i64 0] 46)) (Kd.C_below HR1.out HB0.out.bel))
  go_enter_defers Try.func27, Try.ntmps27
  go_wp2_with fail
  refine HK.out.mono ?_
  rintro e w1 ⟨rfl, hb1⟩
  have HX1 := Lib.hid (HB0.out.step hb1 (by simp))
  clear hb1 HB0 HK
  obtain ⟨er, her⟩ : ∃ er, (chkAll n l1).2 = er := ⟨_, rfl⟩
  obtain ⟨at1, hat1⟩ : ∃ at1, (chkAll n l1).1 = at1 := ⟨_, rfl⟩
  rw [her, hat1]
  by_cases h0 : er = 0
  · subst h0
    have HOK := Lib.hid (chkAll_ok her)
    have HRES : Hid (rupChk n l1 l2 = rupFrom n l1 l2 0) := Lib.hid (by unfold rupChk; rw [if_pos her])
    clear her hat1
    obtain ⟨m, hm⟩ : ∃ m : Nat, n = (m : Int) := ⟨n.toNat, by have := HOK.out.1; omega⟩
    subst hm
    go_wp2_with ((with_reducible refine (mustR_true _ _ _).mono ?_); rintro e w' ⟨rfl, rfl⟩)
    rename_i wc
    refine (Clone_any w A1 l1 c1 _ (Kd.C_below (d := Kd.fixed CD w) (w := w) HR1.out HX1.out.bel) HOK.out.2.2.1).mono ?_
    rintro e w2 ⟨v0, rfl, hs, hb⟩
    have HX2 := Lib.hid (HX1.out.step hb (by have := HX1.out.sz; omega))
    have HS0 := Lib.hid (Kd.R_lower hs (show w.heap.size + 2 ≤ _ by have := HX1.out.sz; omega))
    clear hs hb HX1
    go_wp2_with fail
    go_loopw [10, 28] (fun v t wr => ∃ (k : Nat) (all : List (List Int)), k ≤ l2.length ∧ t = .int .i64 k ∧ Hid (BoxI w wr) ∧ Hid (Kd.R (Kd.fixed CD w) 42 wr (w.heap.size + 2) (fun _ => True) v all) ∧ Hid (∀ c ∈ all, ∀ x ∈ c, lit (m + 1) x) ∧ Hid (all.length ≤ 131072 + k) ∧ Hid (rupFrom m all (l2.drop k) k = rupFrom m l1 l2 0)) (fun _ t _ => l2.length - (intOf t).toNat)
    case atStart => exact ⟨0, l1, Nat.zero_le _, rfl, HX2, HS0, Lib.hid (by have := HOK.out.2.2.2; rwa [Int.toNat_natCast] at this), Lib.hid (by have := HOK.out.2.2.1; omega), Lib.hid rfl⟩
    case round =>
      clear HX2 HS0
      obtain ⟨k, all, hk, rfl, HX, HS, HV, HL, HRF⟩ := hrel
      by_cases hlt : k < l2.length
      · obtain ⟨ad, Ac, cc, hA2, hcell, hcc, hC⟩ := at_row w A2 l2 HR2.out k hlt
        subst hA2
        replace hcell := (HX.out.bel.cell (World.block_lt_of_cell? w _ hcell)).trans hcell
        obtain ⟨x, hx⟩ : ∃ x, l2.getD k [] = x := ⟨_, rfl⟩
        have hdrop : l2.drop k = x :: l2.drop (k + 1) := by
          rw [List.drop_eq_getElem_cons hlt, ← hx, List.getD_eq_getElem?_getD, List.getElem?_eq_getElem hlt]; simp
        rw [hx] at hcell hcc hC
        have hrf := HRF.out
        rw [hdrop] at hrf
        simp only [rupFrom] at hrf
        rw [Int.toNat_natCast] at hrf
        have HP := Check_any m Ac x cc wr (Kd.C_below hC HX.out.bel)
        have hklt : (k : Int) < (l2.length : Int) := by omega
        obtain ⟨r, hr⟩ : ∃ r, chk m x = r := ⟨_, rfl⟩
        rw [hr] at HP hrf
        have HP2 := Lib.hid HP
        have HRF2 := Lib.hid hrf
        have HCH := Lib.hid hr
        have HCX := Lib.hid (And.intro hcc hC)
        clear HP hrf hr hdrop hx HRF hC hcc
        by_cases hr0 : r = 0
        · subst hr0
          have hrf := HRF2.out
          rw [if_pos rfl] at hrf
          have HRF3 := Lib.hid hrf
          clear hrf HRF2
          obtain ⟨A3, c3, rfl, hc3, _⟩ := Kd.R_reads HS.out
          go_wp2_with fail
          refine HP2.out.mono ?_
          rintro e w' ⟨rfl, hb⟩
          have HX2 := Lib.hid (HX.out.step hb (by have := HX.out.sz; omega))
          have HS2 := Lib.hid (Kd.R_below HS.out hb)
          clear hb HX HS HP2
          have HOKX := Lib.hid (chk_ok HCH.out)
          go_wp2_with ((with_reducible refine (mustR_true _ _ _).mono ?_); rintro e w' ⟨rfl, rfl⟩)
          have HFO := Lib.hid (Follows_any m (by have := HOKX.out.2.1; omega) A3 c3 all Ac cc x _ (C_now HX2.out.bel (Kd.R_reads' HS2.out).2.2) hc3 (Kd.C_below HCX.out.2 HX2.out.bel) (by have := HOKX.out.2.2.1; omega) HV.out (by have := HOKX.out.2.2.2; rwa [Int.toNat_natCast] at this))
          obtain ⟨q, hq⟩ : ∃ q, fol m all x = q := ⟨_, rfl⟩
          have hrf := HRF3.out
          have hfo := HFO.out
          rw [hq] at hrf hfo
          have HF2 := Lib.hid hfo
          clear HFO hfo hq
          cases q with
          | false =>
            refine HF2.out.mono ?_
            rintro e w' ⟨rfl, hb⟩
            have HX3 := Lib.hid (HX2.out.step hb (by have := HX2.out.sz; omega))
            clear hb
            go_wp2_with fail
            refine (mustR_false _ _ _).mono ?_
            rintro e w'' ⟨rfl, rfl⟩
            rw [if_neg (by decide)] at hrf
            exact doorR_panic (w := w) k 13 (fun _ _ h => by rw [HRES.out, ← hrf]; exact h) _ _ _ rfl rfl rfl HX3.out
          | true =>
            rw [if_pos rfl] at hrf
            have HRF4 := Lib.hid hrf
            clear hrf HRF3
            refine HF2.out.mono ?_
            rintro e w' ⟨rfl, hb⟩
            have HX3 := Lib.hid (HX2.out.step hb (by have := HX2.out.sz; omega))
            have HS3 := Lib.hid (Kd.R_below HS2.out hb)
            clear hb HX2 HS2 HF2
            go_wp2_with (first
              | ((with_reducible refine (mustR_true _ _ _).mono ?_); rintro e w' ⟨rfl, rfl⟩)
              | ((with_reducible refine gate_builtin (b := .append) (xs := #[.tmp 47, .tmp 49]) rfl ?_); at_builtin; refine Kd.R_append (Kd.fixed CD w) (w0 := _) (w.heap.size + 2) rfl (.tmp 47) (.tmp 49) 29 42 (.slice none 0 0) 24 rfl Try.underlying29 infoc42 rfl Nat.one_pos (by omega) _ all x [.slice Ac x.length cc] (fun _ => True) (fun _ => False) rfl rfl ⟨Ac, cc, rfl, HCX.out.1, HCX.out.2⟩ (fun _ hk => hk.elim) (fun _ _ => trivial) HS3.out (Below.refl _ _) (by have := HX3.out.sz; omega) (by have := HL.out; omega) ?_; intro v1 w1 ho hb hg hat; clear hg hat; have HX4 := Lib.hid (HX3.out.step hb (Nat.le_refl _)); have HS4 := Lib.hid ho; clear ho hb))
            exact ⟨⟨k + 1, all ++ [x], hlt, by go_num, HX4, HS4, Lib.hid (by
              intro c hc
              rcases List.mem_append.1 hc with hc | hc
              · exact HV.out c hc
              · rw [List.mem_singleton.1 hc]
                have := HOKX.out.2.2.2
                rwa [Int.toNat_natCast] at this), Lib.hid (by have := HL.out; simp only [List.length_append, List.length_singleton]; omega), HRF4⟩, by simp only [intOf]; omega⟩
        · have hrb : (r == 0) = false := beq_eq_false_iff_ne.mpr hr0
          have hrf := HRF2.out
          rw [if_neg hr0] at hrf
          go_wp2_with fail
          refine HP2.out.mono ?_
          rintro e w' ⟨rfl, hb⟩
          have HX2 := Lib.hid (HX.out.step hb (by have := HX.out.sz; omega))
          clear hb
          go_wp2_with fail
          refine (mustR_false _ _ _).mono ?_
          rintro e w'' ⟨rfl, rfl⟩
          exact doorR_panic (w := w) k r (fun _ _ h => by rw [HRES.out, ← hrf]; exact h) _ _ _ rfl rfl rfl HX2.out
      · obtain rfl : k = l2.length := by omega
        have hrf := HRF.out
        rw [List.drop_length] at hrf
        simp only [rupFrom] at hrf
        have HB := HX.out.bel
        have hc1 := HX.out.cO
        have hc2 := HX.out.cI
        have hz1 := HX.out.zO
        have hz2 := HX.out.zI
        go_wp2_with fail
        have hz1' := (cell_other wr ⟨w.heap.size, 0, none⟩ ⟨w.heap.size + 1, 0, none⟩ (.int .i64 0) (by simp)).trans hc2
        refine doorR_return (w := w) 0 0 (fun _ _ h => by rw [HRES.out, ← hrf]; exact h) _ _ _ rfl rfl rfl ((HB.setCell (p := ⟨w.heap.size, 0, none⟩) (Nat.le_refl _) _).setCell (p := ⟨w.heap.size + 1, 0, none⟩) (by simp) _) ?_ (World.cell?_setCell_same _ _ _ hz1')
        rw [cell_other _ _ _ _ (by simp)]
        exact World.cell?_setCell_same _ _ _ hc1
  · have herb : (er == 0) = false := beq_eq_false_iff_ne.mpr h0
    have HRES : Hid (rupChk n l1 l2 = (0, er)) := Lib.hid (by unfold rupChk; rw [if_neg (by rw [her]; exact h0), her])
    clear her hat1
    go_wp2_with fail
    refine (mustR_false _ _ _).mono ?_
    rintro e w' ⟨rfl, rfl⟩
    exact doorR_panic (w := w) 0 er (fun _ _ h => by rw [HRES.out]; exact h) _ _ _ rfl rfl rfl HX1.out
end Go.Proofs.Ytjbljblhbmfbpaa
