/-
  The walk of cnf.Same.
-/
import Derived.Test.YtjbljblhbmfbpaaRupF
namespace Go.Proofs.Ytjbljblhbmfbpaa
open Go.RowKit Prop15 Go.Proofs.YtjbljblhbmfbpaaW.PrintWords

theorem drawn_trans {a b c : World} (h : Drawn0 a b) (h2 : Drawn0 b c) : Drawn0 a c := by
  obtain ⟨n, rfl⟩ := h2
  exact h.step n
theorem drawn_drew {a b : World} (h : Drawn0 a b) : Drawn0 a b.drew := by
  have := h.step 1
  rwa [show b.drewN 1 = b.drew from rfl] at this

theorem drop_cons {α : Type} (l : List α) (z : α) (k : Nat) (hk : k < l.length) : l.drop k = l.getD k z :: l.drop (k + 1) := by
  rw [List.drop_eq_getElem_cons hk, List.getD_eq_getElem?_getD, List.getElem?_eq_getElem hk]; rfl

theorem equal_any (A1 : Option Addr) (c1 : Nat) (l1 : List Int) (A2 : Option Addr) (c2 : Nat) (l2 : List Int) (w : World) (hr1 : Kd.C (Kd.int .i64) w A1 l1.length l1) (hr2 : Kd.C (Kd.int .i64) w A2 l2.length l2) :
    Calls Try.prog 57 #[.slice A1 l1.length c1, .slice A2 l2.length c2] w fun e w' => e = .returned (.bool (l1 == l2)) ∧ Drawn0 w w' := by
  have hmax1 := Kd.C_max hr1
  have hmax2 := Kd.C_max hr2
  have HR1 := Lib.hid hr1
  have HR2 := Lib.hid hr2
  clear hr1 hr2
  by_cases hlen : l1.length = l2.length
  · have HLEN := Lib.hid hlen
    go_enter Try.func57, Try.ntmps57
    have hne : ((l1.length : Int) != (l2.length : Int)) = false := by rw [hlen]; simp
    clear hlen
    go_wp2_with fail
    clear hne
    go_loopw [13] (fun t wr => ∃ k : Nat, k ≤ l1.length ∧ t = .int .i64 k ∧ Hid (Drawn0 w wr) ∧ Hid ((l1.drop k == l2.drop k) = (l1 == l2))) (fun t _ => l1.length - (intOf t).toNat)
    case atStart => exact ⟨0, Nat.zero_le _, rfl, Lib.hid (Drawn0.refl w), Lib.hid rfl⟩
    case round =>
      obtain ⟨k, hk, rfl, HD, HE⟩ := hrel
      by_cases hlt : k < l1.length
      · have hlt2 : k < l2.length := by rw [← HLEN.out]; exact hlt
        obtain ⟨ad1, hA1, hcell1⟩ := at_clause wr A1 l1 (Kd.C_below HR1.out HD.out.below) k hlt
        obtain ⟨ad2, hA2, hcell2⟩ := at_clause wr A2 l2 (Kd.C_below HR2.out HD.out.below) k hlt2
        subst hA1 hA2
        obtain ⟨x, hx⟩ : ∃ x, l1.getD k 0 = x := ⟨_, rfl⟩
        obtain ⟨y, hy⟩ : ∃ y, l2.getD k 0 = y := ⟨_, rfl⟩
        have he := HE.out
        rw [drop_cons l1 0 k hlt, drop_cons l2 0 k hlt2, hx, hy, List.cons_beq_cons] at he
        rw [hx] at hcell1
        rw [hy] at hcell2
        have hi1 : (k : Int) < (l1.length : Int) := by omega
        have hi2 : (k : Int) < (l2.length : Int) := by omega
        have HE2 := Lib.hid he
        clear he hx hy HE
        by_cases hxy : x = y
        · subst hxy
          have hb : (x != x) = false := by simp
          have he := HE2.out
          rw [beq_self_eq_true, Bool.true_and] at he
          have HE3 := Lib.hid he
          clear he HE2
          go_wp2_with fail
          go_region
          go_wp2_with fail
          exact ⟨⟨k + 1, hlt, by go_num, Lib.hid (drawn_drew HD.out), HE3⟩, by simp only [intOf]; omega⟩
        · have hb : (x != y) = true := bne_iff_ne.mpr hxy
          have he := HE2.out
          rw [beq_eq_false_iff_ne.mpr hxy, Bool.false_and] at he
          have HE3 := Lib.hid he
          clear he HE2 hxy
          go_wp2_with fail
          go_region
          go_wp2_with fail
          go_ret
          exact ⟨by rw [← HE3.out]; rfl, (drawn_drew HD.out)⟩
      · obtain rfl : k = l1.length := by omega
        have he := HE.out
        rw [List.drop_length, HLEN.out, List.drop_length] at he
        have HE3 := Lib.hid he
        clear he HE
        go_wp2_with fail
        go_ret
        exact ⟨by rw [← HE3.out]; rfl, HD.out⟩
  · have hne : ((l1.length : Int) != (l2.length : Int)) = true := bne_iff_ne.mpr (by omega)
    have hb : (l1 == l2) = false := beq_eq_false_iff_ne.mpr (fun h => hlen (by rw [h]))
    rw [hb]
    clear hb hlen
    go_enter Try.func57, Try.ntmps57
    go_wp2_with fail
    go_ret
    exact ⟨rfl, Drawn0.refl _⟩

theorem sameOne_any (A1 : Option Addr) (c1 : Nat) (l1 : List Int) (A2 : Option Addr) (c2 : Nat) (l2 : List Int) (w : World) (hr1 : Kd.C (Kd.int .i64) w A1 l1.length l1) (hr2 : Kd.C (Kd.int .i64) w A2 l2.length l2) :
    Calls Try.prog 56 #[.slice A1 l1.length c1, .slice A2 l2.length c2] w fun e w' => e = .returned (.bool (l1 == l2)) ∧ Drawn0 w w' := by
  have HE := Lib.hid (equal_any A1 c1 l1 A2 c2 l2 w hr1 hr2)
  clear hr1 hr2
  go_enter Try.func56, Try.ntmps56
  go_wp2_with fail
  refine HE.out.mono ?_
  rintro e w' ⟨rfl, hd⟩
  have HD := Lib.hid hd
  clear hd
  go_wp2_with fail
  go_ret
  exact ⟨rfl, HD.out⟩

theorem equalFunc_any (A1 : Option Addr) (c1 : Nat) (l1 : List (List Int)) (A2 : Option Addr) (c2 : Nat) (l2 : List (List Int)) (w : World) (hr1 : Kd.C CD w A1 l1.length l1) (hr2 : Kd.C CD w A2 l2.length l2) :
    Calls Try.prog 55 #[.slice A1 l1.length c1, .slice A2 l2.length c2, .func (.func 56) #[] #[]] w fun e w' => e = .returned (.bool (l1 == l2)) ∧ Drawn0 w w' := by
  have hmax1 := Kd.C_max hr1
  have hmax2 := Kd.C_max hr2
  have HR1 := Lib.hid hr1
  have HR2 := Lib.hid hr2
  clear hr1 hr2
  by_cases hlen : l1.length = l2.length
  · have HLEN := Lib.hid hlen
    go_enter Try.func55, Try.ntmps55
    have hne : ((l1.length : Int) != (l2.length : Int)) = false := by rw [hlen]; simp
    clear hlen
    go_wp2_with fail
    clear hne
    go_loopw [17] (fun t wr => ∃ k : Nat, k ≤ l1.length ∧ t = .int .i64 k ∧ Hid (Drawn0 w wr) ∧ Hid ((l1.drop k == l2.drop k) = (l1 == l2))) (fun t _ => l1.length - (intOf t).toNat)
    case atStart => exact ⟨0, Nat.zero_le _, rfl, Lib.hid (Drawn0.refl w), Lib.hid rfl⟩
    case round =>
      obtain ⟨k, hk, rfl, HD, HE⟩ := hrel
      by_cases hlt : k < l1.length
      · have hlt2 : k < l2.length := by rw [← HLEN.out]; exact hlt
        obtain ⟨ad1, Ac1, cc1, hA1, hcell1, hcc1, hC1⟩ := at_row wr A1 l1 (Kd.C_below HR1.out HD.out.below) k hlt
        obtain ⟨ad2, Ac2, cc2, hA2, hcell2, hcc2, hC2⟩ := at_row wr A2 l2 (Kd.C_below HR2.out HD.out.below) k hlt2
        subst hA1 hA2
        obtain ⟨x, hx⟩ : ∃ x, l1.getD k [] = x := ⟨_, rfl⟩
        obtain ⟨y, hy⟩ : ∃ y, l2.getD k [] = y := ⟨_, rfl⟩
        have he := HE.out
        rw [drop_cons l1 [] k hlt, drop_cons l2 [] k hlt2, hx, hy, List.cons_beq_cons] at he
        rw [hx] at hcell1 hcc1 hC1
        rw [hy] at hcell2 hcc2 hC2
        have hi1 : (k : Int) < (l1.length : Int) := by omega
        have hi2 : (k : Int) < (l2.length : Int) := by omega
        have hs := sameOne_any Ac1 cc1 x Ac2 cc2 y wr hC1 hC2
        obtain ⟨q, hq⟩ : ∃ q, (x == y) = q := ⟨_, rfl⟩
        rw [hq] at hs he
        have HE2 := Lib.hid he
        have HS := Lib.hid hs
        clear he hx hy HE hs hC1 hC2 hq hcc1 hcc2
        go_wp2_with fail
        refine HS.out.mono ?_
        rintro e w' ⟨rfl, hd⟩
        have HD2 := Lib.hid (drawn_trans HD.out hd)
        clear hd HS
        cases q with
        | true =>
          have he := HE2.out
          rw [Bool.true_and] at he
          have HE3 := Lib.hid he
          clear he HE2
          go_wp2_with fail
          exact ⟨⟨k + 1, hlt, by go_num, HD2, HE3⟩, by simp only [intOf]; omega⟩
        | false =>
          have he := HE2.out
          rw [Bool.false_and] at he
          have HE3 := Lib.hid he
          clear he HE2
          go_wp2_with fail
          go_ret
          exact ⟨by rw [← HE3.out]; rfl, HD2.out⟩
      · obtain rfl : k = l1.length := by omega
        have he := HE.out
        rw [List.drop_length, HLEN.out, List.drop_length] at he
        have HE3 := Lib.hid he
        clear he HE
        go_wp2_with fail
        go_ret
        exact ⟨by rw [← HE3.out]; rfl, HD.out⟩
  · have hne : ((l1.length : Int) != (l2.length : Int)) = true := bne_iff_ne.mpr (by omega)
    have hb : (l1 == l2) = false := beq_eq_false_iff_ne.mpr (fun h => hlen (by rw [h]))
    rw [hb]
    clear hb hlen
    go_enter Try.func55, Try.ntmps55
    go_wp2_with fail
    go_ret
    exact ⟨rfl, Drawn0.refl _⟩

theorem Same_any (A1 : Option Addr) (c1 : Nat) (l1 : List (List Int)) (A2 : Option Addr) (c2 : Nat) (l2 : List (List Int)) (w : World) (hr1 : Kd.C CD w A1 l1.length l1) (hr2 : Kd.C CD w A2 l2.length l2) :
    Calls Try.prog 46 #[.slice A1 l1.length c1, .slice A2 l2.length c2] w fun e w' => e = .returned (.bool (l1 == l2)) ∧ Drawn0 w w' := by
  have HE := Lib.hid (equalFunc_any A1 c1 l1 A2 c2 l2 w hr1 hr2)
  clear hr1 hr2
  go_enter Try.func46, Try.ntmps46
  go_wp2_with fail
  refine HE.out.mono ?_
  rintro e w' ⟨rfl, hd⟩
  have HD := Lib.hid hd
  clear hd
  go_wp2_with fail
  go_ret
  exact ⟨rfl, HD.out⟩
end Go.Proofs.Ytjbljblhbmfbpaa
