/-
  The walks of package cnf's looks at clauses.
-/
import Derived.Test.YtjbljblhbmfbpaaCloseC
namespace Go.Proofs.Ytjbljblhbmfbpaa
open Go.RowKit Prop15 Go.Proofs.YtjbljblhbmfbpaaW.PrintWords

/-- is a number no literal of 1 to n? -/
def bad (n x : Int) : Bool := !(decide (x ≠ 0 ∧ -n ≤ x ∧ x ≤ n))
theorem lit_any (n x : Int) (w : World) (h0 : 0 ≤ n) (h1 : n ≤ 256) : Calls Try.prog 54 #[.int .i64 n, .int .i64 x] w fun e w' => e = .returned (.bool (!(bad n x))) ∧ w' = w := by
  unfold bad
  by_cases hx : x = 0
  · subst hx
    go_enter Try.func54, Try.ntmps54
    go_wp2
    go_ret
    exact ⟨rfl, rfl⟩
  · have hxb : (x != 0) = true := bne_iff_ne.mpr hx
    by_cases h2 : -n ≤ x
    · have h2b : decide (-n ≤ x) = true := decide_eq_true h2
      by_cases h3 : x ≤ n
      · have h3b : decide (x ≤ n) = true := decide_eq_true h3
        have hr : (!(!(decide (x ≠ 0 ∧ -n ≤ x ∧ x ≤ n)))) = true := by rw [decide_eq_true ⟨hx, h2, h3⟩]; rfl
        rw [hr]
        clear hr hx h2 h3
        go_enter Try.func54, Try.ntmps54
        go_wp2
        go_ret
        exact ⟨rfl, rfl⟩
      · have h3b : decide (x ≤ n) = false := decide_eq_false h3
        have hr : (!(!(decide (x ≠ 0 ∧ -n ≤ x ∧ x ≤ n)))) = false := by rw [decide_eq_false (fun h => h3 h.2.2)]; rfl
        rw [hr]
        clear hr hx h2 h3
        go_enter Try.func54, Try.ntmps54
        go_wp2
        go_ret
        exact ⟨rfl, rfl⟩
    · have h2b : decide (-n ≤ x) = false := decide_eq_false h2
      have hr : (!(!(decide (x ≠ 0 ∧ -n ≤ x ∧ x ≤ n)))) = false := by rw [decide_eq_false (fun h => h2 h.2.1)]; rfl
      rw [hr]
      clear hr hx h2
      go_enter Try.func54, Try.ntmps54
      go_wp2
      go_ret
      exact ⟨rfl, rfl⟩

theorem closure_any (n x : Int) (p : Addr) (w : World) (h0 : 0 ≤ n) (h1 : n ≤ 256) (hc : w.cell? p = some (.int .i64 n)) : Calls Try.prog 53 #[.int .i64 x, .pointer (some p)] w fun e w' => e = .returned (.bool (bad n x)) ∧ w' = w := by
  have hl := Lib.hid (lit_any n x w h0 h1)
  obtain ⟨b, hb⟩ : ∃ b, bad n x = b := ⟨_, rfl⟩
  rw [hb] at hl ⊢
  clear hb
  go_enter Try.func53, Try.ntmps53
  go_wp2_with ((with_reducible refine hl.out.mono ?_); rintro e w' ⟨rfl, rfl⟩)
  go_ret
  exact ⟨by cases b <;> rfl, rfl⟩

theorem index_any (n : Int) (p : Addr) (A : Option Addr) (c : List Int) (cc : Nat) (w : World) (h0 : 0 ≤ n) (h1 : n ≤ 256) (hp : w.cell? p = some (.int .i64 n)) (hC : Kd.C (Kd.int .i64) w A c.length c) :
    Calls Try.prog 58 #[.slice A c.length cc, .func (.func 53) #[] #[.pointer (some p)]] w fun e w' => ∃ r : Int, e = .returned (.int .i64 r) ∧ decide (0 ≤ r) = c.any (bad n) ∧ w' = w := by
  have hmax := Kd.C_max hC
  have HC := Lib.hid hC
  have HP := Lib.hid hp
  clear hC hp
  go_enter Try.func58, Try.ntmps58
  go_wp2_with fail
  go_loop [8] (fun t => ∃ k : Nat, k ≤ c.length ∧ t = .int .i64 k ∧ Hid ((c.drop k).any (bad n) = c.any (bad n))) (fun t => c.length - (intOf t).toNat)
  case atStart => exact ⟨0, Nat.zero_le _, rfl, Lib.hid (by simp)⟩
  case round =>
    obtain ⟨k, hk, rfl, HA⟩ := hrel
    by_cases hlt : k < c.length
    · obtain ⟨ad, rfl, hcell⟩ := at_clause w A c HC.out k hlt
      obtain ⟨x, hx⟩ : ∃ x, c.getD k 0 = x := ⟨_, rfl⟩
      have hdrop : c.drop k = x :: c.drop (k + 1) := by
        rw [List.drop_eq_getElem_cons hlt, ← hx, List.getD_eq_getElem?_getD, List.getElem?_eq_getElem hlt]; simp
      rw [hx] at hcell
      have ha := HA.out
      rw [hdrop, List.any_cons] at ha
      have hxlt : (k : Int) < (c.length : Int) := by omega
      have hcl := closure_any n x p w h0 h1 HP.out
      obtain ⟨q, hq⟩ : ∃ q, bad n x = q := ⟨_, rfl⟩
      rw [hq] at ha hcl
      have HCL := Lib.hid hcl
      have HA2 := Lib.hid ha
      clear hcl ha hdrop hx hq HA
      cases q with
      | true =>
        go_wp2_with ((with_reducible refine HCL.out.mono ?_); rintro e w' ⟨rfl, rfl⟩)
        go_ret
        exact ⟨_, rfl, by rw [← HA2.out]; exact decide_eq_true (Int.natCast_nonneg k), rfl⟩
      | false =>
        go_wp2_with ((with_reducible refine HCL.out.mono ?_); rintro e w' ⟨rfl, rfl⟩)
        exact ⟨⟨k + 1, hlt, by go_num, Lib.hid HA2.out⟩, by simp only [intOf]; omega⟩
    · obtain rfl : k = c.length := by omega
      have ha := HA.out
      rw [List.drop_length] at ha
      have HA2 := Lib.hid ha
      clear HA ha
      go_wp2_with fail
      go_ret
      exact ⟨_, rfl, by rw [← HA2.out]; rfl, rfl⟩

/-- slices.ContainsFunc with cnf.Check's closure. -/
theorem contains_any (n : Int) (p : Addr) (A : Option Addr) (c : List Int) (cc : Nat) (w : World) (h0 : 0 ≤ n) (h1 : n ≤ 256) (hp : w.cell? p = some (.int .i64 n)) (hC : Kd.C (Kd.int .i64) w A c.length c) :
    Calls Try.prog 52 #[.slice A c.length cc, .func (.func 53) #[] #[.pointer (some p)]] w fun e w' => e = .returned (.bool (c.any (bad n))) ∧ w' = w := by
  have HI := Lib.hid (index_any n p A c cc w h0 h1 hp hC)
  clear hp hC
  go_enter Try.func52, Try.ntmps52
  go_wp2_with fail
  refine HI.out.mono ?_
  rintro e w' ⟨r, rfl, hr, rfl⟩
  have HR := Lib.hid hr
  clear hr
  by_cases hz : 0 ≤ r
  · have hzb : decide (0 ≤ r) = true := decide_eq_true hz
    go_wp2_with fail
    go_ret
    exact ⟨by rw [← HR.out, hzb]; rfl, rfl⟩
  · have hzb : decide (0 ≤ r) = false := decide_eq_false hz
    go_wp2_with fail
    go_ret
    exact ⟨by rw [← HR.out, hzb]; rfl, rfl⟩

/-- what cnf.Check tells of a clause. -/
def chk (n : Int) (c : List Int) : Int := if n < 0 ∨ n > 256 then 1 else if (c.length : Int) > 256 then 4 else if c.any (bad n) then 11 else 0

theorem hmf (p : Addr) (W : World) : (Instr.makeFunc (.func 53) #[] #[.pointer (some p)]).run Try.prog W = .ok (.func (.func 53) #[] #[.pointer (some p)]) W := by kernel_rfl

theorem Check_any (n : Int) (A : Option Addr) (c : List Int) (cc : Nat) (w : World) (hC : Kd.C (Kd.int .i64) w A c.length c) :
    Calls Try.prog 45 #[.int .i64 n, .slice A c.length cc] w fun e w' => e = .returned (.int .i64 (chk n c)) ∧ Below w.heap.size w w' := by
  have hmax := Kd.C_max hC
  have HC := Lib.hid hC
  clear hC
  by_cases h1 : n < 0
  · have h1b : decide (n < 0) = true := decide_eq_true h1
    have hc : chk n c = 1 := by unfold chk; rw [if_pos (.inl h1)]
    rw [hc]
    clear hc h1
    go_enter Try.func45, Try.ntmps45
    go_wp2
    go_ret
    exact ⟨rfl, (Below.refl _ _).alloc (Nat.le_refl _) _⟩
  · have h1b : decide (n < 0) = false := decide_eq_false h1
    by_cases h2 : 256 < n
    · have h2b : decide (256 < n) = true := decide_eq_true h2
      have hc : chk n c = 1 := by unfold chk; rw [if_pos (.inr h2)]
      rw [hc]
      clear hc h1 h2
      go_enter Try.func45, Try.ntmps45
      go_wp2
      go_ret
      exact ⟨rfl, (Below.refl _ _).alloc (Nat.le_refl _) _⟩
    · have h2b : decide (256 < n) = false := decide_eq_false h2
      have h12 : ¬(n < 0 ∨ n > 256) := by rintro (h | h) <;> omega
      have h0 : 0 ≤ n := by omega
      have h256 : n ≤ 256 := by omega
      by_cases h3 : 256 < (c.length : Int)
      · have h3b : decide (256 < (c.length : Int)) = true := decide_eq_true h3
        have hc : chk n c = 4 := by unfold chk; rw [if_neg h12, if_pos h3]
        rw [hc]
        clear hc h1 h2 h12 h3
        go_enter Try.func45, Try.ntmps45
        go_wp2
        go_ret
        exact ⟨rfl, (Below.refl _ _).alloc (Nat.le_refl _) _⟩
      · have h3b : decide (256 < (c.length : Int)) = false := decide_eq_false h3
        have hc : chk n c = if c.any (bad n) then 11 else 0 := by unfold chk; rw [if_neg h12, if_neg h3]
        have HI := contains_any n ⟨w.heap.size, 0, none⟩ A c cc (w.alloc (.cells #[.int .i64 n] 3)) h0 h256 (by simp) (Kd.C_below HC.out ((Below.refl _ _).alloc (Nat.le_refl _) _))
        rw [hc]
        obtain ⟨q, hq⟩ : ∃ q, c.any (bad n) = q := ⟨_, rfl⟩
        rw [hq] at HI ⊢
        have HI2 := Lib.hid HI
        clear hc h1 h2 h12 h3 hq HI
        have hm := hmf
        cases q with
        | true =>
          go_enter Try.func45, Try.ntmps45
          go_wp2_with ((with_reducible refine HI2.out.mono ?_); rintro e w' ⟨rfl, rfl⟩)
          go_ret
          exact ⟨rfl, (Below.refl _ _).alloc (Nat.le_refl _) _⟩
        | false =>
          go_enter Try.func45, Try.ntmps45
          go_wp2_with ((with_reducible refine HI2.out.mono ?_); rintro e w' ⟨rfl, rfl⟩)
          go_ret
          exact ⟨rfl, (Below.refl _ _).alloc (Nat.le_refl _) _⟩
end Go.Proofs.Ytjbljblhbmfbpaa
