/-
  The walks of package luby's functions.
-/
import Derived.Test.YtaogafapkblchaaProg
import Derived.Test.YtaogafapkblchaaPlain
import Derived.Test.YtaogafapkblchaaLen
import Derived.WalkKit
import Derived.Defers
import Derived.Recover
import Derived.Laws.Pointers
import Derived.Lib.BitFns
import Derived.Lib.Hide
import Derived.WalkSpells
import Derived.WalkLawsBesides
import Derived.IntWalk
namespace Go.Proofs.Ytaogafapkblchaa
open Go.RowKit Plain

theorem must_ok (w : World) : Calls Try.prog 15 #[.bool true] w fun e w' => e = .returned (.tuple #[]) ∧ w' = w := by
  go_enter Try.func15, Try.ntmps15
  go_wp2
  go_end0
  exact ⟨rfl, rfl⟩
theorem must_no (w : World) : Calls Try.prog 15 #[.bool false] w fun e w' => e = .panicked [{ v := .iface 24 (.int .i64 1), recovered := false }] ∧ w' = w := by
  go_enter Try.func15, Try.ntmps15
  go_wp2
  exact ⟨rfl, rfl, rfl⟩

theorem catch_idle (p : Addr) (w : World) :
    CallsD Try.prog 14 #[.pointer (some p)] .returning w fun e u' w' => e = .returned (.tuple #[]) ∧ u' = .returning ∧ w' = w := by
  refine callsD_of_wpS Try.func14 rfl fun c₀ cs hu => ?_
  apply wpS_seq
  apply wpS_region
  simp [wpOpsS, go_sem, recoverD, hu, Try.ntmps14, Exit.thenS]
  refine wpS_of_wp ?_
  go_wp2
  cases c₀
  simp_all [bodyPostS, results, Try.results14]
theorem hta24 (v : Value) (W : World) : (Instr.typeAssert (.iface 24 v) 20 24 true).run Try.prog W = .ok (.tuple #[v, .bool true]) W := by kernel_rfl
theorem catch_panicking (p : Addr) (x n : Int) (older : List PanicEntry) (w : World) (hc : w.cell? p = some (.int .i64 x)) (hz : w.frozen? p = false) :
    CallsD Try.prog 14 #[.pointer (some p)] (.panicking ({ v := .iface 24 (.int .i64 n), recovered := false } :: older)) w fun e u' w' =>
      e = .returned (.tuple #[]) ∧ u' = .panicking ({ v := .iface 24 (.int .i64 n), recovered := true } :: older) ∧ w' = w.setCell p (.int .i64 n) := by
  refine callsD_of_wpS Try.func14 rfl fun c₀ cs hu => ?_
  apply wpS_seq
  apply wpS_region
  simp only [Try.ntmps14]
  change wpOpsS _ _ _ _ { tmps := #[.pointer (some p), undef, undef, undef, undef, undef, undef, undef, undef, undef, undef, undef, undef, undef], defers := [] } _ _
  simp [wpOpsS, go_sem, recoverD, hu, Exit.thenS]
  clear hu
  refine wpS_of_wp ?_
  have hta := hta24
  go_wp2
  exact ⟨rfl, _, rfl, _, by simp [results, Try.results14, go_sem], rfl, rfl, rfl⟩

theorem pow_in (n : Nat) (h : n ≤ 32) : wrap64 (2 ^ n) = ((2 ^ n : Nat) : Int) := by
  have h1 : (2 : Nat) ^ n ≤ 2 ^ 32 := Nat.pow_le_pow_right (by omega) h
  have : (2 : Int) ^ n = ((2 ^ n : Nat) : Int) := by simp
  rw [this]
  generalize (2 : Nat) ^ n = p at h1
  unfold wrap64
  omega
theorem at_any (i : Nat) (w : World) (h1 : 1 ≤ i) (h2 : i ≤ 2147483647) :
    Calls Try.prog 16 #[.int .i64 i] w fun e w' => e = .returned (.int .i64 (luby i)) ∧ w' = w := by
  go_enter Try.func16, Try.ntmps16
  go_wp2
  go_loop [0] (fun t => ∃ j : Nat, 1 ≤ j ∧ j ≤ i ∧ t = .int .i64 j ∧ Hid (luby j = luby i)) (fun t => (intOf t).toNat)
  case atStart => exact ⟨i, h1, Nat.le_refl _, rfl, Lib.hid rfl⟩
  case round =>
    obtain ⟨j, hj1, hj2, rfl, hj⟩ := hrel
    obtain ⟨m, hm⟩ : ∃ m, Lib.bitLen j = m + 1 := ⟨Lib.bitLen j - 1, by have := bl_pos j (by omega); omega⟩
    have hm31 : m ≤ 30 := by have := Lib.bitLen_le j 31 (by omega) (by omega); omega
    have hm0 : (0 : Int) ≤ (m : Int) := by omega
    have hst := luby_eq j hj1 (by omega)
    rw [hm, Nat.add_sub_cancel] at hst
    have hlo := bl_low j (by omega)
    rw [hm, Nat.add_sub_cancel] at hlo
    have hp1 : (2 : Nat) ^ m ≤ 2 ^ 30 := Nat.pow_le_pow_right (by omega) hm31
    have hstep := lub_step j hj1 (by omega)
    rw [hm, Nat.add_sub_cancel] at hstep
    have HL : Calls Try.prog 18 #[.int .u64 j] w fun e w' => e = .returned (.int .i64 ((m : Int) + 1)) ∧ w' = w := by
      refine (len64_any j w (by omega) (by omega)).mono ?_
      rintro e w' ⟨rfl, rfl⟩
      refine ⟨?_, rfl⟩
      rw [Int.toNat_natCast, hm]; rfl
    have H1 := Lib.hid hst
    have H2 := Lib.hid hstep
    clear hst hstep
    have H3 := Lib.hid HL
    have H4 := Lib.hid hm
    clear HL hm
    by_cases hc : j = 2 ^ (m + 1) - 1
    · have hcb : ((j : Int) == wrap64 (wrap64 (2 ^ (m + 1)) - 1)) = true := by
        rw [pow_in _ (by omega), beq_iff_eq]; rw [Nat.pow_succ] at hc ⊢; unfold wrap64; omega
      have H5 := Lib.hid hc
      clear hc
      go_wp2_with ((with_reducible refine H3.out.mono ?_); rintro e w' ⟨rfl, rfl⟩)
      go_ret
      refine ⟨?_, rfl⟩
      have := H1.out
      rw [if_pos H5.out] at this
      have h := hj.out
      rw [← h, this, pow_in m (by omega)]
      rfl
    · have hcb : ((j : Int) == wrap64 (wrap64 (2 ^ (m + 1)) - 1)) = false := by
        rw [pow_in _ (by omega), beq_eq_false_iff_ne]; rw [Nat.pow_succ] at hc ⊢; unfold wrap64; omega
      have H5 := Lib.hid hc
      clear hc
      go_wp2_with ((with_reducible refine H3.out.mono ?_); rintro e w' ⟨rfl, rfl⟩)
      have hq := H2.out H5.out
      have hl := H1.out
      rw [if_neg H5.out] at hl
      refine ⟨⟨j - (2 ^ m - 1), by omega, by omega, ?_, Lib.hid (by rw [← hl]; exact hj.out)⟩, ?_⟩
      · rw [pow_in m (by omega)]
        generalize (2 : Nat) ^ m = p at *
        congr 1
        unfold wrap64; omega
      · rw [pow_in m (by omega)]
        generalize (2 : Nat) ^ m = p at *
        simp only [intOf]
        unfold wrap64; omega

/-- what is of the world behind such a call: below its own heap nothing has turned -/
theorem At_yes (i : Nat) (w : World) (h1 : 1 ≤ i) (h2 : i ≤ 2147483647) :
    Calls Try.prog 8 #[.int .i64 i] w fun e w' => e = .returned (.tuple #[.int .i64 (luby i), .int .i64 0]) ∧ Below w.heap.size w w' := by
  have hb1 : (1 : Int) ≤ (i : Int) := by omega
  have hb2 : (i : Int) ≤ 2147483647 := by omega
  go_enter_defers Try.func8, Try.ntmps8
  go_wp2_with fail
  refine (must_ok _).mono ?_; rintro e w' ⟨rfl, rfl⟩
  go_wp2_with fail
  refine (at_any _ _ h1 h2).mono ?_; rintro e w' ⟨rfl, rfl⟩
  go_wp2
  refine leaves_cons (f := 14) (args := #[.pointer (some ⟨w.heap.size, 0, none⟩)]) (by simp) (by simp [go_sem]) ?_
  refine (catch_idle ⟨w.heap.size, 0, none⟩ _).mono ?_
  rintro e u' w'' ⟨rfl, rfl, rfl⟩
  exact ⟨.tuple #[.int .i64 (luby i), .int .i64 0], by simp [results, Try.results8, go_sem], rfl, (Below.refl _ _).alloc (Nat.le_refl _) _⟩
theorem At_no (i : Int) (w : World) (h : i < 1 ∨ 2147483647 < i) :
    Calls Try.prog 8 #[.int .i64 i] w fun e w' => e = .returned (.tuple #[.int .i64 0, .int .i64 1]) ∧ Below w.heap.size w w' := by
  rcases h with h | h
  · go_enter_defers Try.func8, Try.ntmps8
    go_wp2_with fail
    refine (must_no _).mono ?_; rintro e w' ⟨rfl, rfl⟩
    go_wp2_with fail
    refine leaves_cons (f := 14) (args := #[.pointer (some ⟨w.heap.size, 0, none⟩)]) (by simp) (by simp [go_sem]) ?_
    refine (catch_panicking ⟨w.heap.size, 0, none⟩ 0 1 [] _ (by simp [go_sem]) (by simp [go_sem])).mono ?_
    rintro e u' w'' ⟨rfl, rfl, rfl⟩
    exact ⟨.tuple #[.int .i64 0, .int .i64 1], by simp [results, Try.results8, go_sem], rfl, ((Below.refl _ _).alloc (Nat.le_refl _) _).setCell (by simp) _⟩
  · have h0 : 1 ≤ i := by omega
    have h9 : decide (i ≤ 2147483647) = false := by simp; omega
    go_enter_defers Try.func8, Try.ntmps8
    go_wp2_with fail
    refine (must_no _).mono ?_; rintro e w' ⟨rfl, rfl⟩
    go_wp2_with fail
    refine leaves_cons (f := 14) (args := #[.pointer (some ⟨w.heap.size, 0, none⟩)]) (by simp) (by simp [go_sem]) ?_
    refine (catch_panicking ⟨w.heap.size, 0, none⟩ 0 1 [] _ (by simp [go_sem]) (by simp [go_sem])).mono ?_
    rintro e u' w'' ⟨rfl, rfl, rfl⟩
    exact ⟨.tuple #[.int .i64 0, .int .i64 1], by simp [results, Try.results8, go_sem], rfl, ((Below.refl _ _).alloc (Nat.le_refl _) _).setCell (by simp) _⟩

theorem Sum_yes (n : Nat) (w : World) (h : n ≤ 1048576) :
    Calls Try.prog 10 #[.int .i64 n] w fun e w' => e = .returned (.tuple #[.int .i64 (lsum n), .int .i64 0]) ∧ Below w.heap.size w w' := by
  have hb2 : (n : Int) ≤ 1048576 := by omega
  go_enter_defers Try.func10, Try.ntmps10
  go_wp2_with fail
  refine (must_ok _).mono ?_; rintro e w' ⟨rfl, rfl⟩
  go_wp2_with fail
  go_loop [2, 13] (fun s t => ∃ k : Nat, k ≤ n ∧ t = .int .i64 k ∧ s = .int .i64 (lsum k)) (fun _ t => n - (intOf t).toNat)
  case atStart => exact ⟨0, Nat.zero_le _, rfl, rfl⟩
  case round =>
    obtain ⟨k, hk, rfl, rfl⟩ := hrel
    have hsl := lsum_le k (by omega)
    by_cases hlt : k < n
    · have hll := luby_le (k + 1) (by omega) (by omega)
      have hs : ((lsum (k + 1) : Nat) : Int) = (lsum k : Int) + luby (k + 1) := by simp [lsum]
      have HS := Lib.hid hs
      clear hs
      go_wp2_with fail
      have e1 : ((k : Int) + 1) = ((k + 1 : Nat) : Int) := by omega
      rw [show (1 : Int) + (k : Int) = ((k + 1 : Nat) : Int) by omega]
      clear e1
      refine (at_any _ _ (by omega) (by omega)).mono ?_; rintro e w' ⟨rfl, rfl⟩
      go_wp2_with fail
      exact ⟨⟨k + 1, hlt, by go_num, by rw [HS.out]⟩, by simp only [intOf]; omega⟩
    · obtain rfl : k = n := by omega
      go_wp2_with fail
      refine leaves_cons (f := 14) (args := #[.pointer (some ⟨w.heap.size, 0, none⟩)]) (by simp) (by simp [go_sem]) ?_
      refine (catch_idle ⟨w.heap.size, 0, none⟩ _).mono ?_
      rintro e u' w'' ⟨rfl, rfl, rfl⟩
      exact ⟨.tuple #[.int .i64 (lsum k), .int .i64 0], by simp [results, Try.results10, go_sem], rfl, (Below.refl _ _).alloc (Nat.le_refl _) _⟩
theorem Sum_no (n : Int) (w : World) (h : n < 0 ∨ 1048576 < n) :
    Calls Try.prog 10 #[.int .i64 n] w fun e w' => e = .returned (.tuple #[.int .i64 0, .int .i64 1]) ∧ Below w.heap.size w w' := by
  rcases h with h | h
  · go_enter_defers Try.func10, Try.ntmps10
    go_wp2_with fail
    refine (must_no _).mono ?_; rintro e w' ⟨rfl, rfl⟩
    go_wp2_with fail
    refine leaves_cons (f := 14) (args := #[.pointer (some ⟨w.heap.size, 0, none⟩)]) (by simp) (by simp [go_sem]) ?_
    refine (catch_panicking ⟨w.heap.size, 0, none⟩ 0 1 [] _ (by simp [go_sem]) (by simp [go_sem])).mono ?_
    rintro e u' w'' ⟨rfl, rfl, rfl⟩
    exact ⟨.tuple #[.int .i64 0, .int .i64 1], by simp [results, Try.results10, go_sem], rfl, ((Below.refl _ _).alloc (Nat.le_refl _) _).setCell (by simp) _⟩
  · have h0 : 0 ≤ n := by omega
    have h9 : decide (n ≤ 1048576) = false := by simp; omega
    go_enter_defers Try.func10, Try.ntmps10
    go_wp2_with fail
    refine (must_no _).mono ?_; rintro e w' ⟨rfl, rfl⟩
    go_wp2_with fail
    refine leaves_cons (f := 14) (args := #[.pointer (some ⟨w.heap.size, 0, none⟩)]) (by simp) (by simp [go_sem]) ?_
    refine (catch_panicking ⟨w.heap.size, 0, none⟩ 0 1 [] _ (by simp [go_sem]) (by simp [go_sem])).mono ?_
    rintro e u' w'' ⟨rfl, rfl, rfl⟩
    exact ⟨.tuple #[.int .i64 0, .int .i64 1], by simp [results, Try.results10, go_sem], rfl, ((Below.refl _ _).alloc (Nat.le_refl _) _).setCell (by simp) _⟩

theorem Due_yes (c u : Nat) (w : World) (h : c ≤ 1048576) (h1 : 1 ≤ u) (h2 : u ≤ 1048576) :
    Calls Try.prog 12 #[.int .i64 c, .int .i64 u] w fun e w' => e = .returned (.tuple #[.int .i64 (dueN (c / u)), .int .i64 0]) ∧ Below w.heap.size w w' := by
  have hb2 : (c : Int) ≤ 1048576 := by omega
  have hb3 : (1 : Int) ≤ (u : Int) := by omega
  have hb4 : (u : Int) ≤ 1048576 := by omega
  have hq : c / u ≤ c := Nat.div_le_self _ _
  have hqI : ((c : Int) / (u : Int)) = ((c / u : Nat) : Int) := by simp
  have HQ := Lib.hid hqI
  clear hqI
  go_enter_defers Try.func12, Try.ntmps12
  go_wp2_with fail
  refine (must_ok _).mono ?_; rintro e w' ⟨rfl, rfl⟩
  go_wp2_with fail
  go_loop [4, 6] (fun s t => ∃ k : Nat, k ≤ c / u ∧ s = .int .i64 k ∧ t = .int .i64 (lsum k) ∧ lsum k ≤ c / u ∧ Hid (dueF (c / u - k + 1) k (c / u) = dueN (c / u))) (fun s _ => c / u - (intOf s).toNat)
  case atStart => exact ⟨0, Nat.zero_le _, rfl, rfl, Nat.zero_le _, Lib.hid rfl⟩
  case round =>
    obtain ⟨k, hk, rfl, rfl, hls, HD⟩ := hrel
    have hll := luby_le (k + 1) (by omega) (by omega)
    have hs : ((lsum (k + 1) : Nat) : Int) = (lsum k : Int) + luby (k + 1) := by simp [lsum]
    have HS := Lib.hid hs
    clear hs
    have hg : k + 1 ≤ lsum (k + 1) := lsum_ge _ (by omega)
    have HD2 := HD.out
    rw [dueF.eq_2] at HD2
    have HD3 := Lib.hid HD2
    clear HD2
    by_cases hlt : lsum (k + 1) > c / u
    · have hbl : decide ((c : Int) / (u : Int) < (lsum k : Int) + luby (k + 1)) = true := by rw [HQ.out, ← HS.out]; simp; omega
      go_wp2_with fail
      refine (at_any (k + 1) _ (by omega) (by omega)).mono ?_; rintro e w' ⟨rfl, rfl⟩
      go_wp2_with fail
      refine leaves_cons (f := 14) (args := #[.pointer (some ⟨w.heap.size, 0, none⟩)]) (by simp) (by simp [go_sem]) ?_
      refine (catch_idle ⟨w.heap.size, 0, none⟩ _).mono ?_
      rintro e u' w'' ⟨rfl, rfl, rfl⟩
      have hd := HD3.out
      rw [if_pos hlt] at hd
      exact ⟨.tuple #[.int .i64 (dueN (c / u)), .int .i64 0], by simp [results, Try.results12, go_sem, hd], rfl, (Below.refl _ _).alloc (Nat.le_refl _) _⟩
    · have hbl : decide ((c : Int) / (u : Int) < (lsum k : Int) + luby (k + 1)) = false := by rw [HQ.out, ← HS.out]; simp; omega
      go_wp2_with fail
      refine (at_any (k + 1) _ (by omega) (by omega)).mono ?_; rintro e w' ⟨rfl, rfl⟩
      go_wp2_with fail
      have hd := HD3.out
      rw [if_neg hlt] at hd
      refine ⟨⟨k + 1, by omega, by go_num, by rw [HS.out], by omega, Lib.hid ?_⟩, by simp only [intOf]; omega⟩
      rw [show c / u - (k + 1) + 1 = c / u - k by omega]; exact hd
theorem Due_no (c u : Int) (w : World) (h : c < 0 ∨ (0 ≤ c ∧ 1048576 < c) ∨ (0 ≤ c ∧ c ≤ 1048576 ∧ u < 1) ∨ (0 ≤ c ∧ c ≤ 1048576 ∧ 1 ≤ u ∧ 1048576 < u)) :
    Calls Try.prog 12 #[.int .i64 c, .int .i64 u] w fun e w' => e = .returned (.tuple #[.int .i64 0, .int .i64 1]) ∧ Below w.heap.size w w' := by
  rcases h with h | ⟨h, h'⟩ | ⟨h, h', h''⟩ | ⟨h, h', h'', h3⟩
  · go_enter_defers Try.func12, Try.ntmps12
    go_wp2_with fail
    refine (must_no _).mono ?_; rintro e w' ⟨rfl, rfl⟩
    go_wp2_with fail
    refine leaves_cons (f := 14) (args := #[.pointer (some ⟨w.heap.size, 0, none⟩)]) (by simp) (by simp [go_sem]) ?_
    refine (catch_panicking ⟨w.heap.size, 0, none⟩ 0 1 [] _ (by simp [go_sem]) (by simp [go_sem])).mono ?_
    rintro e u' w'' ⟨rfl, rfl, rfl⟩
    exact ⟨.tuple #[.int .i64 0, .int .i64 1], by simp [results, Try.results12, go_sem], rfl, ((Below.refl _ _).alloc (Nat.le_refl _) _).setCell (by simp) _⟩
  · have h9 : decide (c ≤ 1048576) = false := by simp; omega
    go_enter_defers Try.func12, Try.ntmps12
    go_wp2_with fail
    refine (must_no _).mono ?_; rintro e w' ⟨rfl, rfl⟩
    go_wp2_with fail
    refine leaves_cons (f := 14) (args := #[.pointer (some ⟨w.heap.size, 0, none⟩)]) (by simp) (by simp [go_sem]) ?_
    refine (catch_panicking ⟨w.heap.size, 0, none⟩ 0 1 [] _ (by simp [go_sem]) (by simp [go_sem])).mono ?_
    rintro e u' w'' ⟨rfl, rfl, rfl⟩
    exact ⟨.tuple #[.int .i64 0, .int .i64 1], by simp [results, Try.results12, go_sem], rfl, ((Below.refl _ _).alloc (Nat.le_refl _) _).setCell (by simp) _⟩
  · have h9 : decide (1 ≤ u) = false := by simp; omega
    go_enter_defers Try.func12, Try.ntmps12
    go_wp2_with fail
    refine (must_no _).mono ?_; rintro e w' ⟨rfl, rfl⟩
    go_wp2_with fail
    refine leaves_cons (f := 14) (args := #[.pointer (some ⟨w.heap.size, 0, none⟩)]) (by simp) (by simp [go_sem]) ?_
    refine (catch_panicking ⟨w.heap.size, 0, none⟩ 0 1 [] _ (by simp [go_sem]) (by simp [go_sem])).mono ?_
    rintro e u' w'' ⟨rfl, rfl, rfl⟩
    exact ⟨.tuple #[.int .i64 0, .int .i64 1], by simp [results, Try.results12, go_sem], rfl, ((Below.refl _ _).alloc (Nat.le_refl _) _).setCell (by simp) _⟩
  · have h9 : decide (u ≤ 1048576) = false := by simp; omega
    go_enter_defers Try.func12, Try.ntmps12
    go_wp2_with fail
    refine (must_no _).mono ?_; rintro e w' ⟨rfl, rfl⟩
    go_wp2_with fail
    refine leaves_cons (f := 14) (args := #[.pointer (some ⟨w.heap.size, 0, none⟩)]) (by simp) (by simp [go_sem]) ?_
    refine (catch_panicking ⟨w.heap.size, 0, none⟩ 0 1 [] _ (by simp [go_sem]) (by simp [go_sem])).mono ?_
    rintro e u' w'' ⟨rfl, rfl, rfl⟩
    exact ⟨.tuple #[.int .i64 0, .int .i64 1], by simp [results, Try.results12, go_sem], rfl, ((Below.refl _ _).alloc (Nat.le_refl _) _).setCell (by simp) _⟩
end Go.Proofs.Ytaogafapkblchaa
