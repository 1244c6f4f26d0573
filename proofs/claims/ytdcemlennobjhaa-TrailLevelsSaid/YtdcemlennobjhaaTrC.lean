/-
  The walks of Value, find, Level and Reason. Conditions: as each statement has them.
-/
import Derived.Test.YtdcemlennobjhaaTrB
import Derived.Deep.QuietTactic
import Derived.BigQuiet
namespace Go.Proofs.Ytdcemlennobjhaa.Tr
open Go.RowKit Go.Proofs.YtdcemlennobjhaaW.PrintWords Go.Proofs.YtdcemlennobjhaaW.PrintLast Go.Proofs.YtdcemlennobjhaaW.PrintMore Go.Proofs.Ytdcemlennobjhaa.PTrailPlays
set_option linter.unusedSimpArgs false
set_option linter.unusedVariables false

theorem kn_abs {T : TS} {x : Int} (h : kn T x = true) : x ≠ 0 ∧ x.natAbs < T.of.length := by
  unfold kn at h
  simp only [Bool.and_eq_true, decide_eq_true_eq] at h
  omega
/-- a variable's place, by its cells -/
theorem pl_cells {w : World} {b : Nat} {ok : Nat → Prop} {o : List S69} {A : Option Addr} {c : Nat} (h : Kd.R k69 69 w b ok (.slice A o.length c) o) (m : Nat) (hm : m < o.length) :
    ∃ q, A = some ⟨q, 0, none⟩ ∧ q < w.heap.size ∧ w.cell? ⟨q, m * 3, none⟩ = some (.int .i64 (o.getD m z69).f0) ∧ w.cell? ⟨q, m * 3 + 1, none⟩ = some (.int .i64 (o.getD m z69).f1) ∧ w.cell? ⟨q, m * 3 + 2, none⟩ = some (.int .i64 (o.getD m z69).f2) := by
  obtain ⟨_, _, hC⟩ := Kd.R_reads' h
  obtain ⟨ad, rfl, h0, h1, h2⟩ := at_T69 hC (m : Int) (by omega) (by omega)
  obtain ⟨q, rfl⟩ := Kd.R_head h
  simp only [Int.toNat_natCast, add_plain] at h0 h1 h2
  exact ⟨q, rfl, World.block_lt_of_cell? w _ h0, h0, h1, h2⟩

theorem value_any {w : World} {b g : Nat} {ok : Nat → Prop} {T : TS} (hT : At w b g ok T) (hn : T.of.length ≤ 257) (x : Int) : Calls Try.prog 15 #[.pointer (some ⟨g, 0, none⟩), .int .i64 x] w fun e w' => e = .returned (.int .i64 (valT T x)) ∧ Below w.heap.size w w' := by
  have HK := Lib.hid (known_any hT hn x)
  obtain ⟨q, hq⟩ : ∃ q, kn T x = q := ⟨_, rfl⟩
  have HV : Hid (valT T x = if q = true then (if (pl T x).f0 = 0 then 0 else if (pl T x).f0 = x then 1 else -1) else 0) := Lib.hid (by unfold valT; rw [hq])
  rw [hq] at HK
  cases q with
  | false =>
    clear hq hT
    have hv := HV.out
    rw [if_neg (by decide)] at hv
    rw [hv]
    clear hv HV
    go_enter Try.func15, Try.ntmps15
    go_wp2_with ((with_reducible refine HK.out.mono ?_); rintro e w' ⟨rfl, rfl⟩)
    go_ret
    exact ⟨rfl, Below.refl _ _⟩
  | true =>
    obtain ⟨_, hlt⟩ := kn_abs hq
    have hA := Lib.hid (fun w => at_any x (by omega) w)
    have hv := HV.out
    rw [if_pos rfl] at hv
    obtain ⟨v0, v1, v2, hb, _, _, h0, _, _⟩ := hT
    obtain ⟨A0, c0, rfl⟩ := Kd.R_slice h0
    have hc0 : w.cell? ⟨g, 0, none⟩ = some (.slice A0 T.of.length c0) := blk_cell hb 0
    obtain ⟨q0, rfl, _, hp0, _, _⟩ := pl_cells h0 x.natAbs hlt
    rw [show T.of.getD x.natAbs z69 = pl T x from rfl] at hp0
    obtain ⟨m, hm⟩ : ∃ m : Nat, x.natAbs = m := ⟨_, rfl⟩
    rw [hm] at hA hp0 hlt
    obtain ⟨y, hy⟩ : ∃ y, (pl T x).f0 = y := ⟨_, rfl⟩
    rw [hy] at hp0 hv
    rw [hv]
    have hlt' : (m : Int) < (T.of.length : Int) := by omega
    have hm0 : (0 : Int) ≤ (m : Int) := by omega
    clear hq HV hv hy hm h0 hb hn hlt
    by_cases hy0 : y = 0
    · subst hy0
      rw [if_pos rfl]
      go_enter Try.func15, Try.ntmps15
      go_wp2_with ((with_reducible refine HK.out.mono ?_); rintro e w' ⟨rfl, rfl⟩)
      go_quiet ((go_at_call 34; exact Calls.quiet_of_same (hA.out _)))
      go_wp2
      go_ret
      exact ⟨rfl, pw_below_drewN (Below.refl _ _) _⟩
    · have e0 : (y == 0) = false := beq_eq_false_iff_ne.mpr hy0
      rw [if_neg hy0]
      by_cases hyx : y = x
      · have e1 : (y == x) = true := beq_iff_eq.mpr hyx
        rw [if_pos hyx]
        clear hy0 hyx
        go_enter Try.func15, Try.ntmps15
        go_wp2_with ((with_reducible refine HK.out.mono ?_); rintro e w' ⟨rfl, rfl⟩)
        go_quiet ((go_at_call 34; exact Calls.quiet_of_same (hA.out _)))
        go_wp2
        go_ret
        exact ⟨rfl, pw_below_drewN (Below.refl _ _) _⟩
      · have e1 : (y == x) = false := beq_eq_false_iff_ne.mpr hyx
        rw [if_neg hyx]
        clear hy0 hyx
        go_enter Try.func15, Try.ntmps15
        go_wp2_with ((with_reducible refine HK.out.mono ?_); rintro e w' ⟨rfl, rfl⟩)
        go_quiet ((go_at_call 34; exact Calls.quiet_of_same (hA.out _)))
        go_wp2
        go_ret
        exact ⟨rfl, pw_below_drewN (Below.refl _ _) _⟩

def FindPost (w : World) (q : Bool) (y1 y2 : Int) (e : Ending) (w' : World) : Prop :=
  ∃ r1 r2 r3, e = .returned (.tuple #[.agg #[.int .i64 r1, .int .i64 r2, .int .i64 r3], .bool q]) ∧ (q = true → r2 = y1 ∧ r3 = y2) ∧ Below w.heap.size w w'
theorem find_any {w : World} {b g : Nat} {ok : Nat → Prop} {T : TS} (hT : At w b g ok T) (hn : T.of.length ≤ 257) (v : Int) : Calls Try.prog 35 #[.pointer (some ⟨g, 0, none⟩), .int .i64 v] w (FindPost w (isat T v) (pl T v).f1 (pl T v).f2) := by
  obtain ⟨v0, v1, v2, hb, _, _, h0, _, _⟩ := hT
  obtain ⟨A0, c0, rfl⟩ := Kd.R_slice h0
  have hc0 : w.cell? ⟨g, 0, none⟩ = some (.slice A0 T.of.length c0) := blk_cell hb 0
  have hg := blk_lt hb
  by_cases h1 : v < 1
  · have e1 : isat T v = false := by unfold isat; rw [decide_eq_false (by omega)]; rfl
    rw [e1]
    clear e1 h0 hb hn
    go_enter Try.func35, Try.ntmps35
    go_wp2
    exact bodyPost_ret (v := .tuple #[.agg #[.int .i64 0, .int .i64 0, .int .i64 0], .bool false]) (by simp [results, Try.results35, go_sem]) rfl ⟨0, 0, 0, rfl, (fun h => by cases h), ((Below.refl _ _).alloc (Nat.le_refl _) _)⟩
  · by_cases h2 : v < (T.of.length : Int)
    · obtain ⟨m, rfl⟩ : ∃ m : Nat, v = (m : Int) := ⟨v.toNat, by omega⟩
      obtain ⟨q0, rfl, hq0, hp0, hp1, hp2⟩ := pl_cells h0 m (by omega)
      have e2 : isat T (m : Int) = decide ((pl T m).f0 ≠ 0) := by unfold isat; rw [decide_eq_true (by omega), decide_eq_true h2]; rfl
      rw [e2]
      rw [show T.of.getD m z69 = pl T m from rfl] at hp0 hp1 hp2
      obtain ⟨⟨y0, y1, y2⟩, hy⟩ : ∃ y, pl T m = y := ⟨_, rfl⟩
      rw [hy] at hp0 hp1 hp2 ⊢
      dsimp only at hp0 hp1 hp2 ⊢
      clear e2 hy h0 hb hn
      by_cases hy0 : y0 = 0
      · subst hy0
        go_enter Try.func35, Try.ntmps35
        go_wp2
        exact bodyPost_ret (v := .tuple #[.agg #[.int .i64 0, .int .i64 0, .int .i64 0], .bool false]) (by simp [results, Try.results35, go_sem]) rfl (show FindPost w false y1 y2 _ _ from ⟨0, 0, 0, rfl, (fun h => by cases h), ((Below.refl _ _).alloc (Nat.le_refl _) _)⟩)
      · have e0 : (y0 == 0) = false := beq_eq_false_iff_ne.mpr hy0
        have e3 : decide (y0 ≠ 0) = true := decide_eq_true hy0
        rw [e3]
        clear e3 hy0
        go_enter Try.func35, Try.ntmps35
        go_wp2
        exact bodyPost_ret (v := .tuple #[.agg #[.int .i64 y0, .int .i64 y1, .int .i64 y2], .bool true]) (by simp [results, Try.results35, go_sem]) rfl ⟨y0, y1, y2, rfl, (fun _ => ⟨rfl, rfl⟩), ((Below.refl _ _).alloc (Nat.le_refl _) _)⟩
    · have e1 : isat T v = false := by unfold isat; rw [decide_eq_false h2]; simp
      rw [e1]
      have h2' : ¬ (v < (T.of.length : Int)) := h2
      clear e1 h0 hb hn
      go_enter Try.func35, Try.ntmps35
      go_wp2
      exact bodyPost_ret (v := .tuple #[.agg #[.int .i64 0, .int .i64 0, .int .i64 0], .bool false]) (by simp [results, Try.results35, go_sem]) rfl ⟨0, 0, 0, rfl, (fun h => by cases h), ((Below.refl _ _).alloc (Nat.le_refl _) _)⟩
theorem level_any {w : World} {b g : Nat} {ok : Nat → Prop} {T : TS} (hT : At w b g ok T) (hn : T.of.length ≤ 257) (v : Int) : Calls Try.prog 14 #[.pointer (some ⟨g, 0, none⟩), .int .i64 v] w fun e w' => e = .returned (.int .i64 (lvlT T v)) ∧ Below w.heap.size w w' := by
  have HF := Lib.hid (find_any hT hn v)
  unfold lvlT
  obtain ⟨q, hq⟩ : ∃ q, isat T v = q := ⟨_, rfl⟩
  obtain ⟨⟨y0, y1, y2⟩, hy⟩ : ∃ y, pl T v = y := ⟨_, rfl⟩
  rw [hq, hy] at HF
  rw [hq, hy]
  clear hq hy hT hn
  dsimp only at HF ⊢
  go_enter Try.func14, Try.ntmps14
  go_wp2_with fail
  refine HF.out.mono ?_
  rintro e w1 ⟨r1, r2, r3, rfl, hr, hb⟩
  have HB := Lib.hid hb
  have HR := Lib.hid hr
  clear hb hr HF
  cases q with
  | false =>
    go_wp2_with fail
    go_ret
    exact ⟨rfl, below_alloc HB.out _⟩
  | true =>
    obtain ⟨rfl, rfl⟩ := HR.out rfl
    go_wp2_with fail
    go_ret
    exact ⟨rfl, below_alloc HB.out _⟩
theorem reason_any {w : World} {b g : Nat} {ok : Nat → Prop} {T : TS} (hT : At w b g ok T) (hn : T.of.length ≤ 257) (v : Int) : Calls Try.prog 16 #[.pointer (some ⟨g, 0, none⟩), .int .i64 v] w fun e w' => e = .returned (.int .i64 (reaT T v)) ∧ Below w.heap.size w w' := by
  have HF := Lib.hid (find_any hT hn v)
  unfold reaT
  obtain ⟨q, hq⟩ : ∃ q, isat T v = q := ⟨_, rfl⟩
  obtain ⟨⟨y0, y1, y2⟩, hy⟩ : ∃ y, pl T v = y := ⟨_, rfl⟩
  rw [hq, hy] at HF
  rw [hq, hy]
  clear hq hy hT hn
  dsimp only at HF ⊢
  go_enter Try.func16, Try.ntmps16
  go_wp2_with fail
  refine HF.out.mono ?_
  rintro e w1 ⟨r1, r2, r3, rfl, hr, hb⟩
  have HB := Lib.hid hb
  have HR := Lib.hid hr
  clear hb hr HF
  cases q with
  | false =>
    go_wp2_with fail
    go_ret
    exact ⟨rfl, below_alloc HB.out _⟩
  | true =>
    obtain ⟨rfl, rfl⟩ := HR.out rfl
    go_wp2_with fail
    go_ret
    exact ⟨rfl, below_alloc HB.out _⟩
end Go.Proofs.Ytdcemlennobjhaa.Tr
