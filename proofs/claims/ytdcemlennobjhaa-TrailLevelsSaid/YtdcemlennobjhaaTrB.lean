/-
  The walks of must, catch, known and the looks at a trail. Conditions: as each statement has them.
-/
import Derived.Test.YtdcemlennobjhaaTrA
namespace Go.Proofs.Ytdcemlennobjhaa.Tr
open Go.RowKit Go.Proofs.YtdcemlennobjhaaW.PrintWords Go.Proofs.YtdcemlennobjhaaW.PrintLast Go.Proofs.YtdcemlennobjhaaW.PrintMore Go.Proofs.Ytdcemlennobjhaa.PTrailPlays
set_option linter.unusedSimpArgs false
set_option linter.unusedVariables false

theorem must_true (e : Int) (w : World) : Calls Try.prog 33 #[.bool true, .int .i64 e] w fun x w' => x = .returned (.tuple #[]) ∧ w = w' := by
  go_enter Try.func33, Try.ntmps33
  go_wp2
  go_end0
  exact ⟨rfl, rfl⟩
/-- what is told by a panic -/
abbrev wrong (e : Int) : List PanicEntry := [{ v := .iface 25 (.int .i64 e), recovered := false }]
theorem hmi25 (v : Value) (W : World) : (Instr.makeInterface 25 v).run Try.prog W = .ok (.iface 25 v) W := by kernel_rfl
theorem must_false (e : Int) (w : World) : Calls Try.prog 33 #[.bool false, .int .i64 e] w fun x w' => x = .panicked (wrong e) ∧ w = w' := by
  go_enter Try.func33, Try.ntmps33
  go_wp2
  exact ⟨rfl, rfl, rfl⟩

theorem tmps14 (p : Addr) : (#[Value.pointer (some p)] ++ Array.replicate (14 - #[Value.pointer (some p)].size) undef : Array Value) = #[.pointer (some p), undef, undef, undef, undef, undef, undef, undef, undef, undef, undef, undef, undef, undef] := by kernel_rfl
theorem catch_idle (p : Addr) (w : World) :
    CallsD Try.prog 29 #[.pointer (some p)] .returning w fun e u' w' => e = .returned (.tuple #[]) ∧ u' = .returning ∧ w' = w := by
  refine callsD_of_wpS Try.func29 rfl fun c₀ cs hu => ?_
  apply wpS_seq
  apply wpS_region
  simp only [Try.ntmps29]
  rw [tmps14 p]
  simp [wpOpsS, go_sem, recoverD, hu, Exit.thenS]
  refine wpS_of_wp ?_
  go_wp2
  cases c₀
  simp_all [bodyPostS, results, Try.results29]
theorem hta25 (v : Value) (W : World) : (Instr.typeAssert (.iface 25 v) 20 25 true).run Try.prog W = .ok (.tuple #[v, .bool true]) W := by kernel_rfl
theorem catch_panicking (p : Addr) (x : Value) (er : Int) (older : List PanicEntry) (w : World) (hc : w.cell? p = some x) (hz : w.frozen? p = false) :
    CallsD Try.prog 29 #[.pointer (some p)] (.panicking ({ v := .iface 25 (.int .i64 er), recovered := false } :: older)) w fun e u' w' =>
      e = .returned (.tuple #[]) ∧ u' = .panicking ({ v := .iface 25 (.int .i64 er), recovered := true } :: older) ∧ w' = w.setCell p (.int .i64 er) := by
  refine callsD_of_wpS Try.func29 rfl fun c₀ cs hu => ?_
  apply wpS_seq
  apply wpS_region
  simp only [Try.ntmps29]
  rw [tmps14 p]
  simp [wpOpsS, go_sem, recoverD, hu, Exit.thenS]
  clear hu
  refine wpS_of_wp ?_
  have hta := hta25
  go_wp2
  exact ⟨rfl, _, rfl, _, by simp [results, Try.results29, go_sem], rfl, rfl, rfl⟩

theorem known_any {w : World} {b g : Nat} {ok : Nat → Prop} {T : TS} (hT : At w b g ok T) (hn : T.of.length ≤ 257) (x : Int) : Calls Try.prog 36 #[.pointer (some ⟨g, 0, none⟩), .int .i64 x] w fun e w' => e = .returned (.bool (kn T x)) ∧ w = w' := by
  obtain ⟨v0, v1, v2, hb, _, _, h0, _, _⟩ := hT
  obtain ⟨A0, c0, rfl⟩ := Kd.R_slice h0
  have hc0 : w.cell? ⟨g, 0, none⟩ = some (.slice A0 T.of.length c0) := blk_cell hb 0
  have hn' : (T.of.length : Int) ≤ 257 := by omega
  clear hn h0 hb
  unfold kn
  by_cases h1 : x = 0
  · subst h1
    go_enter Try.func36, Try.ntmps36
    go_wp2
    go_ret
    exact ⟨rfl, rfl⟩
  · have e1 : (x != 0) = true := bne_iff_ne.mpr h1
    have e1' : decide (x ≠ 0) = true := decide_eq_true h1
    rw [e1']
    clear h1 e1'
    by_cases h2 : x < (T.of.length : Int)
    · have e2 : decide (x < (T.of.length : Int)) = true := decide_eq_true h2
      rw [e2]
      obtain ⟨q, hq⟩ : ∃ q, decide (-(T.of.length : Int) < x) = q := ⟨_, rfl⟩
      rw [hq]
      go_enter Try.func36, Try.ntmps36
      go_wp2
      go_ret
      exact ⟨by cases q <;> rfl, rfl⟩
    · have e2 : decide (x < (T.of.length : Int)) = false := decide_eq_false h2
      rw [e2]
      clear h2
      go_enter Try.func36, Try.ntmps36
      go_wp2
      go_ret
      exact ⟨rfl, rfl⟩
theorem deep_any {w : World} {b g : Nat} {ok : Nat → Prop} {T : TS} (hT : At w b g ok T) : Calls Try.prog 10 #[.pointer (some ⟨g, 0, none⟩)] w fun e w' => e = .returned (.int .i64 (T.frm.length : Int)) ∧ w = w' := by
  obtain ⟨v0, v1, v2, hb, _, _, _, _, h2⟩ := hT
  obtain ⟨A2, c2, rfl⟩ := Kd.R_slice h2
  have hc2 : w.cell? ⟨g, 2, none⟩ = some (.slice A2 T.frm.length c2) := blk_cell hb 2
  clear h2 hb
  go_enter Try.func10, Try.ntmps10
  go_wp2
  go_ret
  exact ⟨rfl, rfl⟩
end Go.Proofs.Ytdcemlennobjhaa.Tr
