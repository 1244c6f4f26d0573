/-
  The walks of must and catch, of cnf and of rup.
-/
import Derived.Test.YtjbljblhbmfbpaaRupA
import Derived.Test.YtjbljblhbmfbpaaCloseB
import Derived.RegionTactic
namespace Go.Proofs.Ytjbljblhbmfbpaa
open Go.RowKit Prop15 Go.Proofs.YtjbljblhbmfbpaaW.PrintWords

theorem tmps21 (p q : Addr) : (#[Value.pointer (some p), Value.pointer (some q)] ++ Array.replicate (21 - #[Value.pointer (some p), Value.pointer (some q)].size) undef : Array Value) = #[.pointer (some p), .pointer (some q), undef, undef, undef, undef, undef, undef, undef, undef, undef, undef, undef, undef, undef, undef, undef, undef, undef, undef, undef] := by kernel_rfl

theorem mustC_true (at_ e : Int) (w : World) : Calls Try.prog 51 #[.bool true, .int .i64 at_, .int .i64 e] w fun x w' => x = .returned (.tuple #[]) ∧ w' = w := by
  go_enter Try.func51, Try.ntmps51
  go_wp2
  go_end0
  exact ⟨rfl, rfl⟩

/-- what is told by a panic of package C -/
abbrev wrongC (at_ e : Int) : List PanicEntry := [{ v := .iface 91 (.agg #[.int .i64 at_, .int .i64 e]), recovered := false }]

theorem hmi91 (v : Value) (W : World) : (Instr.makeInterface 91 v).run Try.prog W = .ok (.iface 91 v) W := by kernel_rfl
theorem mustC_false (at_ e : Int) (w : World) : Calls Try.prog 51 #[.bool false, .int .i64 at_, .int .i64 e] w fun x w' => x = .panicked (wrongC at_ e) ∧ w' = w := by
  go_enter Try.func51, Try.ntmps51
  go_wp2
  exact ⟨rfl, rfl, rfl⟩

theorem catchC_idle (p q : Addr) (w : World) :
    CallsD Try.prog 50 #[.pointer (some p), .pointer (some q)] .returning w fun e u' w' => e = .returned (.tuple #[]) ∧ u' = .returning ∧ w' = w := by
  refine callsD_of_wpS Try.func50 rfl fun c₀ cs hu => ?_
  apply wpS_seq
  apply wpS_region
  simp only [Try.ntmps50]
  rw [tmps21 p q]
  simp [wpOpsS, go_sem, recoverD, hu, Exit.thenS]
  refine wpS_of_wp ?_
  go_wp2
  cases c₀
  simp_all [bodyPostS, results, Try.results50]

theorem hta91 (v : Value) (W : World) : (Instr.typeAssert (.iface 91 v) 20 91 true).run Try.prog W = .ok (.tuple #[v, .bool true]) W := by kernel_rfl
theorem catchC_panicking (p q : Addr) (x y : Value) (at_ er : Int) (older : List PanicEntry) (w : World) (hc : w.cell? p = some x) (hz : w.frozen? p = false) (hc2 : w.cell? q = some y) (hz2 : w.frozen? q = false) (hpq : p.block ≠ q.block) (hp : p.block < w.heap.size) (hq : q.block < w.heap.size) :
    CallsD Try.prog 50 #[.pointer (some p), .pointer (some q)] (.panicking ({ v := .iface 91 (.agg #[.int .i64 at_, .int .i64 er]), recovered := false } :: older)) w fun e u' w' =>
      e = .returned (.tuple #[]) ∧ u' = .panicking ({ v := .iface 91 (.agg #[.int .i64 at_, .int .i64 er]), recovered := true } :: older) ∧ w' = (((w.alloc (.cells #[.int .i64 at_, .int .i64 er] 91)).setCell p (.int .i64 at_)).setCell q (.int .i64 er)).drew := by
  have k1 := (cell_alloc w (.cells #[.int .i64 at_, .int .i64 er] 91) p hp).trans hc
  have k2 := (frozen_alloc w (.cells #[.int .i64 at_, .int .i64 er] 91) p hp).trans hz
  have k3 := (cell_other (w.alloc (.cells #[.int .i64 at_, .int .i64 er] 91)) p q (.int .i64 at_) (Ne.symm hpq)).trans ((cell_alloc w (.cells #[.int .i64 at_, .int .i64 er] 91) q hq).trans hc2)
  have k4 := (frozen_other (w.alloc (.cells #[.int .i64 at_, .int .i64 er] 91)) p q (.int .i64 at_) (Ne.symm hpq)).trans ((frozen_alloc w (.cells #[.int .i64 at_, .int .i64 er] 91) q hq).trans hz2)
  have k5 : ((w.alloc (.cells #[.int .i64 at_, .int .i64 er] 91)).setCell p (.int .i64 at_)).cell? ⟨w.heap.size, 0, none⟩ = some (.int .i64 at_) := by
    rw [cell_other _ _ _ _ (show w.heap.size ≠ p.block by omega)]; simp
  have k6 : ((w.alloc (.cells #[.int .i64 at_, .int .i64 er] 91)).setCell p (.int .i64 at_)).cell? ⟨w.heap.size, 1, none⟩ = some (.int .i64 er) := by
    rw [cell_other _ _ _ _ (show w.heap.size ≠ p.block by omega)]; simp
  refine callsD_of_wpS Try.func50 rfl fun c₀ cs hu => ?_
  apply wpS_seq
  apply wpS_region
  simp only [Try.ntmps50]
  rw [tmps21 p q]
  simp [wpOpsS, go_sem, recoverD, hu, Exit.thenS]
  clear hu
  refine wpS_of_wp ?_
  have hta := hta91
  go_wp2
  go_region
  go_wp2
  exact ⟨rfl, _, rfl, _, by simp [results, Try.results50, go_sem], rfl, rfl, rfl⟩

theorem mustR_true (at_ e : Int) (w : World) : Calls Try.prog 43 #[.bool true, .int .i64 at_, .int .i64 e] w fun x w' => x = .returned (.tuple #[]) ∧ w' = w := by
  go_enter Try.func43, Try.ntmps43
  go_wp2
  go_end0
  exact ⟨rfl, rfl⟩

/-- what is told by a panic of package R -/
abbrev wrongR (at_ e : Int) : List PanicEntry := [{ v := .iface 85 (.agg #[.int .i64 at_, .int .i64 e]), recovered := false }]

theorem hmi85 (v : Value) (W : World) : (Instr.makeInterface 85 v).run Try.prog W = .ok (.iface 85 v) W := by kernel_rfl
theorem mustR_false (at_ e : Int) (w : World) : Calls Try.prog 43 #[.bool false, .int .i64 at_, .int .i64 e] w fun x w' => x = .panicked (wrongR at_ e) ∧ w' = w := by
  go_enter Try.func43, Try.ntmps43
  go_wp2
  exact ⟨rfl, rfl, rfl⟩

theorem catchR_idle (p q : Addr) (w : World) :
    CallsD Try.prog 41 #[.pointer (some p), .pointer (some q)] .returning w fun e u' w' => e = .returned (.tuple #[]) ∧ u' = .returning ∧ w' = w := by
  refine callsD_of_wpS Try.func41 rfl fun c₀ cs hu => ?_
  apply wpS_seq
  apply wpS_region
  simp only [Try.ntmps41]
  rw [tmps21 p q]
  simp [wpOpsS, go_sem, recoverD, hu, Exit.thenS]
  refine wpS_of_wp ?_
  go_wp2
  cases c₀
  simp_all [bodyPostS, results, Try.results41]

theorem hta85 (v : Value) (W : World) : (Instr.typeAssert (.iface 85 v) 20 85 true).run Try.prog W = .ok (.tuple #[v, .bool true]) W := by kernel_rfl
theorem catchR_panicking (p q : Addr) (x y : Value) (at_ er : Int) (older : List PanicEntry) (w : World) (hc : w.cell? p = some x) (hz : w.frozen? p = false) (hc2 : w.cell? q = some y) (hz2 : w.frozen? q = false) (hpq : p.block ≠ q.block) (hp : p.block < w.heap.size) (hq : q.block < w.heap.size) :
    CallsD Try.prog 41 #[.pointer (some p), .pointer (some q)] (.panicking ({ v := .iface 85 (.agg #[.int .i64 at_, .int .i64 er]), recovered := false } :: older)) w fun e u' w' =>
      e = .returned (.tuple #[]) ∧ u' = .panicking ({ v := .iface 85 (.agg #[.int .i64 at_, .int .i64 er]), recovered := true } :: older) ∧ w' = (((w.alloc (.cells #[.int .i64 at_, .int .i64 er] 85)).setCell p (.int .i64 at_)).setCell q (.int .i64 er)).drew := by
  have k1 := (cell_alloc w (.cells #[.int .i64 at_, .int .i64 er] 85) p hp).trans hc
  have k2 := (frozen_alloc w (.cells #[.int .i64 at_, .int .i64 er] 85) p hp).trans hz
  have k3 := (cell_other (w.alloc (.cells #[.int .i64 at_, .int .i64 er] 85)) p q (.int .i64 at_) (Ne.symm hpq)).trans ((cell_alloc w (.cells #[.int .i64 at_, .int .i64 er] 85) q hq).trans hc2)
  have k4 := (frozen_other (w.alloc (.cells #[.int .i64 at_, .int .i64 er] 85)) p q (.int .i64 at_) (Ne.symm hpq)).trans ((frozen_alloc w (.cells #[.int .i64 at_, .int .i64 er] 85) q hq).trans hz2)
  have k5 : ((w.alloc (.cells #[.int .i64 at_, .int .i64 er] 85)).setCell p (.int .i64 at_)).cell? ⟨w.heap.size, 0, none⟩ = some (.int .i64 at_) := by
    rw [cell_other _ _ _ _ (show w.heap.size ≠ p.block by omega)]; simp
  have k6 : ((w.alloc (.cells #[.int .i64 at_, .int .i64 er] 85)).setCell p (.int .i64 at_)).cell? ⟨w.heap.size, 1, none⟩ = some (.int .i64 er) := by
    rw [cell_other _ _ _ _ (show w.heap.size ≠ p.block by omega)]; simp
  refine callsD_of_wpS Try.func41 rfl fun c₀ cs hu => ?_
  apply wpS_seq
  apply wpS_region
  simp only [Try.ntmps41]
  rw [tmps21 p q]
  simp [wpOpsS, go_sem, recoverD, hu, Exit.thenS]
  clear hu
  refine wpS_of_wp ?_
  have hta := hta85
  go_wp2
  go_region
  go_wp2
  exact ⟨rfl, _, rfl, _, by simp [results, Try.results41, go_sem], rfl, rfl, rfl⟩
end Go.Proofs.Ytjbljblhbmfbpaa
