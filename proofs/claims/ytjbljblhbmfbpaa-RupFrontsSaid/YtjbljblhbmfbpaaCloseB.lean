/-
  The deferred catch of package prop, and Close's two doors.
-/
import Derived.Test.YtjbljblhbmfbpaaCloseA
import Derived.Deep.DeepCutAuto
namespace Go.Proofs.Ytjbljblhbmfbpaa
open Go.RowKit Prop15 Go.Proofs.YtjbljblhbmfbpaaW.PrintWords

theorem catch_idle (p q : Addr) (w : World) :
    CallsD Try.prog 35 #[.pointer (some p), .pointer (some q)] .returning w fun e u' w' => e = .returned (.tuple #[]) ∧ u' = .returning ∧ w' = w := by
  refine callsD_of_wpS Try.func35 rfl fun c₀ cs hu => ?_
  apply wpS_seq
  apply wpS_region
  simp only [Try.ntmps35]
  change wpOpsS _ _ _ _ { tmps := #[.pointer (some p), .pointer (some q), undef, undef, undef, undef, undef, undef, undef, undef, undef, undef, undef, undef, undef, undef, undef], defers := [] } _ _
  simp [wpOpsS, go_sem, recoverD, hu, Exit.thenS]
  refine wpS_of_wp ?_
  go_wp2
  cases c₀
  simp_all [bodyPostS, results, Try.results35]
theorem cell_alloc (w : World) (o : Obj) (p : Addr) (h : p.block < w.heap.size) : (w.alloc o).cell? p = w.cell? p := ((Below.refl w.heap.size w).alloc (Nat.le_refl _) o).cell h
theorem frozen_alloc (w : World) (o : Obj) (p : Addr) (h : p.block < w.heap.size) : (w.alloc o).frozen? p = w.frozen? p := ((Below.refl w.heap.size w).alloc (Nat.le_refl _) o).frozen h
theorem cell_other (w : World) (p q : Addr) (u : Value) (h : q.block ≠ p.block) : (w.setCell p u).cell? q = w.cell? q := World.cell?_of_block (Below.heap_setCell w p u q.block h)
theorem frozen_other (w : World) (p q : Addr) (u : Value) (h : q.block ≠ p.block) : (w.setCell p u).frozen? q = w.frozen? q := World.frozen?_of_block (Below.heap_setCell w p u q.block h)
theorem hta82 (v : Value) (W : World) : (Instr.typeAssert (.iface 82 v) 20 82 true).run Try.prog W = .ok (.tuple #[v, .bool true]) W := by kernel_rfl
theorem catch_panicking (p q : Addr) (x y : Value) (older : List PanicEntry) (w : World) (hc : w.cell? p = some x) (hz : w.frozen? p = false) (hc2 : w.cell? q = some y) (hz2 : w.frozen? q = false) (hpq : p.block ≠ q.block) (hp : p.block < w.heap.size) (hq : q.block < w.heap.size) :
    CallsD Try.prog 35 #[.pointer (some p), .pointer (some q)] (.panicking ({ v := .iface 82 (.agg #[]), recovered := false } :: older)) w fun e u' w' =>
      e = .returned (.tuple #[]) ∧ u' = .panicking ({ v := .iface 82 (.agg #[]), recovered := true } :: older) ∧ w' = (((w.alloc (.cells #[] 82)).setCell p (.slice none 0 0)).setCell q (.bool true)) := by
  have k1 := (cell_alloc w (.cells #[] 82) p hp).trans hc
  have k2 := (frozen_alloc w (.cells #[] 82) p hp).trans hz
  have k3 := (cell_other (w.alloc (.cells #[] 82)) p q (.slice none 0 0) (Ne.symm hpq)).trans ((cell_alloc w (.cells #[] 82) q hq).trans hc2)
  have k4 := (frozen_alloc w (.cells #[] 82) q hq).trans hz2
  refine callsD_of_wpS Try.func35 rfl fun c₀ cs hu => ?_
  apply wpS_seq
  apply wpS_region
  simp only [Try.ntmps35]
  change wpOpsS _ _ _ _ { tmps := #[.pointer (some p), .pointer (some q), undef, undef, undef, undef, undef, undef, undef, undef, undef, undef, undef, undef, undef, undef, undef], defers := [] } _ _
  simp [wpOpsS, go_sem, recoverD, hu, Exit.thenS]
  clear hu
  refine wpS_of_wp ?_
  have hta := hta82
  go_wp2
  exact ⟨rfl, _, rfl, _, by simp [results, Try.results35, go_sem], rfl, rfl, rfl⟩

theorem info67 : (Try.prog.info? 67).map (fun i => (i.zero, i.size, i.bytes)) = some (some (.int .i8 0), 1, 1) := by kernel_rfl
theorem info3 : (Try.prog.info? 3).map (fun i => (i.zero, i.size, i.bytes)) = some (some (.int .i64 0), 1, 8) := by kernel_rfl

def ClosePost (w : World) (r1 : List Int) (r2 : Bool) (e : Ending) (w' : World) : Prop :=
  ∃ v0_ : Value, e = .returned (.tuple #[v0_, .bool r2]) ∧ Kd.R (Kd.int .i64) 3 w' w.heap.size (fun _ => True) v0_ r1 ∧ Below w.heap.size w w'

/-- the door, where all is against itself -/
theorem door_panic {R : Ending → World → Prop} {w : World} (hR : ∀ e w'', ClosePost w [] true e w'' → R e w'') (tmps : Array Value) (ds : List Deferred) (w' : World)
    (hds : ds = [{ target := .fn (.func 35) #[], args := #[.pointer (some ⟨w.heap.size, 0, none⟩), .pointer (some ⟨w.heap.size + 1, 0, none⟩)] }])
    (h6 : tmps[6]?.getD undef = .pointer (some ⟨w.heap.size, 0, none⟩)) (h7 : tmps[7]?.getD undef = .pointer (some ⟨w.heap.size + 1, 0, none⟩))
    (hb : Below w.heap.size w w') (x y : Value) (hc : w'.cell? ⟨w.heap.size, 0, none⟩ = some x) (hz : w'.frozen? ⟨w.heap.size, 0, none⟩ = false)
    (hc2 : w'.cell? ⟨w.heap.size + 1, 0, none⟩ = some y) (hz2 : w'.frozen? ⟨w.heap.size + 1, 0, none⟩ = false) (hsz : w.heap.size + 1 < w'.heap.size) :
    Leaves Try.prog Try.f15 tmps R ds (.panicking agst) w' := by
  subst hds
  refine leaves_cons (f := 35) (args := #[.pointer (some ⟨w.heap.size, 0, none⟩), .pointer (some ⟨w.heap.size + 1, 0, none⟩)]) (by simp) (by simp [go_sem]) ?_
  refine (catch_panicking ⟨w.heap.size, 0, none⟩ ⟨w.heap.size + 1, 0, none⟩ x y [] w' hc hz hc2 hz2 (by simp) (by simp; omega) hsz).mono ?_
  rintro e u' w'' ⟨rfl, rfl, rfl⟩
  have g1 : ((((w'.alloc (.cells #[] 82)).setCell ⟨w.heap.size, 0, none⟩ (.slice none 0 0)).setCell ⟨w.heap.size + 1, 0, none⟩ (.bool true))).cell? ⟨w.heap.size, 0, none⟩ = some (.slice none 0 0) := by
    rw [cell_other _ _ _ _ (by simp)]
    exact World.cell?_setCell_same _ _ _ (((cell_alloc w' (.cells #[] 82) ⟨w.heap.size, 0, none⟩ (by simp; omega)).trans hc))
  have g2 : ((((w'.alloc (.cells #[] 82)).setCell ⟨w.heap.size, 0, none⟩ (.slice none 0 0)).setCell ⟨w.heap.size + 1, 0, none⟩ (.bool true))).cell? ⟨w.heap.size + 1, 0, none⟩ = some (.bool true) := by
    refine World.cell?_setCell_same _ _ _ (u := y) ?_
    rw [cell_other _ _ _ _ (by simp)]
    exact ((cell_alloc w' (.cells #[] 82) ⟨w.heap.size + 1, 0, none⟩ hsz).trans hc2)
  refine ⟨.tuple #[.slice none 0 0, .bool true], ?_, hR _ _ ⟨_, rfl, Kd.R_nil _ _ _ _ _, ?_⟩⟩
  · simp [results, Try.results15, go_sem, h6, h7, g1, g2]
  · exact ((hb.alloc hb.size _).setCell (p := ⟨w.heap.size, 0, none⟩) (Nat.le_refl _) _).setCell (p := ⟨w.heap.size + 1, 0, none⟩) (by simp) _

theorem door_return {R : Ending → World → Prop} {w : World} {r1 : List Int} (hR : ∀ e w'', ClosePost w r1 false e w'' → R e w'') (tmps : Array Value) (ds : List Deferred) (w' : World)
    (hds : ds = [{ target := .fn (.func 35) #[], args := #[.pointer (some ⟨w.heap.size, 0, none⟩), .pointer (some ⟨w.heap.size + 1, 0, none⟩)] }])
    (h6 : tmps[6]?.getD undef = .pointer (some ⟨w.heap.size, 0, none⟩)) (h7 : tmps[7]?.getD undef = .pointer (some ⟨w.heap.size + 1, 0, none⟩))
    (hb : Below w.heap.size w w') (x : Value) (hc : w'.cell? ⟨w.heap.size, 0, none⟩ = some x) (hx : Kd.R (Kd.int .i64) 3 w' w.heap.size (fun _ => True) x r1)
    (hc2 : w'.cell? ⟨w.heap.size + 1, 0, none⟩ = some (.bool false)) :
    Leaves Try.prog Try.f15 tmps R ds .returning w' := by
  subst hds
  refine leaves_cons (f := 35) (args := #[.pointer (some ⟨w.heap.size, 0, none⟩), .pointer (some ⟨w.heap.size + 1, 0, none⟩)]) (by simp) (by simp [go_sem]) ?_
  refine (catch_idle ⟨w.heap.size, 0, none⟩ ⟨w.heap.size + 1, 0, none⟩ w').mono ?_
  rintro e u' w'' ⟨rfl, rfl, rfl⟩
  refine ⟨.tuple #[x, .bool false], ?_, hR _ _ ⟨_, rfl, hx, hb⟩⟩
  simp [results, Try.results15, go_sem, h6, h7, hc, hc2]

theorem at_row (w : World) (A : Option Addr) (ls : List (List Int)) (hc : Kd.C (Kd.slice 3 (Kd.int .i64)) w A ls.length ls) (k : Nat) (hk : k < ls.length) :
    ∃ ad Ac cc, A = some ad ∧ w.cell? (ad.add k) = some (.slice Ac (ls.getD k []).length cc) ∧ (ls.getD k []).length ≤ cc ∧ Kd.C (Kd.int .i64) w Ac (ls.getD k []).length (ls.getD k []) := by
  obtain ⟨ad, c, h1, h2, ⟨Ac, cc, h3, h4, h5⟩, h6⟩ := Kd.C_get hc [] (k : Int) (by omega) (by omega)
  simp only [Int.toNat_natCast] at h3 h4 h5 h6
  refine ⟨ad, Ac, cc, h1, ?_, h4, h5⟩
  have := h6 0 (.slice Ac (ls.getD k []).length cc) (by rw [h3]; rfl)
  simpa [Kd.slice] using this

theorem R_below_set {α : Type} {d : Kd α} {e : Nat} {w : World} {base : Nat} {ok : Nat → Prop} {v : Value} {xs : List α} (h : Kd.R d e w base ok v xs) (p : Addr) (hp : p.block < base) (u : Value) : Kd.R d e (w.setCell p u) base ok v xs :=
  Kd.R_mono (Kd.R_far (p := p) (Kd.R_bound h) (fun k hk => by have := hk.2.1; omega) u) (fun _ hk => hk.1)

/-- what stays of the call's own two variables while it works -/
structure Box (w wr : World) : Prop where
  bel : Below w.heap.size w wr
  sz : w.heap.size + 1 < wr.heap.size
  cO : wr.cell? ⟨w.heap.size, 0, none⟩ = some (.slice none 0 0)
  zO : wr.frozen? ⟨w.heap.size, 0, none⟩ = false
  cI : wr.cell? ⟨w.heap.size + 1, 0, none⟩ = some (.bool false)
  zI : wr.frozen? ⟨w.heap.size + 1, 0, none⟩ = false
theorem Box.step {w wr wr' : World} {b : Nat} (h : Box w wr) (hb : Below b wr wr') (hbb : w.heap.size + 2 ≤ b) : Box w wr' :=
  ⟨h.bel.trans (hb.mono (by omega)), Nat.lt_of_lt_of_le h.sz hb.size, (hb.cell (by simp; omega)).trans h.cO, (hb.frozen (by simp; omega)).trans h.zO, (hb.cell (by simp; omega)).trans h.cI, (hb.frozen (by simp; omega)).trans h.zI⟩

end Go.Proofs.Ytjbljblhbmfbpaa
