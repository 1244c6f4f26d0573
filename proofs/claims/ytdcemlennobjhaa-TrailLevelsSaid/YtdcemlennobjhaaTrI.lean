/-
  A set of numbers kept in a map of this program, and the walks of the closure in Sound and of slices.ContainsFunc over it. Conditions: as each statement has them.
-/
import Derived.Test.YtdcemlennobjhaaTrH
import Derived.Maps.OwnOps
import Derived.Maps.Views
import Derived.Carry
namespace Go.Proofs.Ytdcemlennobjhaa.Tr
open Go.RowKit Go.Proofs.YtdcemlennobjhaaW.PrintWords Go.Proofs.YtdcemlennobjhaaW.PrintLast Go.Proofs.YtdcemlennobjhaaW.PrintMore Go.Proofs.Ytdcemlennobjhaa.PTrailPlays
set_option linter.unusedSimpArgs false
set_option linter.unusedVariables false

/-- block m is a map in which just the numbers of xs are true -/
def Ahead (w : World) (m n : Nat) (xs : List Int) : Prop :=
  ∃ D : DataW Unit, w.ownsMap Try.prog 3 (plainElem Try.prog 4) m n D ∧ Maps.IsMap D ∧ ∀ y, (Lit.int .i64 y).wf = true → D.atKey (.int .i64 y) (.lit (.bool false)) = .lit (.bool (decide (y ∈ xs)))
theorem zero4 (w : World) : (zeroValue 4).run Try.prog w = .ok (.bool false) w := by kernel_rfl
theorem u3 : Try.prog.underlying 3 = some (.int .i64) := by kernel_rfl
theorem u4 : Try.prog.underlying 4 = some .bool := by kernel_rfl
theorem u76 : Try.prog.underlying 76 = some (.map 3 4) := by kernel_rfl
theorem Ahead.made (w : World) : Ahead (w.alloc (.map #[] 0)) w.heap.size 0 [] :=
  ⟨.map [], World.ownsMap_made _ _ _ _, ⟨[], rfl⟩, fun y _ => by rw [WideAt.atKey_none _ (fun p hp => by cases hp)]; simp⟩
theorem Ahead.kept {w w' : World} {m n : Nat} {xs : List Int} (h : Ahead w m n xs) {row : Option Nat} (hg : w.grownBy w' row) (hne : some m ≠ row) : Ahead w' m n xs := by
  obtain ⟨D, h1, h2, h3⟩ := h
  exact ⟨D, h1.kept hg hne, h2, h3⟩
theorem Ahead.below {w w' : World} {m n : Nat} {xs : List Int} (h : Ahead w m n xs) (hb : Below w.heap.size w w') : Ahead w' m n xs := h.kept (grown_of_below hb none) (by simp)
theorem Ahead.lt {w : World} {m n : Nat} {xs : List Int} (h : Ahead w m n xs) : m < w.heap.size := by
  obtain ⟨D, h1, _⟩ := h
  exact h1.lt
theorem plainElem_bool_inv {v : Value} {z : DataW Unit × List MemPlace} (h : plainElem Try.prog 4 v = some z) : ∃ x, v = .bool x ∧ z = (.lit (.bool x), []) := by
  unfold plainElem at h
  rw [u4] at h
  cases v <;> simp at h
  exact ⟨_, rfl, h.symm⟩
theorem Ahead.look {w : World} {m n : Nat} {xs : List Int} (h : Ahead w m n xs) (y : Int) (hy : (Lit.int .i64 y).wf = true) : (Instr.lookup 76 (.map (some m)) (.int .i64 y) false).run Try.prog w = .ok (.bool (decide (y ∈ xs))) w := by
  obtain ⟨D, h1, _, h3⟩ := h
  obtain ⟨v, ps, hrun, hv⟩ := h1.lookup (Maps.int_keyed u3) u76 (zero4 w) (plainElem_bool u4 false) (Maps.keyOf_int_mk u3 hy)
  rw [h3 y hy] at hv
  obtain ⟨x, rfl, hx⟩ := plainElem_bool_inv hv
  simp only [Prod.mk.injEq] at hx
  have : decide (y ∈ xs) = x := by
    have := hx.1
    injection this with this
    injection this
  rw [this]
  exact hrun
theorem Ahead.put {w : World} {m n : Nat} {xs : List Int} (h : Ahead w m n xs) (hn : n < maxLen) (y : Int) (hy : (Lit.int .i64 y).wf = true) :
    ∃ w', (Instr.mapUpdate 76 (.map (some m)) (.int .i64 y) (.bool true)).run Try.prog w = .ok () w' ∧ Ahead w' m (n + 1) (xs ++ [y]) ∧ w.grownBy w' (some m) := by
  obtain ⟨D, h1, h2, h3⟩ := h
  obtain ⟨w', hrun, h4, h5⟩ := h1.update (Maps.int_keyed u3) u76 hn (Maps.keyOf_int_mk u3 hy) (plainElem_bool u4 true)
  refine ⟨w', hrun, ⟨_, h4, h2.put _ _, fun z hz => ?_⟩, h5⟩
  by_cases e : z = y
  · subst e
    rw [Maps.atKey_put_same h2 (by trivial)]
    simp
  · rw [Maps.atKey_put_other (by intro he; injection he with _ he; exact e he), h3 z hz]
    simp [e]
theorem wf_i64 {y : Int} (h : -9223372036854775808 ≤ y ∧ y ≤ 9223372036854775807) : (Lit.int .i64 y).wf = true := by
  simp [Lit.wf, IntKind.min, IntKind.max, IntKind.bits, IntKind.signed]
  omega

/-- is a literal not x, nor its contrary ahead? -/
def lacks (xs : List Int) (x y : Int) : Bool := decide (y ≠ x) && !(decide (-y ∈ xs))
set_option maxRecDepth 100000 in
theorem closure_any {w : World} {m n : Nat} {xs : List Int} (hM : Ahead w m n xs) (px pm : Addr) (x y : Int) (hx : w.cell? px = some (.int .i64 x)) (hm : w.cell? pm = some (.map (some m))) (hy : -1000000 ≤ y ∧ y ≤ 1000000) :
    Calls Try.prog 45 #[.int .i64 y, .pointer (some px), .pointer (some pm)] w fun e w' => e = .returned (.bool (lacks xs x y)) ∧ w = w' := by
  have hl := hM.look (-y) (wf_i64 ⟨by omega, by omega⟩)
  have hw : IntKind.i64.wrap (-y) = -y := IntWalk.i64_in _ ⟨by omega, by omega⟩
  unfold lacks
  obtain ⟨q, hq⟩ : ∃ q, decide (-y ∈ xs) = q := ⟨_, rfl⟩
  rw [hq] at hl ⊢
  clear hq hM
  by_cases h : y = x
  · have e1 : (y != x) = false := bne_eq_false_iff_eq.mpr h
    have e2 : decide (y ≠ x) = false := decide_eq_false (fun hn => hn h)
    rw [e2]
    clear e2 h
    go_enter Try.func45, Try.ntmps45
    go_wp2
    go_ret
    exact ⟨rfl, rfl⟩
  · have e1 : (y != x) = true := bne_iff_ne.mpr h
    have e2 : decide (y ≠ x) = true := decide_eq_true h
    rw [e2]
    clear e2 h
    go_enter Try.func45, Try.ntmps45
    go_wp2
    go_ret
    exact ⟨by cases q <;> rfl, rfl⟩
theorem at_lit' (w : World) (A : Option Addr) (xs : List Int) (hc : Kd.C (Kd.int .i64) w A xs.length xs) (k : Nat) (hk : k < xs.length) : ∃ ad, A = some ad ∧ w.cell? (ad.add k) = some (.int .i64 (xs.getD k 0)) := by
  obtain ⟨ad, e, h⟩ := Kd.at_int hc (k : Int) (by omega) (by omega)
  exact ⟨ad, e, by simpa [rd] using h⟩
theorem index_func {w : World} {m n : Nat} {xs : List Int} (hM : Ahead w m n xs) (px pm : Addr) (x : Int) (hx : w.cell? px = some (.int .i64 x)) (hm : w.cell? pm = some (.map (some m))) (A : Option Addr) (c : List Int) (cc : Nat) (hC : Kd.C (Kd.int .i64) w A c.length c) (hy : ∀ y ∈ c, -1000000 ≤ y ∧ y ≤ 1000000) :
    Calls Try.prog 47 #[.slice A c.length cc, .func (.func 45) #[] #[.pointer (some px), .pointer (some pm)]] w fun e w' => ∃ r : Int, e = .returned (.int .i64 r) ∧ decide (0 ≤ r) = c.any (lacks xs x) ∧ w = w' := by
  have hmax := Kd.C_max hC
  have HC := Lib.hid hC
  have HX := Lib.hid (fun y hy => closure_any hM px pm x y hx hm hy)
  have HY := Lib.hid hy
  clear hC hx hm hM hy
  go_enter Try.func47, Try.ntmps47
  go_wp2_with fail
  go_loop [8] (fun t => ∃ k : Nat, k ≤ c.length ∧ t = .int .i64 k ∧ Hid ((c.drop k).any (lacks xs x) = c.any (lacks xs x))) (fun t => c.length - (intOf t).toNat)
  case atStart => exact ⟨0, Nat.zero_le _, rfl, Lib.hid (by simp)⟩
  case round =>
    obtain ⟨k, hk, rfl, HA⟩ := hrel
    by_cases hlt : k < c.length
    · obtain ⟨ad, rfl, hcell⟩ := at_lit' w A c HC.out k hlt
      obtain ⟨y, hyx⟩ : ∃ y, c.getD k 0 = y := ⟨_, rfl⟩
      have hdrop : c.drop k = y :: c.drop (k + 1) := by
        rw [List.drop_eq_getElem_cons hlt, ← hyx, List.getD_eq_getElem?_getD, List.getElem?_eq_getElem hlt]; simp
      have hcl := HX.out y (HY.out y (by rw [← hyx, List.getD_eq_getElem?_getD, List.getElem?_eq_getElem hlt]; exact List.getElem_mem hlt))
      rw [hyx] at hcell
      have ha := HA.out
      rw [hdrop, List.any_cons] at ha
      have hxlt : (k : Int) < (c.length : Int) := by omega
      obtain ⟨q, hq⟩ : ∃ q, lacks xs x y = q := ⟨_, rfl⟩
      rw [hq] at ha hcl
      have HCL := Lib.hid hcl
      have HA2 := Lib.hid ha
      clear hcl ha hdrop hyx hq HA
      cases q with
      | true =>
        go_wp2_with ((with_reducible refine HCL.out.mono ?_); rintro e w' ⟨rfl, rfl⟩)
        go_ret
        exact ⟨_, rfl, by rw [← HA2.out]; exact decide_eq_true (Int.natCast_nonneg k), rfl⟩
      | false =>
        go_wp2_with ((with_reducible refine HCL.out.mono ?_); rintro e w' ⟨rfl, rfl⟩)
        exact ⟨⟨k + 1, hlt, by go_num, Lib.hid HA2.out⟩, by simp only [intOf]; omega⟩
    · obtain rfl : k = c.length := by omega
      have ha := HA.out
      rw [List.drop_length] at ha
      have HA2 := Lib.hid ha
      clear HA ha
      go_wp2_with fail
      go_ret
      exact ⟨_, rfl, by rw [← HA2.out]; rfl, rfl⟩
theorem contains_func {w : World} {m n : Nat} {xs : List Int} (hM : Ahead w m n xs) (px pm : Addr) (x : Int) (hx : w.cell? px = some (.int .i64 x)) (hm : w.cell? pm = some (.map (some m))) (A : Option Addr) (c : List Int) (cc : Nat) (hC : Kd.C (Kd.int .i64) w A c.length c) (hy : ∀ y ∈ c, -1000000 ≤ y ∧ y ≤ 1000000) :
    Calls Try.prog 44 #[.slice A c.length cc, .func (.func 45) #[] #[.pointer (some px), .pointer (some pm)]] w fun e w' => e = .returned (.bool (c.any (lacks xs x))) ∧ w' = w := by
  have HI := Lib.hid (index_func hM px pm x hx hm A c cc hC hy)
  clear hx hm hM hC hy
  go_enter Try.func44, Try.ntmps44
  go_wp2_with fail
  refine HI.out.mono ?_
  rintro e w' ⟨r, rfl, hr, rfl⟩
  have HR := Lib.hid hr
  clear hr
  by_cases hz : 0 ≤ r
  · have hzb : decide (0 ≤ r) = true := decide_eq_true hz
    go_wp2_with fail
    go_ret
    exact ⟨by rw [← HR.out, hzb]; rfl, rfl⟩
  · have hzb : decide (0 ≤ r) = false := decide_eq_false hz
    go_wp2_with fail
    go_ret
    exact ⟨by rw [← HR.out, hzb]; rfl, rfl⟩
theorem index_eq (w : World) (x : Int) (A : Option Addr) (c : List Int) (cc : Nat) (hC : Kd.C (Kd.int .i64) w A c.length c) :
    Calls Try.prog 46 #[.slice A c.length cc, .int .i64 x] w fun e w' => ∃ r : Int, e = .returned (.int .i64 r) ∧ decide (0 ≤ r) = c.any (fun y => x == y) ∧ w = w' := by
  have hmax := Kd.C_max hC
  have HC := Lib.hid hC
  clear hC
  go_enter Try.func46, Try.ntmps46
  go_wp2_with fail
  go_loop [8] (fun t => ∃ k : Nat, k ≤ c.length ∧ t = .int .i64 k ∧ Hid ((c.drop k).any (fun y => x == y) = c.any (fun y => x == y))) (fun t => c.length - (intOf t).toNat)
  case atStart => exact ⟨0, Nat.zero_le _, rfl, Lib.hid (by simp)⟩
  case round =>
    obtain ⟨k, hk, rfl, HA⟩ := hrel
    by_cases hlt : k < c.length
    · obtain ⟨ad, rfl, hcell⟩ := at_lit' w A c HC.out k hlt
      obtain ⟨y, hyx⟩ : ∃ y, c.getD k 0 = y := ⟨_, rfl⟩
      have hdrop : c.drop k = y :: c.drop (k + 1) := by
        rw [List.drop_eq_getElem_cons hlt, ← hyx, List.getD_eq_getElem?_getD, List.getElem?_eq_getElem hlt]; simp
      rw [hyx] at hcell
      have ha := HA.out
      rw [hdrop, List.any_cons] at ha
      have hxlt : (k : Int) < (c.length : Int) := by omega
      have HA2 := Lib.hid ha
      clear ha hdrop hyx HA
      by_cases hxy : x = y
      · have e1 : (x == y) = true := beq_iff_eq.mpr hxy
        have HA3 := Lib.hid (show true = c.any (fun y => x == y) by rw [← HA2.out, e1]; rfl)
        clear hxy HA2
        go_wp2_with fail
        go_ret
        exact ⟨_, rfl, by rw [← HA3.out]; exact decide_eq_true (Int.natCast_nonneg k), rfl⟩
      · have e1 : (x == y) = false := beq_eq_false_iff_ne.mpr hxy
        have HA3 := Lib.hid (show (c.drop (k + 1)).any (fun y => x == y) = c.any (fun y => x == y) by rw [← HA2.out, e1]; rfl)
        clear hxy HA2
        go_wp2_with fail
        exact ⟨⟨k + 1, hlt, by go_num, HA3⟩, by simp only [intOf]; omega⟩
    · obtain rfl : k = c.length := by omega
      have ha := HA.out
      rw [List.drop_length] at ha
      have HA2 := Lib.hid ha
      clear HA ha
      go_wp2_with fail
      go_ret
      exact ⟨_, rfl, by rw [← HA2.out]; rfl, rfl⟩
theorem contains_eq (w : World) (x : Int) (A : Option Addr) (c : List Int) (cc : Nat) (hC : Kd.C (Kd.int .i64) w A c.length c) :
    Calls Try.prog 43 #[.slice A c.length cc, .int .i64 x] w fun e w' => e = .returned (.bool (c.any (fun y => x == y))) ∧ w' = w := by
  have HI := Lib.hid (index_eq w x A c cc hC)
  clear hC
  go_enter Try.func43, Try.ntmps43
  go_wp2_with fail
  refine HI.out.mono ?_
  rintro e w' ⟨r, rfl, hr, rfl⟩
  have HR := Lib.hid hr
  clear hr
  by_cases hz : 0 ≤ r
  · have hzb : decide (0 ≤ r) = true := decide_eq_true hz
    go_wp2_with fail
    go_ret
    exact ⟨by rw [← HR.out, hzb]; rfl, rfl⟩
  · have hzb : decide (0 ≤ r) = false := decide_eq_false hz
    go_wp2_with fail
    go_ret
    exact ⟨by rw [← HR.out, hzb]; rfl, rfl⟩
theorem hmf45 (p q : Addr) (W : World) : (Instr.makeFunc (.func 45) #[] #[.pointer (some p), .pointer (some q)]).run Try.prog W = .ok (.func (.func 45) #[] #[.pointer (some p), .pointer (some q)]) W := by kernel_rfl
/-- a number put into the set, at the operation -/
theorem wpList_ahead (w : World) {ops : Array Oper} {rest : List Oper} {o : Oper} {a : Act} {Q : Exit → Act → World → Prop}
    (hg : o.guard = none) (p x v : Operand) (hop : o.op = Op.mapUpdate 76 p x v) (m n : Nat) (xs : List Int) (y : Int) (hm : a.eval p = .map (some m)) (hx : a.eval x = .int .i64 y) (hv : a.eval v = .bool true)
    (h : Ahead w m n xs) (hn : n < maxLen) (hy : (Lit.int .i64 y).wf = true)
    (hK : ∀ w', Ahead w' m (n + 1) (xs ++ [y]) → w.grownBy w' (some m) → wpList Try.prog ops Q rest (a.put o.dst undef) w') :
    wpList Try.prog ops Q (o :: rest) a w := by
  refine wpList_plain hg fun K' hK' => ?_
  obtain ⟨w', hrun, r1, r2⟩ := h.put hn y hy
  unfold Oper.wp
  simp [execOp, hop, hm, hx, hv, hrun, Result.andThen]
  exact hK' _ _ (hK w' r1 r2)
end Go.Proofs.Ytdcemlennobjhaa.Tr
