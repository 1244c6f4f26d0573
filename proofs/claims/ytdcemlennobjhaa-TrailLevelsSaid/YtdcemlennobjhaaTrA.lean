/-
  A trail as plain lists, how memory holds one, and the walks of the small functions of package trail. Conditions: as each statement has them.
-/
import Derived.Test.YtdcemlennobjhaaPTrailPlaysx1
import Derived.Test.YtdcemlennobjhaaWMore
import Derived.Test.YtdcemlennobjhaaWLast
import Derived.Test.YtdcemlennobjhaaWTab
import Derived.Defers
import Derived.Recover
import Derived.RegionTactic
import Derived.Lib.Hide
import Derived.IntWalk
import Derived.Deep.LoopGhost
import Derived.WalkSpells
import Derived.WalkLawsBesides
namespace Go.Proofs.Ytdcemlennobjhaa.Tr
open Go.RowKit Go.Proofs.YtdcemlennobjhaaW.PrintWords Go.Proofs.YtdcemlennobjhaaW.PrintLast Go.Proofs.YtdcemlennobjhaaW.PrintMore Go.Proofs.Ytdcemlennobjhaa.PTrailPlays
set_option linter.unusedSimpArgs false
set_option linter.unusedVariables false

/-! ### plain -/
/-- a trail: by variable what is there; the literals; where the levels begin -/
structure TS where
  of : List S69
  l : List Int
  frm : List Int
def pl (T : TS) (x : Int) : S69 := T.of.getD x.natAbs z69
def kn (T : TS) (x : Int) : Bool := decide (x ≠ 0) && (decide (x < (T.of.length : Int)) && decide (-(T.of.length : Int) < x))
def put (T : TS) (x r : Int) : TS := ⟨T.of.set x.natAbs ⟨x, (T.frm.length : Int), r⟩, T.l ++ [x], T.frm⟩
def may (T : TS) (x : Int) : Int := if kn T x = true then (if (pl T x).f0 = 0 then 0 else 6) else 11
def decE (T : TS) (x : Int) : Int := may T x
def decT (T : TS) (x : Int) : TS := if may T x = 0 then put ⟨T.of, T.l, T.frm ++ [(T.l.length : Int)]⟩ x (-1) else T
def impE (T : TS) (x r : Int) : Int := if may T x = 0 then (if 0 ≤ r then 0 else 1) else may T x
def impT (T : TS) (x r : Int) : TS := if may T x = 0 ∧ 0 ≤ r then put T x r else T
def wipe (o : List S69) : List Int → List S69
  | [] => o
  | x :: r => wipe (o.set x.natAbs z69) r
def bacE (T : TS) (v : Int) : Int := if 0 ≤ v ∧ v ≤ T.frm.length then 0 else 1
def bacT (T : TS) (v : Int) : TS := if 0 ≤ v ∧ v < T.frm.length then ⟨wipe T.of (T.l.drop (T.frm.getD v.toNat 0).toNat), T.l.take (T.frm.getD v.toNat 0).toNat, T.frm.take v.toNat⟩ else T
def valT (T : TS) (x : Int) : Int := if kn T x = true then (if (pl T x).f0 = 0 then 0 else if (pl T x).f0 = x then 1 else -1) else 0
def isat (T : TS) (v : Int) : Bool := decide (1 ≤ v) && (decide (v < (T.of.length : Int)) && decide ((pl T v).f0 ≠ 0))
def lvlT (T : TS) (v : Int) : Int := if isat T v = true then (pl T v).f1 else -1
def reaT (T : TS) (v : Int) : Int := if isat T v = true then (pl T v).f2 else -1
/-- sizes, and that what is told may be looked up -/
structure Fine (T : TS) : Prop where
  n1 : 1 ≤ T.of.length
  n2 : T.of.length ≤ 257
  ll : T.l.length ≤ 100000
  fl : T.frm.length ≤ 100000
  lits : ∀ x ∈ T.l, x.natAbs < T.of.length
  frs : ∀ n ∈ T.frm, 0 ≤ n ∧ n ≤ T.l.length

/-! ### in memory -/
/-- a trail at block g; its blocks are from b on and among ok -/
def At (w : World) (b g : Nat) (ok : Nat → Prop) (T : TS) : Prop :=
  ∃ v0 v1 v2, w.heap[g]? = some (.cells #[v0, v1, v2] 61 (0, 0)) ∧ ok g ∧ b ≤ g ∧ Kd.R k69 69 w b ok v0 T.of ∧ Kd.R (Kd.int .i64) 3 w b (fun k => ok k ∧ some k ≠ v2.ownBlock) v1 T.l ∧ Kd.R (Kd.int .i64) 3 w b (fun k => ok k ∧ some k ≠ v1.ownBlock) v2 T.frm
/-- nothing but blocks of ok has changed -/
structure Fr (w w' : World) (ok : Nat → Prop) : Prop where
  os : w'.os = w.os
  tape : w'.tape = w.tape
  output : w'.output = w.output
  size : w.heap.size ≤ w'.heap.size
  block : ∀ k, k < w.heap.size → ¬ ok k → w'.heap[k]? = w.heap[k]?
theorem Fr.refl (w : World) (ok : Nat → Prop) : Fr w w ok := ⟨rfl, rfl, rfl, Nat.le_refl _, fun _ _ _ => rfl⟩
theorem Fr.below {w w' : World} (h : Below w.heap.size w w') (ok : Nat → Prop) : Fr w w' ok := ⟨h.os, h.tape, h.output, h.size, fun k hk _ => h.block k hk⟩
theorem Fr.trans {w w1 w2 : World} {ok ok1 : Nat → Prop} (h : Fr w w1 ok) (k : Fr w1 w2 ok1) (hok : ∀ k, k < w.heap.size → ok1 k → ok k) : Fr w w2 ok :=
  ⟨k.os.trans h.os, k.tape.trans h.tape, k.output.trans h.output, Nat.le_trans h.size k.size, fun i hi hn => (k.block i (Nat.lt_of_lt_of_le hi h.size) (fun hc => hn (hok i hi hc))).trans (h.block i hi hn)⟩
theorem Fr.mono {w w1 : World} {ok ok1 : Nat → Prop} (h : Fr w w1 ok) (hok : ∀ k, k < w.heap.size → ok k → ok1 k) : Fr w w1 ok1 :=
  ⟨h.os, h.tape, h.output, h.size, fun i hi hn => h.block i hi (fun hc => hn (hok i hi hc))⟩
theorem Fr.toBelow {w w1 : World} {ok : Nat → Prop} {b : Nat} (h : Fr w w1 ok) (hok : ∀ k, ok k → b ≤ k) (_hb : b ≤ w.heap.size) : Below b w w1 :=
  ⟨h.os, h.tape, h.output, h.size, fun i hi => h.block i (by omega) (fun hc => by have := hok i hc; omega)⟩
theorem Fr.grown {w w1 : World} {row : Option Nat} {ok : Nat → Prop} (h : w.grownBy w1 row) (hr : ∀ k, row = some k → ok k) : Fr w w1 ok :=
  ⟨h.os, h.tape, h.output, h.size, fun i hi hn => h.block i hi (fun he => hn (hr i he.symm))⟩
theorem Fr.set {w : World} {ok : Nat → Prop} (p : Addr) (v : Value) (hp : ok p.block) : Fr w (w.setCell p v) ok := by
  refine ⟨?_, ?_, ?_, ?_, fun k _ hn => Below.heap_setCell w p v k (fun e => hn (e ▸ hp))⟩
  · exact (Below.setCell (Below.refl 0 w) (Nat.zero_le _) v).os
  · exact (Below.setCell (Below.refl 0 w) (Nat.zero_le _) v).tape
  · exact (Below.setCell (Below.refl 0 w) (Nat.zero_le _) v).output
  · exact (Below.setCell (Below.refl 0 w) (Nat.zero_le _) v).size
theorem Fr.drew {w w' : World} {ok : Nat → Prop} (h : Fr w w' ok) : Fr w w'.drew ok := ⟨h.os, h.tape, h.output, h.size, h.block⟩
theorem Fr.alloc {w w' : World} {ok : Nat → Prop} (h : Fr w w' ok) (o : Obj) : Fr w (w'.alloc o) ok := h.trans (Fr.below (below_alloc (Below.refl _ _) o) ok) (fun _ _ h => h)

theorem At.lt {w : World} {b g : Nat} {ok : Nat → Prop} {T : TS} (h : At w b g ok T) : g < w.heap.size := by
  obtain ⟨v0, v1, v2, hb, _⟩ := h
  exact blk_lt hb
theorem At.mono {w : World} {b g : Nat} {ok ok' : Nat → Prop} {T : TS} (h : At w b g ok T) (hok : ∀ k, ok k → ok' k) : At w b g ok' T := by
  obtain ⟨v0, v1, v2, hb, hg, hbg, h0, h1, h2⟩ := h
  exact ⟨v0, v1, v2, hb, hok g hg, hbg, Kd.R_mono h0 hok, Kd.R_mono h1 (fun k hk => ⟨hok k hk.1, hk.2⟩), Kd.R_mono h2 (fun k hk => ⟨hok k hk.1, hk.2⟩)⟩
/-- its blocks lie in the heap, from b on -/
theorem At.bound {w : World} {b g : Nat} {ok : Nat → Prop} {T : TS} (h : At w b g ok T) : At w b g (fun k => ok k ∧ b ≤ k ∧ k < w.heap.size) T := by
  obtain ⟨v0, v1, v2, hb, hg, hbg, h0, h1, h2⟩ := h
  exact ⟨v0, v1, v2, hb, ⟨hg, hbg, blk_lt hb⟩, hbg, Kd.R_mono (Kd.R_bound h0) (fun k hk => ⟨hk.1, hk.2.1, hk.2.2.1⟩), Kd.R_mono (Kd.R_bound h1) (fun k hk => ⟨⟨hk.1.1, hk.2.1, hk.2.2.1⟩, hk.1.2⟩), Kd.R_mono (Kd.R_bound h2) (fun k hk => ⟨⟨hk.1.1, hk.2.1, hk.2.2.1⟩, hk.1.2⟩)⟩
theorem At.move {w w' : World} {b g : Nat} {ok : Nat → Prop} {T : TS} (h : At w b g ok T) (hm : ∀ k, ok k → k < w.heap.size → w'.heap[k]? = w.heap[k]?) : At w' b g ok T := by
  obtain ⟨v0, v1, v2, hb, hg, hbg, h0, h1, h2⟩ := h
  exact ⟨v0, v1, v2, (hm g hg (blk_lt hb)).trans hb, hg, hbg, Kd.R_step h0 (fun k hk hlt => hm k hk hlt), Kd.R_step h1 (fun k hk hlt => hm k hk.1 hlt), Kd.R_step h2 (fun k hk hlt => hm k hk.1 hlt)⟩
theorem At.below {w w' : World} {b g : Nat} {ok : Nat → Prop} {T : TS} (h : At w b g ok T) (hb : Below w.heap.size w w') : At w' b g ok T := h.move (fun k _ hlt => hb.block k hlt)
/-- another trail's call leaves it -/
theorem At.apart {w w' : World} {b g : Nat} {ok ok1 : Nat → Prop} {T : TS} (h : At w b g ok T) (hf : Fr w w' ok1) (ha : ∀ k, ok k → ¬ ok1 k) : At w' b g ok T := h.move (fun k hk hlt => hf.block k hlt (ha k hk))

/-- what was among ok or is new -/
abbrev newer (w : World) (ok : Nat → Prop) : Nat → Prop := fun k => ok k ∨ w.heap.size ≤ k

/-! ### walks -/
theorem w_abs {x : Int} (h : x.natAbs ≤ 1000000) : (if x < wrap64 (-x) then wrap64 (-x) else x) = (x.natAbs : Int) := by
  have : wrap64 (-x) = -x := by unfold wrap64; omega
  rw [this]
  split <;> omega
attribute [local go_sem] max2_int min2_int max_two min_two max_three min_three max_four min_four in
theorem at_any (x : Int) (hx : x.natAbs ≤ 1000000) (w : World) : Calls Try.prog 34 #[.int .i64 x] w fun e w' => e = .returned (.int .i64 (x.natAbs : Int)) ∧ w' = w := by
  have h := w_abs hx
  obtain ⟨y, hy⟩ : ∃ y : Int, (x.natAbs : Int) = y := ⟨_, rfl⟩
  rw [hy] at h ⊢
  clear hy hx
  go_enter Try.func34, Try.ntmps34
  go_wp2
  go_ret
  exact ⟨by rw [← h]; rfl, rfl⟩
end Go.Proofs.Ytdcemlennobjhaa.Tr
