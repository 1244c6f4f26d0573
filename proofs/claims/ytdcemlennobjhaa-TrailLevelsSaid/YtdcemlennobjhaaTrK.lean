/-
  What lies apart in memory stays apart: one thing that the call owns, and two. Conditions: as each statement has them.
-/
import Derived.Test.YtdcemlennobjhaaTrA
namespace Go.Proofs.Ytdcemlennobjhaa.Tr
set_option linter.unusedVariables false
open Go.RowKit Go.Proofs.YtdcemlennobjhaaW.PrintWords Go.Proofs.YtdcemlennobjhaaW.PrintLast Go.Proofs.YtdcemlennobjhaaW.PrintMore Go.Proofs.Ytdcemlennobjhaa.PTrailPlays
set_option linter.unusedSimpArgs false

abbrev FP := World → (Nat → Prop) → Prop
/-- P looks at the blocks of ok alone, all from b on -/
structure Foot (b : Nat) (P : FP) : Prop where
  mono : ∀ {w : World} {ok ok' : Nat → Prop}, (∀ k, ok k → ok' k) → P w ok → P w ok'
  bound : ∀ {w : World} {ok : Nat → Prop}, P w ok → P w (fun k => ok k ∧ b ≤ k ∧ k < w.heap.size)
  move : ∀ {w w' : World} {ok : Nat → Prop}, (∀ k, ok k → k < w.heap.size → w'.heap[k]? = w.heap[k]?) → P w ok → P w' ok
def TrP (b g : Nat) (T : TS) : FP := fun w ok => At w b g ok T
theorem foot_tr (b g : Nat) (T : TS) : Foot b (TrP b g T) := ⟨fun h hp => At.mono hp h, fun hp => At.bound hp, fun h hp => At.move hp h⟩
def RowP (b : Nat) (v : Value) (xs : List Int) : FP := fun w ok => Kd.R (Kd.int .i64) 3 w b ok v xs
theorem foot_row (b : Nat) (v : Value) (xs : List Int) : Foot b (RowP b v xs) := ⟨fun h hp => Kd.R_mono hp h, fun hp => Kd.R_mono (Kd.R_bound hp) (fun k hk => ⟨hk.1, hk.2.1, hk.2.2.1⟩), fun h hp => Kd.R_step hp h⟩
/-- the call owns it -/
def One (P : FP) (w : World) : Prop := ∃ p, P w p
/-- the call owns both, apart from each other -/
def Two (P Q : FP) (w : World) : Prop := ∃ p q : Nat → Prop, P w p ∧ Q w q ∧ ∀ k, p k → ¬ q k
section
variable {b b' : Nat} {P P' Q Q' : FP} {w w' : World} {p : Nat → Prop}
theorem One.below (hP : Foot b P) (h : One P w) (hb : Below w.heap.size w w') : One P w' := by
  obtain ⟨p, hp⟩ := h
  exact ⟨p, hP.move (fun k _ hlt => hb.block k hlt) hp⟩
theorem Two.below (hP : Foot b P) (hQ : Foot b' Q) (h : Two P Q w) (hb : Below w.heap.size w w') : Two P Q w' := by
  obtain ⟨p, q, hp, hq, hd⟩ := h
  exact ⟨p, q, hP.move (fun k _ hlt => hb.block k hlt) hp, hQ.move (fun k _ hlt => hb.block k hlt) hq, hd⟩
theorem Two.symm (h : Two P Q w) : Two Q P w := by
  obtain ⟨p, q, hp, hq, hd⟩ := h
  exact ⟨q, p, hq, hp, fun k hk hn => hd k hn hk⟩
theorem Two.fst (h : Two P Q w) : One P w := by
  obtain ⟨p, q, hp, hq, hd⟩ := h
  exact ⟨p, hp⟩
theorem Two.snd (h : Two P Q w) : One Q w := h.symm.fst
/-- a new thing beside an elder one -/
theorem Two.made (hP : Foot b P) (h : One P w) (hb : Below w.heap.size w w') (hQ : Q w' (fun k => w.heap.size ≤ k)) : Two P Q w' := by
  obtain ⟨p, hp⟩ := h
  exact ⟨_, _, hP.move (fun k _ hlt => hb.block k hlt) (hP.bound hp), hQ, fun k hk hn => by have := hk.2.2; omega⟩
/-- the left one has been changed -/
theorem Two.left {q : Nat → Prop} (hQ : Foot b' Q) (hq : Q w q) (hd : ∀ k, p k → ¬ q k) (hp' : P' w' (newer w p)) (hf : Fr w w' p) : Two P' Q w' :=
  ⟨_, _, hp', hQ.move (fun k hk hlt => hf.block k hlt (fun hn => hd k hn hk.1)) (hQ.bound hq), fun k hk hn => by
    rcases hk with hk | hk
    · exact hd k hk hn.1
    · have := hn.2.2; omega⟩
end
end Go.Proofs.Ytdcemlennobjhaa.Tr
