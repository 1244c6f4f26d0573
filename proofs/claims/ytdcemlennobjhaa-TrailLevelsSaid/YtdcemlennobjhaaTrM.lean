/-
  The calls on a trail that the caller owns. Conditions: as each statement has them.
-/
import Derived.Test.YtdcemlennobjhaaTrJ
import Derived.Test.YtdcemlennobjhaaTrF
import Derived.Test.YtdcemlennobjhaaTrK
import Derived.Test.YtdcemlennobjhaaTrL
namespace Go.Proofs.Ytdcemlennobjhaa.Tr
open Go.RowKit Go.Proofs.YtdcemlennobjhaaW.PrintWords Go.Proofs.YtdcemlennobjhaaW.PrintLast Go.Proofs.YtdcemlennobjhaaW.PrintMore Go.Proofs.Ytdcemlennobjhaa.PTrailPlays
set_option linter.unusedSimpArgs false
set_option linter.unusedVariables false

theorem C_nil0 {α : Type} (d : Kd α) (w : World) : d.C w none 0 [] := by
  obtain ⟨A, c, h1, _, h3⟩ := Kd.R_reads (Kd.R_nil d 3 w 0 (fun _ => True))
  injection h1 with h1 h2
  subst h1
  exact h3
theorem C_now {w wr : World} (hb : Below w.heap.size w wr) {A : Option Addr} {n : Nat} {xs : List (List Int)} (h : (Kd.fixed CD w).C wr A n xs) : CD.C wr A n xs :=
  Kd.C_read (d := CD) (dm := Kd.fixed CD w) (w := wr) rfl (fun x cs hk => CD.K_below hb (show CD.K w x cs from hk)) h
theorem At.lower {w : World} {b b' g : Nat} {ok : Nat → Prop} {T : TS} (h : At w b g ok T) (hb : b' ≤ b) : At w b' g ok T := by
  obtain ⟨v0, v1, v2, h1, hg, hbg, h2, h3, h4⟩ := h
  exact ⟨v0, v1, v2, h1, hg, by omega, Kd.R_lower h2 hb, Kd.R_lower h3 hb, Kd.R_lower h4 hb⟩
theorem new_conc (n : Nat) : new n = conc n [] 0 := by
  refine ts_ext ?_ rfl rfl
  show List.replicate (n + 1) z69 = (List.range (n + 1)).map (look [])
  have : (look [] : Nat → S69) = fun _ => z69 := rfl
  rw [this, List.map_const', List.length_range]
theorem ints_l0 (L : List Int) (hL : L.length ≤ 100000) : ∀ k (i : Nat), i ≤ L.length → L.length - i < k → manciplelaw7_Ints.l0 k L L (i : Int) = some true
  | 0, i, _, h => by omega
  | k + 1, i, hi, h => by
    unfold manciplelaw7_Ints.l0
    by_cases h1 : i < L.length
    · have hw : wrap64 ((i : Int) + 1) = ((i + 1 : Nat) : Int) := by unfold wrap64; omega
      rw [if_pos (by omega), if_pos (by omega), if_pos (by omega), if_pos rfl, hw]
      exact ints_l0 L hL k (i + 1) (by omega) (by omega)
    · rw [if_neg (by omega)]
theorem ints_same (L : List Int) (A B : Option Addr) (c d n m : Nat) (w : World) (hL : L.length ≤ 100000) (hA : L.length ≤ c ∧ Kd.C (Kd.int .i64) w A L.length L) (hB : L.length ≤ d ∧ Kd.C (Kd.int .i64) w B L.length L) (hn : n = L.length) (hm : m = L.length) :
    Calls Try.prog 11 #[.slice A n c, .slice B m d] w fun e w' => e = .returned (.bool true) ∧ Below w.heap.size w w' := by
  subst hn hm
  refine (manciplelaw7_Ints.calls (L.length + 1) A c L B d L true w hA.2 hA.1 hB.2 hB.1 ?_).mono (fun e w' h => ⟨h.1, h.2.below⟩)
  unfold manciplelaw7_Ints.f
  rw [if_pos rfl]
  exact ints_l0 L hL _ 0 (Nat.zero_le _) (by omega)
/-- ints made in place -/
theorem lit_ints (w : World) (xs : List Int) (hm : xs.length ≤ 100000) : xs.length ≤ xs.length ∧ Kd.C (Kd.int .i64) (w.alloc (.cells (xs.map (Value.int .i64)).toArray 3)) (some ⟨w.heap.size, 0, none⟩) xs.length xs := by
  have hrep : ∀ ys : List Int, Reps ((Kd.int .i64).M w 0 (fun _ => True)) 1 ys (ys.map (Value.int .i64)) := fun ys => by
    induction ys with
    | nil => exact Reps.none _ _
    | cons y r ih => exact Reps.one (show Kd.M (Kd.int .i64) _ _ _ y [.int .i64 y] from rfl) ih
  have hR : Kd.R (Kd.int .i64) 3 (w.alloc (.cells (xs.map (Value.int .i64)).toArray 3)) 0 (fun _ => True) (.slice (some ⟨w.heap.size, 0, none⟩) xs.length xs.length) xs := by
    refine ⟨fun k hk => trivial, xs.map (Value.int .i64), ?_, ?_⟩
    · have h2 := World.ownsRow_lit (base := 0) (e := 3) (size := 1) w (xs.map (Value.int .i64)).toArray xs.length (Nat.zero_le _) (by simp only [maxLen]; omega) (by simp)
      have h3 : World.ownsRow (w.alloc (.cells (xs.map (Value.int .i64)).toArray 3)) 0 3 1 (.slice (some ⟨w.heap.size, 0, none⟩) xs.length xs.length) xs.length (xs.map (Value.int .i64)) := by simpa using h2
      exact h3
    · refine (hrep xs).imp_ (fun p c hp => Kd.M_mono _ (fun k hk => ⟨trivial, fun he => ?_⟩) (Kd.M_below (Kd.M_bound _ hp) (below_alloc (Below.refl _ _) _)))
      have h3 : k = w.heap.size := by simpa [Value.ownBlock] using he
      have := hk.2.2.1
      omega
  exact ⟨Nat.le_refl _, (Kd.R_reads' hR).2.2⟩
section
variable {b b' g : Nat} {T : TS} {w : World} {Q : FP}
theorem own_new (n : Nat) (w : World) (h : n ≤ 256) (hb : b ≤ w.heap.size) : Calls Try.prog 8 #[.int .i64 (n : Int)] w fun e w' => ∃ g, e = .returned (.tuple #[.pointer (some ⟨g, 0, none⟩), .int .i64 0]) ∧ One (TrP b g (new n)) w' ∧ Below b w w' :=
  (new_ok n w h).mono (by
    rintro e w' ⟨g, he, hA, hB⟩
    exact ⟨g, he, ⟨_, hA.lower hb⟩, hB.mono hb⟩)
theorem own_decide (hH : One (TrP b g T) w) (hF : Fine T) (hb : b ≤ w.heap.size) (x r : Int) (T' : TS) (he : decE T x = r) (hT' : decT T x = T') :
    Calls Try.prog 9 #[.pointer (some ⟨g, 0, none⟩), .int .i64 x] w fun e w' => e = .returned (.int .i64 r) ∧ One (TrP b g T') w' ∧ Below b w w' := by
  obtain ⟨p, hp⟩ := hH
  subst he hT'
  exact (decide_any (At.bound hp) hF x).mono (fun e w' h => ⟨h.1, ⟨_, h.2.1⟩, h.2.2.toBelow (fun k hk => hk.2.1) hb⟩)
theorem own_imply (hH : One (TrP b g T) w) (hF : Fine T) (hb : b ≤ w.heap.size) (x y r : Int) (T' : TS) (he : impE T x y = r) (hT' : impT T x y = T') :
    Calls Try.prog 17 #[.pointer (some ⟨g, 0, none⟩), .int .i64 x, .int .i64 y] w fun e w' => e = .returned (.int .i64 r) ∧ One (TrP b g T') w' ∧ Below b w w' := by
  obtain ⟨p, hp⟩ := hH
  subst he hT'
  exact (imply_any (At.bound hp) hF x y).mono (fun e w' h => ⟨h.1, ⟨_, h.2.1⟩, h.2.2.toBelow (fun k hk => hk.2.1) hb⟩)
theorem own_back (hH : One (TrP b g T) w) (hF : Fine T) (hb : b ≤ w.heap.size) (x r : Int) (T' : TS) (he : bacE T x = r) (hT' : bacT T x = T') :
    Calls Try.prog 13 #[.pointer (some ⟨g, 0, none⟩), .int .i64 x] w fun e w' => e = .returned (.int .i64 r) ∧ One (TrP b g T') w' ∧ Below b w w' := by
  obtain ⟨p, hp⟩ := hH
  subst he hT'
  exact (back_any (At.bound hp) hF x).mono (fun e w' h => ⟨h.1, ⟨_, h.2.1⟩, h.2.2.toBelow (fun k hk => hk.2.1) hb⟩)
theorem two_decide (hH : Two (TrP b g T) Q w) (hQ : Foot b' Q) (hF : Fine T) (hb : b ≤ w.heap.size) (x r : Int) (T' : TS) (he : decE T x = r) (hT' : decT T x = T') :
    Calls Try.prog 9 #[.pointer (some ⟨g, 0, none⟩), .int .i64 x] w fun e w' => e = .returned (.int .i64 r) ∧ Two (TrP b g T') Q w' ∧ Below b w w' := by
  obtain ⟨p, q, hp, hq, hd⟩ := hH
  subst he hT'
  exact (decide_any (At.bound hp) hF x).mono (fun e w' h => ⟨h.1, Two.left hQ hq (fun k hk hn => hd k hk.1 hn) h.2.1 h.2.2, h.2.2.toBelow (fun k hk => hk.2.1) hb⟩)
theorem two_imply (hH : Two (TrP b g T) Q w) (hQ : Foot b' Q) (hF : Fine T) (hb : b ≤ w.heap.size) (x y r : Int) (T' : TS) (he : impE T x y = r) (hT' : impT T x y = T') :
    Calls Try.prog 17 #[.pointer (some ⟨g, 0, none⟩), .int .i64 x, .int .i64 y] w fun e w' => e = .returned (.int .i64 r) ∧ Two (TrP b g T') Q w' ∧ Below b w w' := by
  obtain ⟨p, q, hp, hq, hd⟩ := hH
  subst he hT'
  exact (imply_any (At.bound hp) hF x y).mono (fun e w' h => ⟨h.1, Two.left hQ hq (fun k hk hn => hd k hk.1 hn) h.2.1 h.2.2, h.2.2.toBelow (fun k hk => hk.2.1) hb⟩)
theorem two_back (hH : Two (TrP b g T) Q w) (hQ : Foot b' Q) (hF : Fine T) (hb : b ≤ w.heap.size) (x r : Int) (T' : TS) (he : bacE T x = r) (hT' : bacT T x = T') :
    Calls Try.prog 13 #[.pointer (some ⟨g, 0, none⟩), .int .i64 x] w fun e w' => e = .returned (.int .i64 r) ∧ Two (TrP b g T') Q w' ∧ Below b w w' := by
  obtain ⟨p, q, hp, hq, hd⟩ := hH
  subst he hT'
  exact (back_any (At.bound hp) hF x).mono (fun e w' h => ⟨h.1, Two.left hQ hq (fun k hk hn => hd k hk.1 hn) h.2.1 h.2.2, h.2.2.toBelow (fun k hk => hk.2.1) hb⟩)
theorem own_value (hH : One (TrP b g T) w) (hn : T.of.length ≤ 257) (x r : Int) (he : valT T x = r) : Calls Try.prog 15 #[.pointer (some ⟨g, 0, none⟩), .int .i64 x] w fun e w' => e = .returned (.int .i64 r) ∧ Below w.heap.size w w' := by
  obtain ⟨p, hp⟩ := hH
  subst he
  exact value_any hp hn x
theorem own_level (hH : One (TrP b g T) w) (hn : T.of.length ≤ 257) (x r : Int) (he : lvlT T x = r) : Calls Try.prog 14 #[.pointer (some ⟨g, 0, none⟩), .int .i64 x] w fun e w' => e = .returned (.int .i64 r) ∧ Below w.heap.size w w' := by
  obtain ⟨p, hp⟩ := hH
  subst he
  exact level_any hp hn x
theorem own_reason (hH : One (TrP b g T) w) (hn : T.of.length ≤ 257) (x r : Int) (he : reaT T x = r) : Calls Try.prog 16 #[.pointer (some ⟨g, 0, none⟩), .int .i64 x] w fun e w' => e = .returned (.int .i64 r) ∧ Below w.heap.size w w' := by
  obtain ⟨p, hp⟩ := hH
  subst he
  exact reason_any hp hn x
theorem own_deep (hH : One (TrP b g T) w) (r : Int) (he : (T.frm.length : Int) = r) : Calls Try.prog 10 #[.pointer (some ⟨g, 0, none⟩)] w fun e w' => e = .returned (.int .i64 r) ∧ Below w.heap.size w w' := by
  obtain ⟨p, hp⟩ := hH
  subst he
  exact (deep_any hp).mono (by rintro e w' ⟨he, rfl⟩; exact ⟨he, Below.refl _ _⟩)
theorem own_sound (hH : One (TrP b g T) w) (cs : List (List Int)) (hS : SoundOk T cs) (A : Option Addr) (c : Nat) (hC : Kd.C CD w A cs.length cs) (r : Bool) (he : sndFrom T cs [] T.l = r) : Calls Try.prog 26 #[.pointer (some ⟨g, 0, none⟩), .slice A cs.length c] w fun e w' => e = .returned (.bool r) ∧ Below w.heap.size w w' := by
  obtain ⟨p, hp⟩ := hH
  subst he
  exact sound_any hp cs hS A c hC
/-- the literals, in a slice of the caller's own -/
theorem own_lits (hH : One (TrP b g T) w) (hl : T.l.length ≤ 100000) (L : List Int) (hL : T.l = L) : Calls Try.prog 12 #[.pointer (some ⟨g, 0, none⟩)] w fun e w' => ∃ A c, e = .returned (.slice A L.length c) ∧ L.length ≤ c ∧ Kd.C (Kd.int .i64) w' A L.length L ∧ Two (TrP b g T) (RowP w.heap.size (.slice A L.length c) L) w' ∧ Below w.heap.size w w' := by
  obtain ⟨p, hp⟩ := hH
  subst hL
  refine (lits_any hp hl).mono ?_
  rintro e w' ⟨v, rfl, hr, hb⟩
  obtain ⟨A, c, rfl, hc, hC⟩ := Kd.R_reads hr
  exact ⟨A, c, rfl, hc, hC, Two.made (foot_tr _ _ _) ⟨p, hp⟩ hb (Kd.R_mono (Kd.R_bound hr) (fun k hk => hk.2.1)), hb⟩
theorem own_twin (hH : One (TrP b g T) w) (hF : Fine T) (hb : b ≤ w.heap.size) : Calls Try.prog 23 #[.pointer (some ⟨g, 0, none⟩)] w fun e w' => ∃ g', e = .returned (.pointer (some ⟨g', 0, none⟩)) ∧ Two (TrP b g T) (TrP b g' T) w' ∧ Below w.heap.size w w' := by
  obtain ⟨p, hp⟩ := hH
  refine (twin_any hp hF).mono ?_
  rintro e w' ⟨g', rfl, hA, hB⟩
  exact ⟨g', rfl, Two.made (foot_tr _ _ _) ⟨p, hp⟩ hB (hA.lower hb), hB⟩
end
end Go.Proofs.Ytdcemlennobjhaa.Tr
