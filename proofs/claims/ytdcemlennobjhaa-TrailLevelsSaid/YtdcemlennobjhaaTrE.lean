/-
  The walks of Decide and Imply. Conditions: as each statement has them.
-/
import Derived.Test.YtdcemlennobjhaaTrD
namespace Go.Proofs.Ytdcemlennobjhaa.Tr
open Go.RowKit Go.Proofs.YtdcemlennobjhaaW.PrintWords Go.Proofs.YtdcemlennobjhaaW.PrintLast Go.Proofs.YtdcemlennobjhaaW.PrintMore Go.Proofs.Ytdcemlennobjhaa.PTrailPlays
set_option linter.unusedSimpArgs false
set_option linter.unusedVariables false

theorem door9_ret {R : Ending → World → Prop} (eB : Nat) (er : Int) (tmps : Array Value) (ds : List Deferred) (w' : World) (hds : ds = [{ target := .fn (.func 29) #[], args := #[.pointer (some ⟨eB, 0, none⟩)] }])
    (hk : tmps[4]?.getD undef = .pointer (some ⟨eB, 0, none⟩)) (hc : w'.cell? ⟨eB, 0, none⟩ = some (.int .i64 er)) (hR : R (.returned (.int .i64 er)) w') : Leaves Try.prog Try.f9 tmps R ds .returning w' := by
  subst hds
  refine leaves_cons (f := 29) (args := #[.pointer (some ⟨eB, 0, none⟩)]) (by simp) (by simp [go_sem]) ?_
  refine (catch_idle ⟨eB, 0, none⟩ w').mono ?_
  rintro e u' w'' ⟨rfl, rfl, rfl⟩
  refine ⟨.int .i64 er, ?_, hR⟩
  simp [results, Try.results9, go_sem, hk, hc]
theorem door9_panic {R : Ending → World → Prop} (eB : Nat) (er : Int) (v : Value) (tmps : Array Value) (ds : List Deferred) (w' : World) (hds : ds = [{ target := .fn (.func 29) #[], args := #[.pointer (some ⟨eB, 0, none⟩)] }])
    (hk : tmps[4]?.getD undef = .pointer (some ⟨eB, 0, none⟩)) (hc : w'.cell? ⟨eB, 0, none⟩ = some v) (hz : w'.frozen? ⟨eB, 0, none⟩ = false) (hR : R (.returned (.int .i64 er)) (w'.setCell ⟨eB, 0, none⟩ (.int .i64 er))) : Leaves Try.prog Try.f9 tmps R ds (.panicking (wrong er)) w' := by
  subst hds
  refine leaves_cons (f := 29) (args := #[.pointer (some ⟨eB, 0, none⟩)]) (by simp) (by simp [go_sem]) ?_
  refine (catch_panicking ⟨eB, 0, none⟩ v er [] w' hc hz).mono ?_
  rintro e u' w'' ⟨rfl, rfl, rfl⟩
  have hs := World.cell?_setCell_same w' ⟨eB, 0, none⟩ (.int .i64 er) hc
  refine ⟨.int .i64 er, ?_, hR⟩
  generalize w'.setCell ⟨eB, 0, none⟩ (.int .i64 er) = W at hs ⊢
  simp [results, Try.results9, go_sem, hk, hs]
theorem door17_ret {R : Ending → World → Prop} (eB : Nat) (er : Int) (tmps : Array Value) (ds : List Deferred) (w' : World) (hds : ds = [{ target := .fn (.func 29) #[], args := #[.pointer (some ⟨eB, 0, none⟩)] }])
    (hk : tmps[6]?.getD undef = .pointer (some ⟨eB, 0, none⟩)) (hc : w'.cell? ⟨eB, 0, none⟩ = some (.int .i64 er)) (hR : R (.returned (.int .i64 er)) w') : Leaves Try.prog Try.f17 tmps R ds .returning w' := by
  subst hds
  refine leaves_cons (f := 29) (args := #[.pointer (some ⟨eB, 0, none⟩)]) (by simp) (by simp [go_sem]) ?_
  refine (catch_idle ⟨eB, 0, none⟩ w').mono ?_
  rintro e u' w'' ⟨rfl, rfl, rfl⟩
  refine ⟨.int .i64 er, ?_, hR⟩
  simp [results, Try.results17, go_sem, hk, hc]
theorem door17_panic {R : Ending → World → Prop} (eB : Nat) (er : Int) (v : Value) (tmps : Array Value) (ds : List Deferred) (w' : World) (hds : ds = [{ target := .fn (.func 29) #[], args := #[.pointer (some ⟨eB, 0, none⟩)] }])
    (hk : tmps[6]?.getD undef = .pointer (some ⟨eB, 0, none⟩)) (hc : w'.cell? ⟨eB, 0, none⟩ = some v) (hz : w'.frozen? ⟨eB, 0, none⟩ = false) (hR : R (.returned (.int .i64 er)) (w'.setCell ⟨eB, 0, none⟩ (.int .i64 er))) : Leaves Try.prog Try.f17 tmps R ds (.panicking (wrong er)) w' := by
  subst hds
  refine leaves_cons (f := 29) (args := #[.pointer (some ⟨eB, 0, none⟩)]) (by simp) (by simp [go_sem]) ?_
  refine (catch_panicking ⟨eB, 0, none⟩ v er [] w' hc hz).mono ?_
  rintro e u' w'' ⟨rfl, rfl, rfl⟩
  have hs := World.cell?_setCell_same w' ⟨eB, 0, none⟩ (.int .i64 er) hc
  refine ⟨.int .i64 er, ?_, hR⟩
  generalize w'.setCell ⟨eB, 0, none⟩ (.int .i64 er) = W at hs ⊢
  simp [results, Try.results17, go_sem, hk, hs]
theorem door13_ret {R : Ending → World → Prop} (eB : Nat) (er : Int) (tmps : Array Value) (ds : List Deferred) (w' : World) (hds : ds = [{ target := .fn (.func 29) #[], args := #[.pointer (some ⟨eB, 0, none⟩)] }])
    (hk : tmps[4]?.getD undef = .pointer (some ⟨eB, 0, none⟩)) (hc : w'.cell? ⟨eB, 0, none⟩ = some (.int .i64 er)) (hR : R (.returned (.int .i64 er)) w') : Leaves Try.prog Try.f13 tmps R ds .returning w' := by
  subst hds
  refine leaves_cons (f := 29) (args := #[.pointer (some ⟨eB, 0, none⟩)]) (by simp) (by simp [go_sem]) ?_
  refine (catch_idle ⟨eB, 0, none⟩ w').mono ?_
  rintro e u' w'' ⟨rfl, rfl, rfl⟩
  refine ⟨.int .i64 er, ?_, hR⟩
  simp [results, Try.results13, go_sem, hk, hc]
theorem door13_panic {R : Ending → World → Prop} (eB : Nat) (er : Int) (v : Value) (tmps : Array Value) (ds : List Deferred) (w' : World) (hds : ds = [{ target := .fn (.func 29) #[], args := #[.pointer (some ⟨eB, 0, none⟩)] }])
    (hk : tmps[4]?.getD undef = .pointer (some ⟨eB, 0, none⟩)) (hc : w'.cell? ⟨eB, 0, none⟩ = some v) (hz : w'.frozen? ⟨eB, 0, none⟩ = false) (hR : R (.returned (.int .i64 er)) (w'.setCell ⟨eB, 0, none⟩ (.int .i64 er))) : Leaves Try.prog Try.f13 tmps R ds (.panicking (wrong er)) w' := by
  subst hds
  refine leaves_cons (f := 29) (args := #[.pointer (some ⟨eB, 0, none⟩)]) (by simp) (by simp [go_sem]) ?_
  refine (catch_panicking ⟨eB, 0, none⟩ v er [] w' hc hz).mono ?_
  rintro e u' w'' ⟨rfl, rfl, rfl⟩
  have hs := World.cell?_setCell_same w' ⟨eB, 0, none⟩ (.int .i64 er) hc
  refine ⟨.int .i64 er, ?_, hR⟩
  generalize w'.setCell ⟨eB, 0, none⟩ (.int .i64 er) = W at hs ⊢
  simp [results, Try.results13, go_sem, hk, hs]


theorem Leaves_congr {P : Program} {fn : Func} {tmps tmps' : Array Value} {R : Ending → World → Prop} (h : ∀ w, (results fn tmps').run P w = (results fn tmps).run P w) : ∀ (ds : List Deferred) (u : FrameMode) (w : World), Leaves P fn tmps R ds u w → Leaves P fn tmps' R ds u w
  | [], .returning, w, ⟨v, h1, h2⟩ => ⟨v, (h w).trans h1, h2⟩
  | [], .panicking _, _, hl => hl
  | [], .run, _, hl => hl
  | d :: ds, u, w, ⟨hu, fv, cap, f, args, h1, h2, h3⟩ => ⟨hu, fv, cap, f, args, h1, h2, h3.mono fun e u' w' hh => by
    cases e with
    | returned v => exact Leaves_congr h ds _ _ hh
    | panicked c => exact Leaves_congr h ds _ _ hh
    | outgrown => exact hh⟩
theorem put_other (a : Act) (N : Option Tmp) (v : Value) (k : Nat) (hN : N ≠ some k) : (a.put N v).tmps[k]?.getD undef = a.tmps[k]?.getD undef := by
  cases N with
  | none => rfl
  | some n =>
    have : n ≠ k := fun h => hN (by rw [h])
    simp [Act.put, Array.getElem?_setIfInBounds, this]
theorem hq9 {R : Ending → World → Prop} (N : Option Tmp) (hN : N ≠ some 4) (v : Value) (c : List PanicEntry) (a : Act) (w : World) (h : bodyPostD Try.prog Try.f9 R (.panic c) (a.put N v) w) : bodyPostD Try.prog Try.f9 R (.panic c) a w := by
  have hd : (a.put N v).defers = a.defers := by cases N <;> rfl
  have h' : Leaves Try.prog Try.f9 (a.put N v).tmps R (a.put N v).defers (.panicking c) w := h
  rw [hd] at h'
  refine Leaves_congr (fun W => ?_) _ _ _ h'
  have e := put_other a N v 4 hN
  obtain ⟨B, hB⟩ : ∃ B, (a.put N v).tmps = B := ⟨_, rfl⟩
  rw [hB] at e ⊢
  simp [results, Try.results9, go_sem, e]
theorem hq17 {R : Ending → World → Prop} (N : Option Tmp) (hN : N ≠ some 6) (v : Value) (c : List PanicEntry) (a : Act) (w : World) (h : bodyPostD Try.prog Try.f17 R (.panic c) (a.put N v) w) : bodyPostD Try.prog Try.f17 R (.panic c) a w := by
  have hd : (a.put N v).defers = a.defers := by cases N <;> rfl
  have h' : Leaves Try.prog Try.f17 (a.put N v).tmps R (a.put N v).defers (.panicking c) w := h
  rw [hd] at h'
  refine Leaves_congr (fun W => ?_) _ _ _ h'
  have e := put_other a N v 6 hN
  obtain ⟨B, hB⟩ : ∃ B, (a.put N v).tmps = B := ⟨_, rfl⟩
  rw [hB] at e ⊢
  simp [results, Try.results17, go_sem, e]
theorem hq13 {R : Ending → World → Prop} (N : Option Tmp) (hN : N ≠ some 4) (v : Value) (c : List PanicEntry) (a : Act) (w : World) (h : bodyPostD Try.prog Try.f13 R (.panic c) (a.put N v) w) : bodyPostD Try.prog Try.f13 R (.panic c) a w := by
  have hd : (a.put N v).defers = a.defers := by cases N <;> rfl
  have h' : Leaves Try.prog Try.f13 (a.put N v).tmps R (a.put N v).defers (.panicking c) w := h
  rw [hd] at h'
  refine Leaves_congr (fun W => ?_) _ _ _ h'
  have e := put_other a N v 4 hN
  obtain ⟨B, hB⟩ : ∃ B, (a.put N v).tmps = B := ⟨_, rfl⟩
  rw [hB] at e ⊢
  simp [results, Try.results13, go_sem, e]
/-- a result's block: one cell, of type 25 -/
theorem e_cell {w : World} {eB : Nat} {v : Value} (h : w.heap[eB]? = some (.cells #[v] 25 (0, 0))) : w.cell? ⟨eB, 0, none⟩ = some v ∧ w.frozen? ⟨eB, 0, none⟩ = false := ⟨blk_cell h 0, blk_frozen h 0⟩
/-- the trail in a world where the result's block is new -/
theorem At.boxed {w : World} {b g : Nat} {ok : Nat → Prop} {T : TS} (h : At w b g ok T) (o : Obj) : At (w.alloc o) b g (fun k => ok k ∧ k < w.heap.size) T :=
  (h.bound.below (below_alloc (Below.refl _ _) o)).mono (fun _ hk => ⟨hk.1, hk.2.2⟩)
/-- what the call leaves: the result written, too -/
theorem fr_box {w w1 : World} {ok : Nat → Prop} {o : Obj} (h : Fr (w.alloc o) w1 (fun k => ok k ∧ k < w.heap.size)) : Fr w w1 ok :=
  (Fr.below (below_alloc (Below.refl _ _) o) ok).trans h (fun _ _ hk => hk.1)
theorem fr_done {w w1 : World} {ok : Nat → Prop} {eB : Nat} (h : Fr w w1 ok) (hE : w.heap.size ≤ eB) (v : Value) : Fr w (w1.setCell ⟨eB, 0, none⟩ v) ok :=
  h.trans (Fr.set (ok := fun k => k = eB) ⟨eB, 0, none⟩ v rfl) (fun k hk he => by omega)
theorem At.far {w1 : World} {b g : Nat} {ok : Nat → Prop} {T : TS} (h : At w1 b g ok T) {eB : Nat} (hE : ¬ ok eB) (v : Value) : At (w1.setCell ⟨eB, 0, none⟩ v) b g ok T :=
  h.apart (Fr.set (ok := fun k => k = eB) ⟨eB, 0, none⟩ v rfl) (fun k hk he => hE (he ▸ hk))
theorem not_newer (w : World) (ok : Nat → Prop) (o : Obj) : ¬ newer (w.alloc o) (fun k => ok k ∧ k < w.heap.size) w.heap.size := by
  have hs : (w.alloc o).heap.size = w.heap.size + 1 := by simp
  rintro (hk | hk)
  · have := hk.2; omega
  · omega
theorem done_box {w w4 w5 : World} {b g : Nat} {er : Int} {ok : Nat → Prop} {o : Obj} {T T' : TS} {v : Value}  (hA : At w5 b g (newer w4 (newer (w.alloc o) (fun k => ok k ∧ k < w.heap.size))) T) (h4 : Fr (w.alloc o) w4 (fun k => ok k ∧ k < w.heap.size)) (h5 : Fr w4 w5 (newer (w.alloc o) (fun k => ok k ∧ k < w.heap.size))) (hT : T' = T) :
    Ending.returned (.int .i64 er) = .returned (.int .i64 er) ∧ At (w5.setCell ⟨w.heap.size, 0, none⟩ v) b g (newer w ok) T' ∧ Fr w (w5.setCell ⟨w.heap.size, 0, none⟩ v) ok := by
  subst hT
  have hs : (w.alloc o).heap.size = w.heap.size + 1 := by simp
  have hs4 := h4.size
  refine ⟨rfl, (hA.far (fun he => ?_) _).mono (fun k hk => ?_), fr_done (fr_box (h4.trans h5 (fun k hk hn => ?_))) (Nat.le_refl _) _⟩
  · rcases he with (he | he) | he
    · have := he.2; omega
    · omega
    · omega
  · rcases hk with (hk | hk) | hk
    · exact Or.inl hk.1
    · exact Or.inr (by omega)
    · exact Or.inr (by omega)
  · rcases hn with hn | hn
    · exact hn
    · omega

set_option maxRecDepth 100000 in
set_option maxHeartbeats 4000000 in
theorem decide_bad {w : World} {b g : Nat} {ok : Nat → Prop} {T : TS} (hT : At w b g ok T) (hn : T.of.length ≤ 257) (x : Int) (h : may T x ≠ 0) :
    Calls Try.prog 9 #[.pointer (some ⟨g, 0, none⟩), .int .i64 x] w fun e w' => e = .returned (.int .i64 (may T x)) ∧ At w' b g (newer w ok) T ∧ Fr w w' ok := by
  have HT := Lib.hid (hT.boxed (.cells #[.int .i64 0] 25))
  have HE := Lib.hid (show (w.alloc (.cells #[.int .i64 0] 25)).heap[w.heap.size]? = some (.cells #[.int .i64 0] 25 (0, 0)) from blk_new w _)
  have HF := Lib.hid (free_bad HT.out hn x h)
  obtain ⟨er, her⟩ : ∃ er, may T x = er := ⟨_, rfl⟩
  rw [her] at HF ⊢
  clear her h hn hT
  go_enter_defers Try.func9, Try.ntmps9
  go_wp2_with fail
  refine HF.out.mono ?_
  rintro e w1 ⟨rfl, hb⟩
  have hE := blk_below HE.out hb
  have hA := HT.out.below hb
  refine door9_panic w.heap.size er _ _ _ w1 rfl rfl (e_cell hE).1 (e_cell hE).2 ⟨rfl, ?_, ?_⟩
  · exact (hA.far (by simp) _).mono (fun k hk => Or.inl hk.1)
  · exact fr_done (fr_box (Fr.below hb _)) (Nat.le_refl _) _

set_option maxRecDepth 100000 in
set_option maxHeartbeats 4000000 in
theorem imply_bad {w : World} {b g : Nat} {ok : Nat → Prop} {T : TS} (hT : At w b g ok T) (hn : T.of.length ≤ 257) (x r : Int) (h : may T x ≠ 0) :
    Calls Try.prog 17 #[.pointer (some ⟨g, 0, none⟩), .int .i64 x, .int .i64 r] w fun e w' => e = .returned (.int .i64 (may T x)) ∧ At w' b g (newer w ok) T ∧ Fr w w' ok := by
  have HT := Lib.hid (hT.boxed (.cells #[.int .i64 0] 25))
  have HE := Lib.hid (show (w.alloc (.cells #[.int .i64 0] 25)).heap[w.heap.size]? = some (.cells #[.int .i64 0] 25 (0, 0)) from blk_new w _)
  have HF := Lib.hid (free_bad HT.out hn x h)
  obtain ⟨er, her⟩ : ∃ er, may T x = er := ⟨_, rfl⟩
  rw [her] at HF ⊢
  clear her h hn hT
  go_enter_defers Try.func17, Try.ntmps17
  go_wp2_with fail
  refine HF.out.mono ?_
  rintro e w1 ⟨rfl, hb⟩
  have hE := blk_below HE.out hb
  have hA := HT.out.below hb
  refine door17_panic w.heap.size er _ _ _ w1 rfl rfl (e_cell hE).1 (e_cell hE).2 ⟨rfl, ?_, ?_⟩
  · exact (hA.far (by simp) _).mono (fun k hk => Or.inl hk.1)
  · exact fr_done (fr_box (Fr.below hb _)) (Nat.le_refl _) _

def X9.T3 : Bool × List (List Nat × List Nat) := (true, [([], []), ([], []), ([1], [1]), ([2], [2]), ([3], [3]), ([], []), ([5], [5]), ([6], [6]), ([7], [7]), ([8], [8]), ([9], [9]), ([4, 10], [4, 10]), ([0, 0, 1, 2, 3, 4, 5, 6, 7, 8, 9, 10, 11], [0]), ([12, 0, 1, 2, 3, 4, 5, 6, 7, 8, 9, 10, 11], [12]), ([13, 11, 11, 0, 1, 2, 3, 4, 5, 6, 7, 8, 9, 10, 11], [11, 13])])
def X9.B3 : List Nat := [0, 0, 2, 6, 14, 0, 32, 96, 224, 480, 992, 2046, 4095, 8191, 16383]
theorem X9.tab3 : rtab .any (opsOf Try.f9 3) = X9.T3 := by kernel_rfl
theorem X9.bits3 : waitsOk X9.T3.2 X9.B3 = true := by kernel_rfl
set_option maxRecDepth 100000 in
set_option maxHeartbeats 4000000 in
theorem decide_ok {w : World} {b g : Nat} {ok : Nat → Prop} {T : TS} (hT : At w b g ok T) (hF : Fine T) (x : Int) (h : may T x = 0) :
    Calls Try.prog 9 #[.pointer (some ⟨g, 0, none⟩), .int .i64 x] w fun e w' => e = .returned (.int .i64 0) ∧ At w' b g (newer w ok) (decT T x) ∧ Fr w w' ok := by
  have HT := Lib.hid (hT.boxed (.cells #[.int .i64 0] 25))
  have HE := Lib.hid (show (w.alloc (.cells #[.int .i64 0] 25)).heap[w.heap.size]? = some (.cells #[.int .i64 0] 25 (0, 0)) from blk_new w _)
  have HF := Lib.hid (free_ok HT.out hF.n2 x h)
  have HFI := Lib.hid hF
  have HKN := Lib.hid (kn_abs (may_zero h).1)
  have HDT : Hid (decT T x = put ⟨T.of, T.l, T.frm ++ [(T.l.length : Int)]⟩ x (-1)) := Lib.hid (by unfold decT; rw [if_pos h])
  clear h hF hT
  go_enter_defers Try.func9, Try.ntmps9
  go_wp2_with fail
  refine HF.out.mono ?_
  rintro e w1 ⟨rfl, hb⟩
  have HB1 := Lib.hid hb
  have HE1 := Lib.hid (blk_below HE.out hb)
  obtain ⟨v0, v1, v2, hb', hog, hbg, h0, h1, h2⟩ := HT.out.below hb
  obtain ⟨A0, c0, rfl⟩ := Kd.R_slice h0
  obtain ⟨A1, c1, rfl⟩ := Kd.R_slice h1
  obtain ⟨A2, c2, rfl⟩ := Kd.R_slice h2
  have XG := Lib.hid (show w1.drew.heap[g]? = some (.cells #[.slice A0 T.of.length c0, .slice A1 T.l.length c1, .slice A2 T.frm.length c2] 61 (0, 0)) from hb')
  have X0 := Lib.hid (Kd.R_drew h0)
  have X1 := Lib.hid (Kd.R_drew h1)
  have X2 := Lib.hid (Kd.R_drew h2)
  have XE := Lib.hid (show w1.drew.heap[w.heap.size]? = some (.cells #[.int .i64 0] 25 (0, 0)) from HE1.out)
  have XF := Lib.hid (Fr.drew (Fr.below hb (fun k => ok k ∧ k < w.heap.size)))
  have HOG := Lib.hid (And.intro hog hbg)
  have hll : (T.l.length : Int) ≤ 100000 := by have := HFI.out.ll; omega
  clear HF HT HE HE1 HB1 hb hb' h0 h1 h2 hog hbg
  go_wp2_with fail
  refine start_ (n := 15) (S := fun w' => w'.heap[g]? = some (.cells #[.slice A0 T.of.length c0, .slice A1 T.l.length c1, .slice A2 T.frm.length c2] 61 (0, 0))) (ds := [14]) #[false, false, false, false, false, false, false, false, false, false, false, false, false, false, false] (by kernel_rfl) rfl rfl XG.out (fun hHeld => ?_)
  refine with_tabW X9.tab3 X9.bits3 (fun HT_ HW_ => ?_)
  generalize w1.drew = w2 at XG X0 X1 X2 XE XF hHeld ⊢
  refine pure_ (i := 0) (N := some 8) (v := ?_) (a' := ?_) #[true, false, false, false, false, false, false, false, false, false, false, false, false, false, false] rfl rfl (any_of HT_.out (by kernel_rfl)) (fun c a w h => hq9 _ (by decide) _ c a w h) (Or.inl ⟨by rfl, ?_⟩) ?_ ?_
  rotate_left
  · intro w'
    go_simp
    with_reducible rfl
  rotate_left
  · simp only [Act.put, List.setIfInBounds_toArray, List.set_cons_zero, List.set_cons_succ, i64_w, i32_w]
    rfl
  refine pure_ (i := 1) (N := some 9) (v := ?_) (a' := ?_) #[true, true, false, false, false, false, false, false, false, false, false, false, false, false, false] rfl rfl (any_of HT_.out (by kernel_rfl)) (fun c a w h => hq9 _ (by decide) _ c a w h) (Or.inl ⟨by rfl, ?_⟩) ?_ ?_
  rotate_left
  · intro w'
    go_simp
    with_reducible rfl
  rotate_left
  · simp only [Act.put, List.setIfInBounds_toArray, List.set_cons_zero, List.set_cons_succ, i64_w, i32_w]
    rfl
  refine pure_ (i := 2) (N := some 10) (v := ?_) (a' := ?_) #[true, true, true, false, false, false, false, false, false, false, false, false, false, false, false] rfl rfl (any_of HT_.out (by kernel_rfl)) (fun c a w h => hq9 _ (by decide) _ c a w h) (Or.inl ⟨by rfl, ?_⟩) ?_ ?_
  rotate_left
  · intro w'
    go_simp
    with_reducible rfl
  rotate_left
  · simp only [Act.put, List.setIfInBounds_toArray, List.set_cons_zero, List.set_cons_succ, i64_w, i32_w]
    rfl
  refine pure_ (i := 3) (N := some 11) (v := ?_) (a' := ?_) #[true, true, true, true, false, false, false, false, false, false, false, false, false, false, false] rfl rfl (any_of HT_.out (by kernel_rfl)) (fun c a w h => hq9 _ (by decide) _ c a w h) (Or.inl ⟨by rfl, ?_⟩) ?_ ?_
  rotate_left
  · intro w'
    go_simp
    with_reducible rfl
  rotate_left
  · simp only [Act.put, List.setIfInBounds_toArray, List.set_cons_zero, List.set_cons_succ, i64_w, i32_w]
    rfl
  refine take_ (i := 4) (N := some 12) (v := ?_) (a' := ?_) #[true, true, true, true, true, false, false, false, false, false, false, false, false, false, false] rfl rfl (take_ofW HT_.out HW_.out (by kernel_rfl)) (fun c a w h => hq9 _ (by decide) _ c a w h) (Or.inl ⟨by rfl, ?_⟩) hHeld ?_ ?_
  rotate_left
  · intro w' hS_
    obtain ⟨k0_, k1_, k2_⟩ := cells3 hS_
    go_simp
    with_reducible rfl
  rotate_left
  · simp only [Act.put, List.setIfInBounds_toArray, List.set_cons_zero, List.set_cons_succ, i64_w, i32_w]
    rfl
  refine pure_ (i := 5) (N := some 13) (v := ?_) (a' := ?_) #[true, true, true, true, true, true, false, false, false, false, false, false, false, false, false] rfl rfl (any_of HT_.out (by kernel_rfl)) (fun c a w h => hq9 _ (by decide) _ c a w h) (Or.inl ⟨by rfl, ?_⟩) ?_ ?_
  rotate_left
  · intro w'
    go_simp
    with_reducible rfl
  rotate_left
  · simp only [Act.put, List.setIfInBounds_toArray, List.set_cons_zero, List.set_cons_succ, i64_w, i32_w]
    rfl
  refine pure_ (i := 6) (N := some 14) (v := ?_) (a' := ?_) #[true, true, true, true, true, true, true, false, false, false, false, false, false, false, false] rfl rfl (any_of HT_.out (by kernel_rfl)) (fun c a w h => hq9 _ (by decide) _ c a w h) (Or.inl ⟨by rfl, ?_⟩) ?_ ?_
  rotate_left
  · intro w'
    go_simp
    with_reducible rfl
  rotate_left
  · simp only [Act.put, List.setIfInBounds_toArray, List.set_cons_zero, List.set_cons_succ, i64_w, i32_w]
    rfl
  refine pure_ (i := 7) (N := some 15) (v := ?_) (a' := ?_) #[true, true, true, true, true, true, true, true, false, false, false, false, false, false, false] rfl rfl (any_of HT_.out (by kernel_rfl)) (fun c a w h => hq9 _ (by decide) _ c a w h) (Or.inl ⟨by rfl, ?_⟩) ?_ ?_
  rotate_left
  · intro w'
    go_simp
    with_reducible rfl
  rotate_left
  · simp only [Act.put, List.setIfInBounds_toArray, List.set_cons_zero, List.set_cons_succ, i64_w, i32_w]
    rfl
  refine take_ (i := 8) (N := some 16) (v := ?_) (a' := ?_) #[true, true, true, true, true, true, true, true, true, false, false, false, false, false, false] rfl rfl (take_ofW HT_.out HW_.out (by kernel_rfl)) (fun c a w h => hq9 _ (by decide) _ c a w h) (Or.inl ⟨by rfl, ?_⟩) hHeld ?_ ?_
  rotate_left
  · intro w' hS_
    obtain ⟨k0_, k1_, k2_⟩ := cells3 hS_
    go_simp
    with_reducible rfl
  rotate_left
  · simp only [Act.put, List.setIfInBounds_toArray, List.set_cons_zero, List.set_cons_succ, i64_w, i32_w]
    rfl
  refine pure_ (i := 9) (N := some 17) (v := ?_) (a' := ?_) #[true, true, true, true, true, true, true, true, true, true, false, false, false, false, false] rfl rfl (any_of HT_.out (by kernel_rfl)) (fun c a w h => hq9 _ (by decide) _ c a w h) (Or.inl ⟨by rfl, ?_⟩) ?_ ?_
  rotate_left
  · intro w'
    go_simp
    with_reducible rfl
  rotate_left
  · simp only [Act.put, List.setIfInBounds_toArray, List.set_cons_zero, List.set_cons_succ, i64_w, i32_w]
    rfl
  refine one_ (i := 10) (N := some 18) #[true, true, true, true, true, true, true, true, true, true, true, false, false, false, false] rfl rfl (one_of HT_.out (by kernel_rfl)) (by decide) (fun K hK => ?_)
  refine value_ (w1 := w2.alloc (.cells #[.int .i64 (T.l.length : Int)] 3)) (v := .slice (some ⟨w2.heap.size, 0, none⟩) 1 1) (by rfl) rfl (by first | (go_simp; done) | (go_simp; rfl)) ?_
  have hbw : b ≤ w2.heap.size := by have := HOG.out.2; have := blk_lt XG.out; omega
  refine hK.out _ _ (blk_alloc XG.out _) (fun hHeld => ?_)
  clear hK K
  refine norm_ (a' := ?_) ?_ ?_
  rotate_left
  · show Act.put _ (some 18) _ = _
    simp only [Act.put, List.setIfInBounds_toArray, List.set_cons_zero, List.set_cons_succ, i64_w, i32_w]
    rfl
  refine one_ (i := 11) (N := some 19) #[true, true, true, true, true, true, true, true, true, true, true, true, false, false, false] rfl rfl (one_of HT_.out (by kernel_rfl)) (by decide) (fun K hK => ?_)
  refine Kd.R_append_step (Kd.int .i64) (w0 := w2) b (by rfl) (.tmp 12) (.tmp 18) 28 3 (.int .i64 0) 8 rfl Try.underlying28 info3 rfl (by decide) (by omega) _ T.frm (T.l.length : Int) [.int .i64 (T.l.length : Int)] (fun k => newer w2 (fun k => ok k ∧ k < w.heap.size) k ∧ some k ≠ (Value.slice A1 T.l.length c1).ownBlock) (fun _ => False) rfl rfl rfl (fun _ hk => hk.elim) (fun k hk => ⟨Or.inr hk, Kd.fresh_ok X1.out k hk⟩) (Kd.R_mono X2.out (fun k hk => ⟨Or.inl hk.1, hk.2⟩)) (Below.refl _ _) hbw (by have := HFI.out.fl; omega) ?_
  intro v3 w3 ho hb hg hat
  have Y0 := Lib.hid (Kd.R_over' X0.out (Kd.R_typed X2.out) (by decide) hg)
  have Y1 := Lib.hid (Kd.R_after X1.out hg hat)
  have YG := Lib.hid (blk_grown XG.out hg (Kd.R_ne X2.out XG.out (by decide)))
  have YE := Lib.hid (blk_grown XE.out hg (fun he => by have := (X2.out.1 _ he.symm).1.2; omega))
  have YF := Lib.hid (XF.out.trans (Fr.grown (ok := fun k => ok k ∧ k < w.heap.size) hg (fun k hk => (X2.out.1 k hk).1)) (fun _ _ hk => hk))
  have YZ := Lib.hid (Nat.le_trans XF.out.size hg.size)
  obtain ⟨f1, hf1⟩ : ∃ f1, T.frm ++ [(T.l.length : Int)] = f1 := ⟨_, rfl⟩
  rw [hf1] at ho
  have HF1 := Lib.hid hf1
  obtain ⟨A3, c3, rfl⟩ := Kd.R_slice ho
  have Y2 := Lib.hid (Kd.R_mono ho (fun k hk => (show newer (w.alloc (.cells #[.int .i64 0] 25)) (fun k => ok k ∧ k < w.heap.size) k ∧ _ from ⟨hk.1.imp id (fun hk => Nat.le_trans XF.out.size hk), hk.2⟩)))
  have YL := Lib.hid (Kd.R_mono Y1.out (fun k hk => (show newer (w.alloc (.cells #[.int .i64 0] 25)) (fun k => ok k ∧ k < w.heap.size) k ∧ some k ≠ (Value.slice A3 f1.length c3).ownBlock from ⟨Or.inl hk.1, hk.2⟩)))
  clear X0 X1 X2 XG XE XF ho hb hg hat hf1 Y1
  refine hK.out _ _ YG.out (fun hHeld => ?_)
  clear hK K
  refine norm_ (a' := ?_) ?_ ?_
  rotate_left
  · show Act.put _ (some 19) _ = _
    simp only [Act.put, List.setIfInBounds_toArray, List.set_cons_zero, List.set_cons_succ, i64_w, i32_w]
    rfl
  refine pure_ (i := 12) (N := some 20) (v := ?_) (a' := ?_) #[true, true, true, true, true, true, true, true, true, true, true, true, true, false, false] rfl rfl (any_of HT_.out (by kernel_rfl)) (fun c a w h => hq9 _ (by decide) _ c a w h) (Or.inl ⟨by rfl, ?_⟩) ?_ ?_
  rotate_left
  · intro w'
    go_simp
    with_reducible rfl
  rotate_left
  · simp only [Act.put, List.setIfInBounds_toArray, List.set_cons_zero, List.set_cons_succ, i64_w, i32_w]
    rfl
  refine pure_ (i := 13) (N := some 21) (v := ?_) (a' := ?_) #[true, true, true, true, true, true, true, true, true, true, true, true, true, true, false] rfl rfl (any_of HT_.out (by kernel_rfl)) (fun c a w h => hq9 _ (by decide) _ c a w h) (Or.inl ⟨by rfl, ?_⟩) ?_ ?_
  rotate_left
  · intro w'
    go_simp
    with_reducible rfl
  rotate_left
  · simp only [Act.put, List.setIfInBounds_toArray, List.set_cons_zero, List.set_cons_succ, i64_w, i32_w]
    rfl
  refine last_ (i := 14) (N := none) #[true, true, true, true, true, true, true, true, true, true, true, true, true, true, true] rfl rfl (one_of HT_.out (by kernel_rfl)) (by decide) (fun K hK => ?_)
  have k2 := (cells3 YG.out).2.2
  have hf2 := blk_frozen YG.out 2
  refine skip_ (w1 := ?_) (by rfl) rfl ?_ ?_
  rotate_left
  · go_simp
    rfl
  clear k2 hf2 hHeld
  have hAT : At (w3.setCell ⟨g, 2, none⟩ (.slice A3 f1.length c3)) b g (newer (w.alloc (.cells #[.int .i64 0] 25)) (fun k => ok k ∧ k < w.heap.size)) ⟨T.of, T.l, f1⟩ :=
    ⟨_, _, _, blk_put YG.out 2 _ rfl, Or.inl HOG.out.1, HOG.out.2, Kd.R_mono (Kd.R_set Y0.out YG.out (by decide) 2 _) (fun _ hk => Or.inl hk), Kd.R_set YL.out YG.out (by decide) 2 _, Kd.R_set Y2.out YG.out (by decide) 2 _⟩
  have HAT := Lib.hid hAT
  have ZE := Lib.hid (blk_far (p := ⟨g, 2, none⟩) YE.out (blk_ne YE.out YG.out (by decide)) (.slice A3 f1.length c3))
  have ZF := Lib.hid (YF.out.trans (Fr.set (ok := fun k => ok k ∧ k < w.heap.size) ⟨g, 2, none⟩ (.slice A3 f1.length c3) HOG.out.1) (fun _ _ hk => hk))
  clear hAT Y0 YL Y2 YG YE YF
  generalize w3.setCell { block := g, off := 2, spot := none } (Value.slice A3 f1.length c3) = w4 at HAT ZE ZF ⊢
  refine hK.out _ _ ?_
  clear hK K
  refine done_ (done_of HT_.out (by kernel_rfl)) ?_
  clear HT_ HW_
  have HP := Lib.hid (put_any HAT.out HFI.out.n2 HFI.out.ll x (-1) HKN.out.2)
  go_wp2_with fail
  refine HP.out.mono ?_
  rintro e w5 ⟨rfl, hA5, hF5⟩
  have HE5 := Lib.hid ((hF5.block w.heap.size (blk_lt ZE.out) (not_newer w ok _)).trans ZE.out)
  have HA5 := Lib.hid hA5
  have HF5 := Lib.hid (hF5)
  clear hA5 hF5 HP HAT
  have hc5 := (e_cell HE5.out).1
  have hz5 := (e_cell HE5.out).2
  go_wp2_with fail
  exact door9_ret w.heap.size 0 _ _ _ rfl rfl (World.cell?_setCell_same _ _ _ hc5) (done_box HA5.out ZF.out HF5.out (by rw [HDT.out, HF1.out]))
set_option maxRecDepth 100000 in
set_option maxHeartbeats 4000000 in
theorem imply_arg {w : World} {b g : Nat} {ok : Nat → Prop} {T : TS} (hT : At w b g ok T) (hn : T.of.length ≤ 257) (x r : Int) (h : may T x = 0) (hr : ¬ 0 ≤ r) :
    Calls Try.prog 17 #[.pointer (some ⟨g, 0, none⟩), .int .i64 x, .int .i64 r] w fun e w' => e = .returned (.int .i64 1) ∧ At w' b g (newer w ok) T ∧ Fr w w' ok := by
  have HT := Lib.hid (hT.boxed (.cells #[.int .i64 0] 25))
  have HE := Lib.hid (show (w.alloc (.cells #[.int .i64 0] 25)).heap[w.heap.size]? = some (.cells #[.int .i64 0] 25 (0, 0)) from blk_new w _)
  have HF := Lib.hid (free_ok HT.out hn x h)
  have e0 : decide (0 ≤ r) = false := decide_eq_false hr
  clear h hn hT hr
  go_enter_defers Try.func17, Try.ntmps17
  go_wp2_with fail
  refine HF.out.mono ?_
  rintro e w1 ⟨rfl, hb⟩
  have HB := Lib.hid hb
  clear hb HF
  go_wp2_with fail
  refine (must_false _ _).mono ?_
  rintro e w' ⟨rfl, rfl⟩
  have hE := blk_below HE.out HB.out
  have hA := HT.out.below HB.out
  refine door17_panic w.heap.size 1 _ _ _ w1 rfl rfl (e_cell hE).1 (e_cell hE).2 ⟨rfl, ?_, ?_⟩
  · exact (hA.far (by simp) _).mono (fun k hk => Or.inl hk.1)
  · exact fr_done (fr_box (Fr.below HB.out _)) (Nat.le_refl _) _
set_option maxRecDepth 100000 in
set_option maxHeartbeats 4000000 in
theorem imply_ok {w : World} {b g : Nat} {ok : Nat → Prop} {T : TS} (hT : At w b g ok T) (hF : Fine T) (x r : Int) (h : may T x = 0) (hr : 0 ≤ r) :
    Calls Try.prog 17 #[.pointer (some ⟨g, 0, none⟩), .int .i64 x, .int .i64 r] w fun e w' => e = .returned (.int .i64 0) ∧ At w' b g (newer w ok) (put T x r) ∧ Fr w w' ok := by
  have HT := Lib.hid (hT.boxed (.cells #[.int .i64 0] 25))
  have HE := Lib.hid (show (w.alloc (.cells #[.int .i64 0] 25)).heap[w.heap.size]? = some (.cells #[.int .i64 0] 25 (0, 0)) from blk_new w _)
  have HF := Lib.hid (free_ok HT.out hF.n2 x h)
  have HFI := Lib.hid hF
  have HKN := Lib.hid (kn_abs (may_zero h).1)
  have e0 : decide (0 ≤ r) = true := decide_eq_true hr
  clear h hF hT hr
  go_enter_defers Try.func17, Try.ntmps17
  go_wp2_with fail
  refine HF.out.mono ?_
  rintro e w1 ⟨rfl, hb⟩
  have HB := Lib.hid hb
  clear hb HF
  go_wp2_with ((with_reducible refine (must_true _ _).mono ?_); rintro e w' ⟨rfl, rfl⟩)
  have HP := Lib.hid (put_any (HT.out.below HB.out) HFI.out.n2 HFI.out.ll x r HKN.out.2)
  refine HP.out.mono ?_
  rintro e w5 ⟨rfl, hA5, hF5⟩
  have HE1 := Lib.hid (blk_below HE.out HB.out)
  have HE5 := Lib.hid ((hF5.block w.heap.size (blk_lt HE1.out) (fun hk => by have := hk.2; omega)).trans HE1.out)
  have HZ := Lib.hid (done_box (T' := put T x r) (er := 0) (v := .int .i64 0) (o := .cells #[.int .i64 0] 25) (hA5.mono (fun k hk => hk.imp Or.inl id)) (Fr.below HB.out _) (hF5.mono (fun k hlt hk => Or.inl hk)) rfl)
  clear hA5 hF5 HP HT HE HE1 HB
  have hc5 := (e_cell HE5.out).1
  have hz5 := (e_cell HE5.out).2
  go_wp2_with fail
  exact door17_ret w.heap.size 0 _ _ _ rfl rfl (World.cell?_setCell_same _ _ _ hc5) ⟨rfl, HZ.out.2⟩
/-- Decide, whatever comes -/
theorem decide_any {w : World} {b g : Nat} {ok : Nat → Prop} {T : TS} (hT : At w b g ok T) (hF : Fine T) (x : Int) :
    Calls Try.prog 9 #[.pointer (some ⟨g, 0, none⟩), .int .i64 x] w fun e w' => e = .returned (.int .i64 (decE T x)) ∧ At w' b g (newer w ok) (decT T x) ∧ Fr w w' ok := by
  by_cases h : may T x = 0
  · have e : decE T x = 0 := h
    rw [e]
    exact decide_ok hT hF x h
  · have e : decT T x = T := by unfold decT; rw [if_neg h]
    rw [e]
    exact decide_bad hT hF.n2 x h
/-- Imply, whatever comes -/
theorem imply_any {w : World} {b g : Nat} {ok : Nat → Prop} {T : TS} (hT : At w b g ok T) (hF : Fine T) (x r : Int) :
    Calls Try.prog 17 #[.pointer (some ⟨g, 0, none⟩), .int .i64 x, .int .i64 r] w fun e w' => e = .returned (.int .i64 (impE T x r)) ∧ At w' b g (newer w ok) (impT T x r) ∧ Fr w w' ok := by
  by_cases h : may T x = 0
  · by_cases hr : 0 ≤ r
    · have e : impE T x r = 0 := by unfold impE; rw [if_pos h, if_pos hr]
      have e2 : impT T x r = put T x r := by unfold impT; rw [if_pos ⟨h, hr⟩]
      rw [e, e2]
      exact imply_ok hT hF x r h hr
    · have e : impE T x r = 1 := by unfold impE; rw [if_pos h, if_neg hr]
      have e2 : impT T x r = T := by unfold impT; rw [if_neg (fun h => hr h.2)]
      rw [e, e2]
      exact imply_arg hT hF.n2 x r h hr
  · have e : impE T x r = may T x := by unfold impE; rw [if_neg h]
    have e2 : impT T x r = T := by unfold impT; rw [if_neg (fun hh => h hh.1)]
    rw [e, e2]
    exact imply_bad hT hF.n2 x r h

end Go.Proofs.Ytdcemlennobjhaa.Tr
