/-
  The walk of cnf.CheckAll.
-/
import Derived.Test.YtjbljblhbmfbpaaRupB
namespace Go.Proofs.Ytjbljblhbmfbpaa
open Go.RowKit Prop15 Go.Proofs.YtjbljblhbmfbpaaW.PrintWords

/-- what cnf.CheckAll tells of the clauses from one on. -/
def chkFrom (n : Int) : List (List Int) → Nat → Int × Int
  | [], _ => (0, 0)
  | c :: l, i => if chk n c = 0 then chkFrom n l (i + 1) else ((i : Int), chk n c)
def chkAll (n : Int) (l : List (List Int)) : Int × Int := if n < 0 ∨ n > 256 then (0, 1) else if (l.length : Int) > 131072 then (0, 4) else chkFrom n l 0

def CkPost (w : World) (r : Int × Int) (e : Ending) (w' : World) : Prop := e = .returned (.tuple #[.int .i64 r.1, .int .i64 r.2]) ∧ Below w.heap.size w w'

/-- what stays of the call's own two variables while it works -/
structure BoxI (w wr : World) : Prop where
  bel : Below w.heap.size w wr
  sz : w.heap.size + 1 < wr.heap.size
  cO : wr.cell? ⟨w.heap.size, 0, none⟩ = some (.int .i64 0)
  zO : wr.frozen? ⟨w.heap.size, 0, none⟩ = false
  cI : wr.cell? ⟨w.heap.size + 1, 0, none⟩ = some (.int .i64 0)
  zI : wr.frozen? ⟨w.heap.size + 1, 0, none⟩ = false
theorem BoxI.step {w wr wr' : World} {b : Nat} (h : BoxI w wr) (hb : Below b wr wr') (hbb : w.heap.size + 2 ≤ b) : BoxI w wr' :=
  ⟨h.bel.trans (hb.mono (by omega)), Nat.lt_of_lt_of_le h.sz hb.size, (hb.cell (by simp; omega)).trans h.cO, (hb.frozen (by simp; omega)).trans h.zO, (hb.cell (by simp; omega)).trans h.cI, (hb.frozen (by simp; omega)).trans h.zI⟩
theorem BoxI.start (w : World) : BoxI w ((w.alloc (.cells #[.int .i64 0] 3)).alloc (.cells #[.int .i64 0] 46)) :=
  ⟨((Below.refl w.heap.size w).alloc (Nat.le_refl _) _).alloc (by simp) _, by simp, by simp, by simp, by simp, by simp⟩

theorem set_cells (w' : World) (sz ty : Nat) (at_ er : Int) (a b : Value) (hsz : sz + 1 < w'.heap.size)
    (hc : w'.cell? ⟨sz, 0, none⟩ = some a) (hc2 : w'.cell? ⟨sz + 1, 0, none⟩ = some b) (cs : Array Value) :
    ((((w'.alloc (.cells cs ty)).setCell ⟨sz, 0, none⟩ (.int .i64 at_)).setCell ⟨sz + 1, 0, none⟩ (.int .i64 er)).drew.cell? ⟨sz, 0, none⟩ = some (.int .i64 at_))
    ∧ ((((w'.alloc (.cells cs ty)).setCell ⟨sz, 0, none⟩ (.int .i64 at_)).setCell ⟨sz + 1, 0, none⟩ (.int .i64 er)).drew.cell? ⟨sz + 1, 0, none⟩ = some (.int .i64 er)) := by
  have e (W : World) (p : Addr) : W.drew.cell? p = W.cell? p := by simp
  rw [e, e]
  constructor
  · rw [cell_other _ _ _ _ (by simp)]
    exact World.cell?_setCell_same _ _ _ (((cell_alloc w' (.cells cs ty) ⟨sz, 0, none⟩ (by simp; omega)).trans hc))
  · refine World.cell?_setCell_same _ _ _ (u := b) ?_
    rw [cell_other _ _ _ _ (by simp)]
    exact ((cell_alloc w' (.cells cs ty) ⟨sz + 1, 0, none⟩ hsz).trans hc2)

theorem doorC_panic {R : Ending → World → Prop} {w : World} (at_ er : Int) (hR : ∀ e w'', CkPost w (at_, er) e w'' → R e w'') (tmps : Array Value) (ds : List Deferred) (w' : World)
    (hds : ds = [{ target := .fn (.func 50) #[], args := #[.pointer (some ⟨w.heap.size, 0, none⟩), .pointer (some ⟨w.heap.size + 1, 0, none⟩)] }])
    (h6 : tmps[4]?.getD undef = .pointer (some ⟨w.heap.size, 0, none⟩)) (h7 : tmps[5]?.getD undef = .pointer (some ⟨w.heap.size + 1, 0, none⟩)) (hx : BoxI w w') :
    Leaves Try.prog Try.f42 tmps R ds (.panicking (wrongC at_ er)) w' := by
  subst hds
  refine leaves_cons (f := 50) (args := #[.pointer (some ⟨w.heap.size, 0, none⟩), .pointer (some ⟨w.heap.size + 1, 0, none⟩)]) (by simp) (by simp [go_sem]) ?_
  refine (catchC_panicking ⟨w.heap.size, 0, none⟩ ⟨w.heap.size + 1, 0, none⟩ _ _ at_ er [] w' hx.cO hx.zO hx.cI hx.zI (by simp) (by have := hx.sz; simp; omega) hx.sz).mono ?_
  rintro e u' w'' ⟨rfl, rfl, rfl⟩
  obtain ⟨g1, g2⟩ := set_cells w' w.heap.size 91 at_ er _ _ hx.sz hx.cO hx.cI #[.int .i64 at_, .int .i64 er]
  refine ⟨.tuple #[.int .i64 at_, .int .i64 er], ?_, hR _ _ ⟨rfl, ?_⟩⟩
  · generalize (((w'.alloc (.cells #[.int .i64 at_, .int .i64 er] 91)).setCell ⟨w.heap.size, 0, none⟩ (.int .i64 at_)).setCell ⟨w.heap.size + 1, 0, none⟩ (.int .i64 er)).drew = W at g1 g2 ⊢
    simp [results, Try.results42, go_sem, h6, h7, g1, g2]
  · exact (((hx.bel.alloc hx.bel.size _).setCell (p := ⟨w.heap.size, 0, none⟩) (Nat.le_refl _) _).setCell (p := ⟨w.heap.size + 1, 0, none⟩) (by simp) _).drew

theorem doorC_return {R : Ending → World → Prop} {w : World} (at_ er : Int) (hR : ∀ e w'', CkPost w (at_, er) e w'' → R e w'') (tmps : Array Value) (ds : List Deferred) (w' : World)
    (hds : ds = [{ target := .fn (.func 50) #[], args := #[.pointer (some ⟨w.heap.size, 0, none⟩), .pointer (some ⟨w.heap.size + 1, 0, none⟩)] }])
    (h6 : tmps[4]?.getD undef = .pointer (some ⟨w.heap.size, 0, none⟩)) (h7 : tmps[5]?.getD undef = .pointer (some ⟨w.heap.size + 1, 0, none⟩))
    (hb : Below w.heap.size w w') (hc : w'.cell? ⟨w.heap.size, 0, none⟩ = some (.int .i64 at_)) (hc2 : w'.cell? ⟨w.heap.size + 1, 0, none⟩ = some (.int .i64 er)) :
    Leaves Try.prog Try.f42 tmps R ds .returning w' := by
  subst hds
  refine leaves_cons (f := 50) (args := #[.pointer (some ⟨w.heap.size, 0, none⟩), .pointer (some ⟨w.heap.size + 1, 0, none⟩)]) (by simp) (by simp [go_sem]) ?_
  refine (catchC_idle ⟨w.heap.size, 0, none⟩ ⟨w.heap.size + 1, 0, none⟩ w').mono ?_
  rintro e u' w'' ⟨rfl, rfl, rfl⟩
  refine ⟨.tuple #[.int .i64 at_, .int .i64 er], ?_, hR _ _ ⟨rfl, hb⟩⟩
  simp [results, Try.results42, go_sem, h6, h7, hc, hc2]

set_option maxHeartbeats 1000000 in
theorem CheckAll_any (n : Int) (A : Option Addr) (l : List (List Int)) (c1 : Nat) (w : World) (hC : Kd.C (Kd.slice 3 (Kd.int .i64)) w A l.length l) :
    Calls Try.prog 42 #[.int .i64 n, .slice A l.length c1] w (CkPost w (chkAll n l)) := by
  have hmax := Kd.C_max hC
  have HC := Lib.hid hC
  have HB0 := Lib.hid (BoxI.start w)
  clear hC
  by_cases h1 : 0 ≤ n
  · have h1b : decide (0 ≤ n) = true := decide_eq_true h1
    by_cases h2 : n ≤ 256
    · have h2b : decide (n ≤ 256) = true := decide_eq_true h2
      have h12 : ¬(n < 0 ∨ n > 256) := by rintro (h | h) <;> omega
      by_cases h3 : (l.length : Int) ≤ 131072
      · have h3b : decide ((l.length : Int) ≤ 131072) = true := decide_eq_true h3
        have hc : chkAll n l = chkFrom n l 0 := by unfold chkAll; rw [if_neg h12, if_neg (by omega)]
        rw [hc]
        clear hc h12
        go_enter_defers Try.func42, Try.ntmps42
        go_wp2_with ((with_reducible refine (mustC_true _ _ _).mono ?_); rintro e w' ⟨rfl, rfl⟩)
        clear h3 h3b
        go_loopw [22] (fun t wr => ∃ k : Nat, k ≤ l.length ∧ t = .int .i64 k ∧ Hid (BoxI w wr) ∧ Hid (chkFrom n (l.drop k) k = chkFrom n l 0)) (fun t _ => l.length - (intOf t).toNat)
        case atStart => exact ⟨0, Nat.zero_le _, rfl, HB0, Lib.hid rfl⟩
        case round =>
          clear HB0
          obtain ⟨k, hk, rfl, HX, HRES⟩ := hrel
          by_cases hlt : k < l.length
          · obtain ⟨ad, Ac, cc, hA1, hcell, hcc, hC⟩ := at_row wr A l (Kd.C_below HC.out HX.out.bel) k hlt
            subst hA1
            obtain ⟨x, hx⟩ : ∃ x, l.getD k [] = x := ⟨_, rfl⟩
            have hdrop : l.drop k = x :: l.drop (k + 1) := by
              rw [List.drop_eq_getElem_cons hlt, ← hx, List.getD_eq_getElem?_getD, List.getElem?_eq_getElem hlt]; simp
            rw [hx] at hcell hcc hC
            have hres := HRES.out
            rw [hdrop] at hres
            simp only [chkFrom] at hres
            have HP := Check_any n Ac x cc wr hC
            have hklt : (k : Int) < (l.length : Int) := by omega
            obtain ⟨r, hr⟩ : ∃ r, chk n x = r := ⟨_, rfl⟩
            rw [hr] at HP hres
            have HP2 := Lib.hid HP
            have HRES2 := Lib.hid hres
            clear HP hres hr hdrop hx HRES hC hcc
            by_cases hr0 : r = 0
            · subst hr0
              go_wp2_with fail
              refine HP2.out.mono ?_
              rintro e w' ⟨rfl, hb⟩
              have HX2 := Lib.hid (HX.out.step hb (by have := HX.out.sz; omega))
              clear hb
              go_wp2_with ((with_reducible refine (mustC_true _ _ _).mono ?_); rintro e w' ⟨rfl, rfl⟩)
              exact ⟨⟨k + 1, hlt, by go_num, HX2, Lib.hid (by have := HRES2.out; rwa [if_pos trivial] at this)⟩, by simp only [intOf]; omega⟩
            · have hrb : (r == 0) = false := beq_eq_false_iff_ne.mpr hr0
              have hres := HRES2.out
              rw [if_neg hr0] at hres
              go_wp2_with fail
              refine HP2.out.mono ?_
              rintro e w' ⟨rfl, hb⟩
              have HX2 := Lib.hid (HX.out.step hb (by have := HX.out.sz; omega))
              clear hb
              go_wp2_with fail
              refine (mustC_false _ _ _).mono ?_
              rintro e w'' ⟨rfl, rfl⟩
              exact doorC_panic (w := w) k r (fun _ _ h => by rw [← hres]; exact h) _ _ _ rfl rfl rfl HX2.out
          · obtain rfl : k = l.length := by omega
            have hres := HRES.out
            rw [List.drop_length] at hres
            simp only [chkFrom] at hres
            have HB := HX.out.bel
            have hc1 := HX.out.cO
            have hc2 := HX.out.cI
            have hz1 := HX.out.zO
            have hz2 := HX.out.zI
            go_wp2_with fail
            have hz1' := (cell_other wr ⟨w.heap.size, 0, none⟩ ⟨w.heap.size + 1, 0, none⟩ (.int .i64 0) (by simp)).trans hc2
            refine doorC_return (w := w) 0 0 (fun _ _ h => by rw [← hres]; exact h) _ _ _ rfl rfl rfl ((HB.setCell (p := ⟨w.heap.size, 0, none⟩) (Nat.le_refl _) _).setCell (p := ⟨w.heap.size + 1, 0, none⟩) (by simp) _) ?_ (World.cell?_setCell_same _ _ _ hz1')
            rw [cell_other _ _ _ _ (by simp)]
            exact World.cell?_setCell_same _ _ _ hc1
      · have h3b : decide ((l.length : Int) ≤ 131072) = false := decide_eq_false h3
        have hc : chkAll n l = (0, 4) := by unfold chkAll; rw [if_neg h12, if_pos (by omega)]
        rw [hc]
        clear hc h12
        go_enter_defers Try.func42, Try.ntmps42
        go_wp2_with ((with_reducible refine (mustC_true _ _ _).mono ?_); rintro e w' ⟨rfl, rfl⟩)
        refine (mustC_false _ _ _).mono ?_
        rintro e w' ⟨rfl, rfl⟩
        exact doorC_panic (w := w) 0 4 (fun _ _ h => h) _ _ _ rfl rfl rfl HB0.out
    · have h2b : decide (n ≤ 256) = false := decide_eq_false h2
      have hc : chkAll n l = (0, 1) := by unfold chkAll; rw [if_pos (by omega)]
      rw [hc]
      clear hc
      go_enter_defers Try.func42, Try.ntmps42
      go_wp2_with fail
      refine (mustC_false _ _ _).mono ?_
      rintro e w' ⟨rfl, rfl⟩
      exact doorC_panic (w := w) 0 1 (fun _ _ h => h) _ _ _ rfl rfl rfl HB0.out
  · have h1b : decide (0 ≤ n) = false := decide_eq_false h1
    have hc : chkAll n l = (0, 1) := by unfold chkAll; rw [if_pos (by omega)]
    rw [hc]
    clear hc
    go_enter_defers Try.func42, Try.ntmps42
    go_wp2_with fail
    refine (mustC_false _ _ _).mono ?_
    rintro e w' ⟨rfl, rfl⟩
    exact doorC_panic (w := w) 0 1 (fun _ _ h => h) _ _ _ rfl rfl rfl HB0.out
end Go.Proofs.Ytjbljblhbmfbpaa
