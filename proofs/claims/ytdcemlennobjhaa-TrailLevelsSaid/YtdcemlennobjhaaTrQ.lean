/-
  Plain: what is asked of a trail of which it is known what was said; trails to which one implies and decides in turn. Conditions: as each statement has them.
-/
import Derived.Test.YtdcemlennobjhaaTrL
namespace Go.Proofs.Ytdcemlennobjhaa.Tr
open Go.RowKit Go.Proofs.YtdcemlennobjhaaW.PrintWords Go.Proofs.Ytdcemlennobjhaa.PTrailPlays
set_option linter.unusedSimpArgs false
set_option linter.unusedVariables false
section
variable {N d : Nat} {L : List En}
theorem isat_mem (h : WF N L d) {e : En} (he : e ∈ L) : isat (conc N L d) (e.x.natAbs : Int) = true ∧ pl (conc N L d) (e.x.natAbs : Int) = e.pl := by
  have hl := h.lits e he
  have hp : pl (conc N L d) (e.x.natAbs : Int) = e.pl := by
    rw [conc_pl (by omega), Int.natAbs_natCast]
    exact look_mem h.dist he
  refine ⟨?_, hp⟩
  unfold isat
  rw [hp, conc_of_length]
  simp only [Bool.and_eq_true, decide_eq_true_eq]
  exact ⟨by omega, by omega, hl.1⟩
theorem lvl_mem (h : WF N L d) {e : En} (he : e ∈ L) : lvlT (conc N L d) (e.x.natAbs : Int) = e.v := by
  obtain ⟨h1, h2⟩ := isat_mem h he
  unfold lvlT
  rw [if_pos h1, h2]; rfl
theorem rea_mem (h : WF N L d) {e : En} (he : e ∈ L) : reaT (conc N L d) (e.x.natAbs : Int) = e.r := by
  obtain ⟨h1, h2⟩ := isat_mem h he
  unfold reaT
  rw [if_pos h1, h2]; rfl
theorem lvl_none {k : Nat} (hk : k ≤ N) (h : ∀ e ∈ L, e.x.natAbs ≠ k) : lvlT (conc N L d) (k : Int) = -1 := by
  have hp : pl (conc N L d) (k : Int) = z69 := by rw [conc_pl (by omega), Int.natAbs_natCast, look_none h]
  unfold lvlT isat
  rw [hp, if_neg (by simp [z69])]
theorem val_mem (h : WF N L d) {e : En} (he : e ∈ L) : valT (conc N L d) e.x = 1 ∧ valT (conc N L d) (-e.x) = -1 := by
  have hl := h.lits e he
  have h1 : pl (conc N L d) e.x = e.pl := by rw [conc_pl hl.2]; exact look_mem h.dist he
  have h2 : pl (conc N L d) (-e.x) = e.pl := by rw [conc_pl (by omega), Int.natAbs_neg]; exact look_mem h.dist he
  have hx := hl.1
  constructor
  · unfold valT
    rw [if_pos (conc_kn.2 ⟨hl.1, hl.2⟩), h1]
    show (if e.x = 0 then (0 : Int) else if e.x = e.x then 1 else -1) = 1
    rw [if_neg hx, if_pos rfl]
  · unfold valT
    rw [if_pos (conc_kn.2 ⟨by omega, by omega⟩), h2]
    show (if e.x = 0 then (0 : Int) else if e.x = -e.x then 1 else -1) = -1
    rw [if_neg hx, if_neg (by omega)]
theorem val_none {k : Nat} (h0 : 1 ≤ k) (hk : k ≤ N) (h : ∀ e ∈ L, e.x.natAbs ≠ k) : valT (conc N L d) (k : Int) = 0 := by
  have hp : pl (conc N L d) (k : Int) = z69 := by rw [conc_pl (by omega), Int.natAbs_natCast, look_none h]
  unfold valT
  rw [hp, if_pos (conc_kn.2 ⟨by omega, by omega⟩)]
  rfl
end
/-- the first variables were implied ahead of all decisions, the contrary each -/
structure Fz (L : List En) (f : Nat) : Prop where
  has : ∀ k : Nat, 1 ≤ k → k ≤ f → ∃ r, (⟨-(k : Int), 0, r⟩ : En) ∈ L
  room : f ≤ upto L 0
theorem Fz.none (L : List En) : Fz L 0 := ⟨fun k h1 h2 => by omega, Nat.zero_le _⟩
theorem Fz.snoc {L : List En} {f : Nat} (h : Fz L f) (e : En) : Fz (L ++ [e]) f := ⟨fun k h1 h2 => by
  obtain ⟨r, hr⟩ := h.has k h1 h2
  exact ⟨r, List.mem_append_left _ hr⟩, by rw [upto_snoc]; have := h.room; omega⟩
theorem Fz.back {L : List En} {f : Nat} (h : Fz L f) (n : Nat) : Fz (backTo L n) f := ⟨fun k h1 h2 => by
  obtain ⟨r, hr⟩ := h.has k h1 h2
  exact ⟨r, List.mem_filter.2 ⟨hr, by simp⟩⟩, by rw [upto_back (Nat.zero_le _)]; exact h.room⟩
theorem Fz.more {L : List En} (h : Fz L L.length) (r : Int) : Fz (L ++ [⟨-((L.length : Int) + 1), 0, r⟩]) (L.length + 1) := ⟨fun k h1 h2 => by
  by_cases hk : k ≤ L.length
  · obtain ⟨r', hr⟩ := h.has k h1 hk
    exact ⟨r', List.mem_append_left _ hr⟩
  · obtain rfl : k = L.length + 1 := by omega
    exact ⟨r, List.mem_append_right _ (by simp)⟩, by rw [upto_snoc]; have := h.room; simp; omega⟩
/-- the variables have come one by one -/
structure Tk (N : Nat) (L : List En) (d : Nat) : Prop where
  wf : WF N L d
  bd : ∀ e ∈ L, e.x.natAbs ≤ L.length
theorem Tk.nil {N : Nat} (h : N ≤ 256) : Tk N [] 0 := ⟨WF.empty h, fun e he => by cases he⟩
theorem Tk.free {N : Nat} {L : List En} {d : Nat} (h : Tk N L d) {x : Int} (hx : x.natAbs = L.length + 1) (hl : L.length < N) : isFree N L x := ⟨by omega, by omega, fun e he => by have := h.bd e he; omega⟩
theorem Tk.fine {N : Nat} {L : List En} {d : Nat} (h : Tk N L d) (hl : L.length ≤ N) : Fine (conc N L d) := h.wf.fine (by have := h.wf.n2; omega)
theorem Tk.snoc {N : Nat} {L : List En} {d d' : Nat} (h : Tk N L d) {e : En} (hx : e.x.natAbs = L.length + 1) (hl : L.length < N) (hv : e.v = d') (hd : d ≤ d') (hr : -1 ≤ e.r) (hd' : d' ≤ d + 1) : Tk N (L ++ [e]) d' :=
  ⟨h.wf.snoc (h.free hx hl) hv hd hr hd', fun a ha => by
    rw [List.length_append, List.length_singleton]
    rcases List.mem_append.1 ha with ha | ha
    · have := h.bd a ha; omega
    · rw [List.mem_singleton.1 ha]; omega⟩
theorem Tk.dec {N : Nat} {L : List En} {d : Nat} (h : Tk N L d) {x : Int} (hx : x.natAbs = L.length + 1) (hl : L.length < N) : Tk N (L ++ [⟨x, d + 1, -1⟩]) (d + 1) ∧ decE (conc N L d) x = 0 ∧ decT (conc N L d) x = conc N (L ++ [⟨x, d + 1, -1⟩]) (d + 1) :=
  ⟨h.snoc hx hl rfl (by omega) (by simp) (Nat.le_refl _), may_free h.wf (h.free hx hl), dec_conc h.wf (h.free hx hl)⟩
theorem Tk.imp {N : Nat} {L : List En} {d : Nat} (h : Tk N L d) {x r : Int} (hx : x.natAbs = L.length + 1) (hl : L.length < N) (hr : 0 ≤ r) :
    Tk N (L ++ [⟨x, d, r⟩]) d ∧ impE (conc N L d) x r = 0 ∧ impT (conc N L d) x r = conc N (L ++ [⟨x, d, r⟩]) d ∧ lvlT (conc N (L ++ [⟨x, d, r⟩]) d) ((L.length : Int) + 1) = d ∧ reaT (conc N (L ++ [⟨x, d, r⟩]) d) ((L.length : Int) + 1) = r := by
  have hT : Tk N (L ++ [⟨x, d, r⟩]) d := h.snoc (e := ⟨x, d, r⟩) hx hl rfl (Nat.le_refl _) (by show (-1 : Int) ≤ r; omega) (Nat.le_succ _)
  have hm : (⟨x, d, r⟩ : En) ∈ L ++ [⟨x, d, r⟩] := by simp
  have hc : ((L.length : Int) + 1) = ((⟨x, d, r⟩ : En).x.natAbs : Int) := by show _ = (x.natAbs : Int); omega
  refine ⟨hT, ?_, imp_conc h.wf (h.free hx hl) hr, ?_, ?_⟩
  · unfold impE
    rw [if_pos (may_free h.wf (h.free hx hl)), if_pos hr]
  · rw [hc]; exact lvl_mem hT.wf hm
  · rw [hc]; exact rea_mem hT.wf hm
theorem Fz.told {N : Nat} {L : List En} {d f : Nat} (h : WF N L d) (hF : Fz L f) {k : Nat} (h1 : 1 ≤ k) (h2 : k ≤ f) : valT (conc N L d) (k : Int) = -1 ∧ lvlT (conc N L d) (k : Int) = 0 := by
  obtain ⟨r, hr⟩ := hF.has k h1 h2
  have e1 := (val_mem h hr).2
  have e2 := lvl_mem h hr
  simp only [Int.neg_neg, Int.natAbs_neg, Int.natAbs_natCast] at e1 e2
  exact ⟨e1, e2⟩
end Go.Proofs.Ytdcemlennobjhaa.Tr
