/-
  The walks of New, of slices.Clone, of Lits and Twin. Conditions: as each statement has them.
-/
import Derived.Test.YtdcemlennobjhaaTrD
namespace Go.Proofs.Ytdcemlennobjhaa.Tr
open Go.RowKit Go.Proofs.YtdcemlennobjhaaW.PrintWords Go.Proofs.YtdcemlennobjhaaW.PrintLast Go.Proofs.YtdcemlennobjhaaW.PrintMore Go.Proofs.Ytdcemlennobjhaa.PTrailPlays
set_option linter.unusedSimpArgs false
set_option linter.unusedVariables false

/-- an empty trail of n variables -/
def new (n : Nat) : TS := ⟨List.replicate (n + 1) z69, [], []⟩
theorem new_bad (n : Int) (w : World) (h : ¬ (0 ≤ n ∧ n ≤ 256)) : Calls Try.prog 8 #[.int .i64 n] w fun e w' => e = .returned (.tuple #[.pointer none, .int .i64 1]) ∧ w = w' := by
  by_cases h0 : n < 0
  · go_enter Try.func8, Try.ntmps8
    go_wp2
    go_ret2
    exact ⟨rfl, rfl⟩
  · have h1 : 256 < n := by omega
    clear h
    go_enter Try.func8, Try.ntmps8
    go_wp2
    go_ret2
    exact ⟨rfl, rfl⟩
theorem heqn28 (c1 : Nat) (W : World) : (binOp BinOp.eql 28 (.slice none 0 c1) (.slice none 0 0)).run Try.prog W = .ok (.bool true) W := by kernel_rfl
theorem heqs28 (ad : Addr) (n c1 : Nat) (W : World) : (binOp BinOp.eql 28 (.slice (some ad) n c1) (.slice none 0 0)).run Try.prog W = .ok (.bool false) W := by kernel_rfl
theorem heqn59 (c1 : Nat) (W : World) : (binOp BinOp.eql 59 (.slice none 0 c1) (.slice none 0 0)).run Try.prog W = .ok (.bool true) W := by kernel_rfl
theorem heqs59 (ad : Addr) (n c1 : Nat) (W : World) : (binOp BinOp.eql 59 (.slice (some ad) n c1) (.slice none 0 0)).run Try.prog W = .ok (.bool false) W := by kernel_rfl
set_option maxRecDepth 100000 in
theorem clone_ints (A : Option Addr) (l : List Int) (c1 : Nat) (w : World) (hC : Kd.C (Kd.int .i64) w A l.length l) (hl : l.length ≤ 200000) :
    Calls Try.prog 32 #[.slice A l.length c1] w fun e w' => ∃ v : Value, e = .returned v ∧ Kd.R (Kd.int .i64) 3 w' w.heap.size (fun _ => True) v l ∧ Below w.heap.size w w' := by
  have HC := Lib.hid hC
  clear hC
  cases A with
  | none =>
    have h0 : l = [] := by
      rcases Nat.eq_zero_or_pos l.length with h0 | h0
      · exact List.eq_nil_of_length_eq_zero h0
      · obtain ⟨ad, h, _⟩ := HC.out.2.2 h0
        cases h
    subst h0
    have he1 := heqn28
    have he2 := heqs28
    go_enter Try.func32, Try.ntmps32
    go_wp2
    go_ret
    exact ⟨_, rfl, Kd.R_nil _ _ _ _ _, Below.refl _ _⟩
  | some ad =>
    have he1 := heqn28
    have he2 := heqs28
    go_enter Try.func32, Try.ntmps32
    go_wp2_with (first
      | ((with_reducible refine gate_dst (N := 5) rfl ?_); refine Kd.R_lit (Kd.int .i64) w.heap.size 3 ?hg (N := 5) ?hd (xs := ([] : List Int)) (inner := []) (ok := fun _ => True) (okp := fun _ => True) ?hr ?hp (fun _ hk => hk) trivial (Below.refl _ _) (Nat.le_refl _) (by simp) ?_; (case hd => rfl); (case hg => rfl); (case hr => first | (go_simp; done) | (go_simp; rfl)); (case hp => exact (Reps.none _ _)); intro v1 w1 ho hb hg_ hnew_; clear hg_ hnew_; have HO := Lib.hid ho; have HB := Lib.hid hb; have HC1 := Lib.hid (Kd.C_below HC.out hb); clear ho hb)
      | ((with_reducible refine gate_builtin (b := .append) (xs := #[.tmp 5, .tmp 6]) rfl ?_); at_builtin; refine Kd.R_append_rows (Kd.int .i64) (w0 := w) w.heap.size rfl (.tmp 5) (.tmp 6) 28 3 (.int .i64 0) 8 rfl Try.underlying28 info3 rfl Nat.one_pos (by omega) _ [] l _ _ _ (fun _ => True) (fun _ => False) rfl rfl HO.out HC1.out (fun _ _ hk => hk) (fun _ hk => hk.elim) (fun _ _ => trivial) HB.out HB.out.size (by simp only [List.length_nil]; omega) ?_; intro v2 w2 ho hb hg_ hat_; rw [List.nil_append] at ho; have HO2 := Lib.hid ho; have HB2 := Lib.hid hb; clear ho hb hg_ hat_))
    go_ret
    exact ⟨_, rfl, HO2.out, HB2.out⟩
set_option maxRecDepth 100000 in
theorem clone_places (ad : Addr) (l : List S69) (c1 : Nat) (w : World) (hC : Kd.C k69 w (some ad) l.length l) (hl : l.length ≤ 257) :
    Calls Try.prog 38 #[.slice (some ad) l.length c1] w fun e w' => ∃ v : Value, e = .returned v ∧ Kd.R k69 69 w' w.heap.size (fun _ => True) v l ∧ Below w.heap.size w w' := by
  have HC := Lib.hid hC
  clear hC
  have he1 := heqn59
  have he2 := heqs59
  go_enter Try.func38, Try.ntmps38
  go_wp2_with (first
      | ((with_reducible refine gate_dst (N := 5) rfl ?_); refine Kd.R_lit k69 w.heap.size 69 ?hg (N := 5) ?hd (xs := ([] : List S69)) (inner := []) (ok := fun _ => True) (okp := fun _ => True) ?hr ?hp (fun _ hk => hk) trivial (Below.refl _ _) (Nat.le_refl _) (by simp) ?_; (case hd => rfl); (case hg => rfl); (case hr => first | (go_simp; done) | (go_simp; rfl)); (case hp => exact (Reps.none _ _)); intro v1 w1 ho hb hg_ hnew_; clear hg_ hnew_; have HO := Lib.hid ho; have HB := Lib.hid hb; have HC1 := Lib.hid (Kd.C_below HC.out hb); clear ho hb)
      | ((with_reducible refine gate_builtin (b := .append) (xs := #[.tmp 5, .tmp 6]) rfl ?_); at_builtin; refine Kd.R_append_rows k69 (w0 := w) w.heap.size rfl (.tmp 5) (.tmp 6) 59 69 (.agg #[.int .i64 0, .int .i64 0, .int .i64 0]) 24 rfl Try.underlying59 info69 rfl (by decide) (by omega) _ [] l _ _ _ (fun _ => True) (fun _ => False) rfl rfl HO.out HC1.out (fun x cs hk => by rw [k69_open hk]; exact k69_mkM _ _ _ x) (fun _ hk => hk.elim) (fun _ _ => trivial) HB.out HB.out.size (by simp only [List.length_nil]; omega) ?_; intro v2 w2 ho hb hg_ hat_; rw [List.nil_append] at ho; have HO2 := Lib.hid ho; have HB2 := Lib.hid hb; clear ho hb hg_ hat_))
  go_ret
  exact ⟨_, rfl, HO2.out, HB2.out⟩
theorem lits_any {w : World} {b g : Nat} {ok : Nat → Prop} {T : TS} (hT : At w b g ok T) (hl : T.l.length ≤ 100000) : Calls Try.prog 12 #[.pointer (some ⟨g, 0, none⟩)] w fun e w' => ∃ v : Value, e = .returned v ∧ Kd.R (Kd.int .i64) 3 w' w.heap.size (fun _ => True) v T.l ∧ Below w.heap.size w w' := by
  obtain ⟨v0, v1, v2, hb, _, _, _, h1, _⟩ := hT
  obtain ⟨A1, c1, rfl⟩ := Kd.R_slice h1
  have hk1 := (cells3 hb).2.1
  have HL := Lib.hid (clone_ints A1 T.l c1 w (Kd.R_reads' h1).2.2 (by omega))
  clear h1 hb hl
  go_enter Try.func12, Try.ntmps12
  go_wp2_with fail
  refine HL.out.mono ?_
  rintro e w1 ⟨v, rfl, hr, hb⟩
  have HR := Lib.hid hr
  have HB := Lib.hid hb
  clear hr hb HL
  go_wp2_with fail
  go_ret
  exact ⟨v, rfl, HR.out, HB.out⟩
set_option maxRecDepth 100000 in
theorem new_ok (n : Nat) (w : World) (h : n ≤ 256) : Calls Try.prog 8 #[.int .i64 (n : Int)] w fun e w' => ∃ g, e = .returned (.tuple #[.pointer (some ⟨g, 0, none⟩), .int .i64 0]) ∧ At w' w.heap.size g (fun k => w.heap.size ≤ k) (new n) ∧ Below w.heap.size w w' := by
  have h1 : (n : Int) ≤ 256 := by omega
  have HN := Lib.hid h
  clear h
  go_enter Try.func8, Try.ntmps8
  have e0 : ((n : Int) + 1).toNat = n + 1 := by omega
  have HE := Lib.hid e0
  clear e0
  go_wp2_with (refine Kd.R_make k69 (w0 := w) w.heap.size 69 rfl (N := 12) rfl 59 (.tmp 11) (.tmp 11) rfl ((n : Int) + 1) rfl rfl Try.underlying59 (.agg #[.int .i64 0, .int .i64 0, .int .i64 0]) 24 info69 rfl (by decide) (by omega) z69 (ok := fun k => w.heap.size ≤ k) (okp := fun k => w.heap.size ≤ k) (k69_mkM _ _ _ z69) (fun _ hk => hk) (Nat.le_refl _) (by omega) (by have := HN.out; have := HE.out; omega) (Below.refl _ _) (Nat.le_refl _) ?_; intro v1 w2 ho hb hg hat; rw [HE.out] at ho; obtain ⟨o, ho'⟩ : ∃ o, List.replicate (n + 1) z69 = o := ⟨_, rfl⟩; rw [ho'] at ho; obtain ⟨A, c, rfl⟩ := Kd.R_slice ho; have HO := Lib.hid ho; have HB := Lib.hid hb; have HD := Lib.hid ho'; clear ho hb hg hat ho')
  go_ret2
  refine ⟨w2.heap.size, rfl, ?_, below_alloc HB.out _⟩
  have e : new n = ⟨o, [], []⟩ := by unfold new; rw [HD.out]
  rw [e]
  have hs := HB.out.size
  exact ⟨_, _, _, blk_new w2 _, hs, hs, Kd.R_alloc HO.out _, Kd.R_nil _ _ _ _ _, Kd.R_nil _ _ _ _ _⟩
end Go.Proofs.Ytdcemlennobjhaa.Tr
