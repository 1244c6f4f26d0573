/-
  The walk of slices.Clone, of clauses: the rows stay what they are.
-/
import Derived.Test.YtjbljblhbmfbpaaRupC
import Derived.Test.YtjbljblhbmfbpaaWMore
import Derived.Test.YtjbljblhbmfbpaaWLast
namespace Go.Proofs.Ytjbljblhbmfbpaa
open Go.RowKit Prop15 Go.Proofs.YtjbljblhbmfbpaaW.PrintWords

/-- clauses as a world holds them -/
abbrev CD : Kd (List Int) := Kd.slice 3 (Kd.int .i64)
theorem infoc42 : (Try.prog.info? 42).map (fun i => (i.zero, i.size, i.bytes)) = some (some (.slice none 0 0), 1, 24) := by kernel_rfl

theorem heqn (c1 : Nat) (W : World) : (binOp BinOp.eql 29 (.slice none 0 c1) (.slice none 0 0)).run Try.prog W = .ok (.bool true) W := by kernel_rfl
theorem heqs (ad : Addr) (n c1 : Nat) (W : World) : (binOp BinOp.eql 29 (.slice (some ad) n c1) (.slice none 0 0)).run Try.prog W = .ok (.bool false) W := by kernel_rfl
set_option maxRecDepth 100000 in
theorem Clone_any (w0 : World) (A : Option Addr) (l : List (List Int)) (c1 : Nat) (w : World) (hC : Kd.C (Kd.fixed CD w0) w A l.length l) (hl : l.length ≤ 131072) :
    Calls Try.prog 44 #[.slice A l.length c1] w fun e w' => ∃ v : Value, e = .returned v ∧ Kd.R (Kd.fixed CD w0) 42 w' w.heap.size (fun _ => True) v l ∧ Below w.heap.size w w' := by
  have HC := Lib.hid hC
  clear hC
  cases A with
  | none =>
    have h0 : l = [] := by
      rcases Nat.eq_zero_or_pos l.length with h0 | h0
      · exact List.eq_nil_of_length_eq_zero h0
      · obtain ⟨ad, h, _⟩ := HC.out.2.2 h0
        cases h
    subst h0
    have he1 := heqn
    have he2 := heqs
    go_enter Try.func44, Try.ntmps44
    go_wp2
    go_ret
    exact ⟨_, rfl, Kd.R_nil _ _ _ _ _, Below.refl _ _⟩
  | some ad =>
    have he1 := heqn
    have he2 := heqs
    go_enter Try.func44, Try.ntmps44
    go_wp2_with (first
      | ((with_reducible refine gate_dst (N := 5) rfl ?_); refine Kd.R_lit (Kd.fixed CD w0) w.heap.size 42 ?hg (N := 5) ?hd (xs := ([] : List (List Int))) (inner := []) (ok := fun _ => True) (okp := fun _ => True) ?hr ?hp (fun _ hk => hk) trivial (Below.refl _ _) (Nat.le_refl _) (by simp) ?_; (case hd => rfl); (case hg => rfl); (case hr => first | (go_simp; done) | (go_simp; rfl)); (case hp => exact (Reps.none _ _)); intro v1 w1 ho hb hg_ hnew_; clear hg_ hnew_; have HO := Lib.hid ho; have HB := Lib.hid hb; have HC1 := Lib.hid (Kd.C_below HC.out hb); clear ho hb)
      | ((with_reducible refine gate_builtin (b := .append) (xs := #[.tmp 5, .tmp 6]) rfl ?_); at_builtin; refine Kd.R_append_rows (Kd.fixed CD w0) (w0 := w) w.heap.size rfl (.tmp 5) (.tmp 6) 29 42 (.slice none 0 0) 24 rfl Try.underlying29 infoc42 rfl Nat.one_pos (by omega) _ [] l _ _ _ (fun _ => True) (fun _ => False) rfl rfl HO.out HC1.out (fun _ _ hk => hk) (fun _ hk => hk.elim) (fun _ _ => trivial) HB.out HB.out.size (by simp only [List.length_nil]; omega) ?_; intro v2 w2 ho hb hg_ hat_; rw [List.nil_append] at ho; have HO2 := Lib.hid ho; have HB2 := Lib.hid hb; clear ho hb hg_ hat_))
    go_ret
    exact ⟨_, rfl, HO2.out, HB2.out⟩
end Go.Proofs.Ytjbljblhbmfbpaa
