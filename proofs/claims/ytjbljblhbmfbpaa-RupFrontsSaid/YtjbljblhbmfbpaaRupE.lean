/-
  The walk of rup.Follows.
-/
import Derived.Test.YtjbljblhbmfbpaaRupD
import Derived.Test.YtjbljblhbmfbpaaCloseC
namespace Go.Proofs.Ytjbljblhbmfbpaa
open Go.RowKit Prop15 Go.Proofs.YtjbljblhbmfbpaaW.PrintWords

/-- does a clause follow? -/
def fol (n : Nat) (l : List (List Int)) (c : List Int) : Bool := (close n l (c.map (fun x => -x))).isNone

theorem wrap_neg (n : Nat) (x : Int) (hn : n ≤ 1000000) (h : lit (n + 1) x) : IntKind.i64.wrap (-x) = -x := by
  obtain ⟨_, h1, h2⟩ := h
  exact Go.IntWalk.i64_in _ ⟨by omega, by omega⟩
theorem lit_neg {n : Nat} {x : Int} (h : lit n x) : lit n (-x) := by
  obtain ⟨h0, h1, h2⟩ := h
  exact ⟨by omega, by omega, by omega⟩

theorem closeEnd_fol {w : World} {R : Option (List Int)} {e : Ending} {w' : World} (h : CloseEnd w R e w') : ∃ v0 : Value, e = .returned (.tuple #[v0, .bool R.isNone]) ∧ Below w.heap.size w w' := by
  cases R with
  | none =>
    obtain ⟨v0, h1, _, h3⟩ := h
    exact ⟨v0, h1, h3⟩
  | some m =>
    obtain ⟨v0, h1, _, h3⟩ := h
    exact ⟨v0, h1, h3⟩

set_option maxRecDepth 100000 in
theorem Follows_any (n : Nat) (hn : n ≤ 1000000) (A1 : Option Addr) (c1 : Nat) (l1 : List (List Int)) (A2 : Option Addr) (c2 : Nat) (c : List Int) (w : World) (hr1 : Kd.C CD w A1 l1.length l1) (hc1 : l1.length ≤ c1) (hr2 : Kd.C (Kd.int .i64) w A2 c.length c) (hcl : c.length ≤ 1000000)
    (hv1 : ∀ c ∈ l1, ∀ x ∈ c, lit (n + 1) x) (hv2 : ∀ x ∈ c, lit (n + 1) x) :
    Calls Try.prog 32 #[.int .i64 n, .slice A1 l1.length c1, .slice A2 c.length c2] w fun e w' => e = .returned (.bool (fol n l1 c)) ∧ Below w.heap.size w w' := by
  have HR1 := Lib.hid hr1
  have HR2 := Lib.hid hr2
  have HC1 := Lib.hid hc1
  have HN := Lib.hid hn
  have HV1 := Lib.hid hv1
  have HV2 := Lib.hid hv2
  clear hr1 hr2 hc1 hn hv1 hv2
  have HB0 := Lib.hid (Below.refl w.heap.size w)
  go_enter Try.func32, Try.ntmps32
  go_wp2_with fail
  go_loopw [7, 14] (fun v t wr => ∃ k : Nat, k ≤ c.length ∧ t = .int .i64 k ∧ Hid (Kd.R (Kd.int .i64) 3 wr w.heap.size (fun _ => True) v ((c.take k).map (fun x => -x))) ∧ Hid (Below w.heap.size w wr)) (fun _ t _ => c.length - (intOf t).toNat)
  case atStart => exact ⟨0, Nat.zero_le _, rfl, Lib.hid (Kd.R_nil _ _ _ _ _), HB0⟩
  case round =>
    clear HB0
    obtain ⟨k, hk, rfl, HO, HB⟩ := hrel
    by_cases hlt : k < c.length
    · obtain ⟨ad, hA2, hcell⟩ := at_clause wr A2 c (Kd.C_below HR2.out HB.out) k hlt
      subst hA2
      obtain ⟨x, hx⟩ : ∃ x, c.getD k 0 = x := ⟨_, rfl⟩
      have hxl : lit (n + 1) x := HV2.out x (by rw [← hx, List.getD_eq_getElem?_getD, List.getElem?_eq_getElem hlt]; simp)
      have htk : (c.take (k + 1)).map (fun x => -x) = (c.take k).map (fun x => -x) ++ [-x] := by
        rw [List.take_succ_eq_append_getElem hlt, List.map_append, ← hx, List.getD_eq_getElem?_getD, List.getElem?_eq_getElem hlt]; simp
      have hw := wrap_neg n x HN.out hxl
      rw [hx] at hcell
      have hxlt : (k : Int) < (c.length : Int) := by omega
      have HTK := Lib.hid htk
      clear hx hxl htk
      go_wp2_with ((with_reducible refine gate_builtin (b := .append) (xs := #[.tmp 18, .tmp 21]) rfl ?_); at_builtin; refine Kd.R_append (Kd.int .i64) (w0 := w) w.heap.size rfl (.tmp 18) (.tmp 21) 23 3 (.int .i64 0) 8 rfl Try.underlying23 info3 rfl (by decide) (by omega) _ ((c.take k).map (fun x => -x)) (-x) [.int .i64 (-x)] (fun _ => True) (fun _ => False) rfl rfl rfl (fun _ hk => hk.elim) (fun _ _ => trivial) HO.out HB.out HB.out.size (by rw [List.length_map, List.length_take]; omega) ?_; intro v1 w1 ho hb hg hat; clear hg hat; rw [← HTK.out] at ho; clear HO HB HTK; have HO := Lib.hid ho; have HB := Lib.hid hb; clear ho hb)
      exact ⟨⟨k + 1, hlt, by go_num, HO, HB⟩, by simp only [intOf]; omega⟩
    · obtain rfl : k = c.length := by omega
      have ho := HO.out
      rw [List.take_length] at ho
      clear HO
      obtain ⟨A3, c3, rfl, hc3, hC3⟩ := Kd.R_reads ho
      have hcl := Close_any n HN.out A1 c1 l1 A3 c3 (c.map (fun x => -x)) wr (Kd.C_below HR1.out HB.out) HC1.out hC3 hc3 HV1.out (by
        intro y hy
        obtain ⟨x, hx, rfl⟩ := List.mem_map.1 hy
        exact lit_neg (HV2.out x hx))
      clear hC3 hc3 ho
      have HF : Hid (fol n l1 c = (close n l1 (c.map (fun x => -x))).isNone) := Lib.hid rfl
      have hcl2 := hcl.mono (fun _ _ h => closeEnd_fol h)
      obtain ⟨q, hq⟩ : ∃ q, (close n l1 (c.map (fun x => -x))).isNone = q := ⟨_, rfl⟩
      rw [hq] at hcl2 HF
      rw [List.length_map] at hcl2
      have HCL := Lib.hid hcl2
      clear hcl hcl2 hq
      go_wp2_with fail
      refine HCL.out.mono ?_
      rintro e w' ⟨v0, rfl, hb⟩
      have HB2 := Lib.hid (HB.out.trans (hb.mono HB.out.size))
      clear hb HB
      go_wp2_with fail
      go_ret
      exact ⟨by rw [HF.out]; rfl, HB2.out⟩
end Go.Proofs.Ytjbljblhbmfbpaa
