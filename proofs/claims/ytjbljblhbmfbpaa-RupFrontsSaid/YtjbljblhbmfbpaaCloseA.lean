/-
  The walks of package prop's functions.
-/
import Derived.Test.YtjbljblhbmfbpaaProg
import Derived.Test.YtjbljblhbmfbpaaClosePlain
import Derived.Test.YtjbljblhbmfbpaaWWords
import Derived.WalkKit
import Derived.Defers
import Derived.Recover
import Derived.Laws.Pointers
import Derived.Lib.Hide
import Derived.WalkSpells
import Derived.WalkLawsBesides
import Derived.IntWalk
import Derived.Deep.LoopGhost
namespace Go.Proofs.Ytjbljblhbmfbpaa
open Go.RowKit Prop15 Go.Proofs.YtjbljblhbmfbpaaW.PrintWords

abbrev SR (w : World) (B b cap N : Nat) (m : List Int) : Prop := Kd.R (Kd.int .i8) 67 w B (fun _ => True) (.slice (some ⟨b, 0, none⟩) N cap) m

theorem i8_in (v : Int) (h : v = 0 ∨ v = 1 ∨ v = -1) : IntKind.i8.wrap (-v) = -v := by rcases h with rfl | rfl | rfl <;> decide

theorem value_any (w : World) (B b cap N : Nat) (m : List Int) (x : Int) (hs : Sg m) (hm : N ≤ 1000001) (hr : SR w B b cap N m) (hx : lit N x) :
    Calls Try.prog 49 #[.slice (some ⟨b, 0, none⟩) N cap, .int .i64 x] w fun e w' => e = .returned (.int .i8 (vl m x)) ∧ w' = w := by
  obtain ⟨h0, h1, h2⟩ := hx
  by_cases hneg : x < 0
  · have hc := (Kd.R_celln 0 hr (-x) (by omega) (by omega)).1
    have hw := i8_in _ (hs (-x).toNat)
    have b0 : (0 : Int) ≤ -x := by omega
    have b1 : -x < (N : Int) := by omega
    rw [show rdOf 0 m (-x) = m.getD (-x).toNat 0 from rfl] at hc
    have hv : vl m x = -(m.getD (-x).toNat 0) := by unfold vl; rw [if_pos hneg]
    rw [hv]
    obtain ⟨q, hq⟩ : ∃ q, m.getD (-x).toNat 0 = q := ⟨_, rfl⟩
    rw [hq] at hc hw ⊢
    clear hq hv hs
    go_enter Try.func49, Try.ntmps49
    go_wp2
    go_ret
    exact ⟨rfl, rfl⟩
  · have hc := (Kd.R_celln 0 hr x (by omega) (by omega)).1
    have b0 : (0 : Int) ≤ x := by omega
    rw [show rdOf 0 m x = m.getD x.toNat 0 from rfl] at hc
    have hv : vl m x = m.getD x.toNat 0 := by unfold vl; rw [if_neg hneg]
    rw [hv]
    obtain ⟨q, hq⟩ : ∃ q, m.getD x.toNat 0 = q := ⟨_, rfl⟩
    rw [hq] at hc ⊢
    clear hq hv hs
    go_enter Try.func49, Try.ntmps49
    go_wp2
    go_ret
    exact ⟨rfl, rfl⟩

/-- what is told by a panic where all is against itself -/
abbrev agst : List PanicEntry := [{ v := .iface 82 (.agg #[]), recovered := false }]

def PutPost (w : World) (B b cap N : Nat) (r : Option (List Int × Bool)) (e : Ending) (w' : World) : Prop :=
  Below b w w' ∧ match r with
  | none => e = .panicked agst
  | some (m', q) => e = .returned (.bool q) ∧ SR w' B b cap N m'

theorem put_any (w : World) (B b cap N : Nat) (m : List Int) (x : Int) (hs : Sg m) (hm : N ≤ 1000001) (hr : SR w B b cap N m) (hx : lit N x) :
    Calls Try.prog 36 #[.slice (some ⟨b, 0, none⟩) N cap, .int .i64 x] w (PutPost w B b cap N (put m x)) := by
  have HV := value_any w B b cap N m x hs hm hr hx
  obtain ⟨h0, h1, h2⟩ := hx
  rcases sg_vl hs x with e | e | e
  · have hp : put m x = some (st m x, true) := by unfold put; rw [e]; simp
    rw [hp]
    rw [e] at HV
    have HV2 := Lib.hid HV
    clear HV hp e hs
    by_cases hneg : x < 0
    · obtain ⟨hc, hf⟩ := Kd.R_celln 0 hr (-x) (by omega) (by omega)
      have b0 : (0 : Int) ≤ -x := by omega
      have b1 : -x < (N : Int) := by omega
      have HP := Kd.R_putg hr (-x) (-1)
      have hst : st m x = m.set (-x).toNat (-1) := by unfold st; rw [if_pos hneg]
      rw [hst]
      clear hst
      have HP2 := Lib.hid HP
      clear HP
      have hr2 := Lib.hid hr
      clear hr
      go_enter Try.func36, Try.ntmps36
      go_wp2_with ((with_reducible refine HV2.out.mono ?_); rintro e w' ⟨rfl, rfl⟩)
      go_ret
      exact ⟨(Below.refl b _).setCell (p := ⟨b, _, none⟩) (Nat.le_refl _) _, rfl, HP2.out.1⟩
    · obtain ⟨hc, hf⟩ := Kd.R_celln 0 hr x (by omega) (by omega)
      have b0 : (0 : Int) ≤ x := by omega
      have HP := Kd.R_putg hr x 1
      have hst : st m x = m.set x.toNat 1 := by unfold st; rw [if_neg hneg]
      rw [hst]
      clear hst
      have HP2 := Lib.hid HP
      clear HP
      have hr2 := Lib.hid hr
      clear hr
      go_enter Try.func36, Try.ntmps36
      go_wp2_with ((with_reducible refine HV2.out.mono ?_); rintro e w' ⟨rfl, rfl⟩)
      go_ret
      exact ⟨(Below.refl b _).setCell (p := ⟨b, _, none⟩) (Nat.le_refl _) _, rfl, HP2.out.1⟩
  · have hp : put m x = some (m, false) := by unfold put; rw [e]; simp
    rw [hp]
    rw [e] at HV
    have HV2 := Lib.hid HV
    have hr2 := Lib.hid hr
    clear HV hp e hs hr
    go_enter Try.func36, Try.ntmps36
    go_wp2_with ((with_reducible refine HV2.out.mono ?_); rintro e w' ⟨rfl, rfl⟩)
    go_ret
    exact ⟨Below.refl _ _, rfl, hr2.out⟩
  · have hp : put m x = none := by unfold put; rw [e]; simp
    rw [hp]
    rw [e] at HV
    have HV2 := Lib.hid HV
    clear HV hp e hs hr
    go_enter Try.func36, Try.ntmps36
    go_wp2_with ((with_reducible refine HV2.out.mono ?_); rintro e w' ⟨rfl, rfl⟩)
    exact ⟨rfl, Below.refl _ _, rfl⟩

theorem at_clause (w : World) (A : Option Addr) (c : List Int) (hc : Kd.C (Kd.int .i64) w A c.length c) (k : Nat) (hk : k < c.length) :
    ∃ ad, A = some ad ∧ w.cell? (ad.add k) = some (.int .i64 (c.getD k 0)) := by
  have := Kd.at_int hc (k : Int) (by omega) (by omega)
  simpa [rd] using this

theorem see_any (w : World) (B b cap N : Nat) (m : List Int) (A : Option Addr) (c : List Int) (cc : Nat) (hs : Sg m) (hm : N ≤ 1000001) (hr : SR w B b cap N m)
    (hC : Kd.C (Kd.int .i64) w A c.length c) (_hcc : c.length ≤ cc) (hl : ∀ x ∈ c, lit N x) :
    Calls Try.prog 37 #[.slice (some ⟨b, 0, none⟩) N cap, .slice A c.length cc] w (PutPost w B b cap N (see m c)) := by
  have hmax := Kd.C_max hC
  have HR := Lib.hid hr
  have HC := Lib.hid hC
  have HL := Lib.hid hl
  have HSG := Lib.hid hs
  clear hr hC hl hs
  go_enter Try.func37, Try.ntmps37
  go_wp2_with fail
  go_loop [5, 10] (fun l t => ∃ (k : Nat) (left : Int), k ≤ c.length ∧ t = .int .i64 k ∧ l = .int .i64 left ∧ Hid (left = 0 ∨ lit N left) ∧ Hid (scan m left (c.drop k) = see m c)) (fun _ t => c.length - (intOf t).toNat)
  case atStart => exact ⟨0, 0, Nat.zero_le _, rfl, rfl, Lib.hid (.inl rfl), Lib.hid rfl⟩
  case round =>
    obtain ⟨k, left, hk, rfl, rfl, HLF, HSC⟩ := hrel
    by_cases hlt : k < c.length
    · obtain ⟨ad, rfl, hcell⟩ := at_clause w A c HC.out k hlt
      obtain ⟨x, hx⟩ : ∃ x, c.getD k 0 = x := ⟨_, rfl⟩
      have hxl : lit N x := HL.out x (by rw [← hx, List.getD_eq_getElem?_getD, List.getElem?_eq_getElem hlt]; simp)
      have hdrop : c.drop k = x :: c.drop (k + 1) := by
        rw [List.drop_eq_getElem_cons hlt, ← hx, List.getD_eq_getElem?_getD, List.getElem?_eq_getElem hlt]; simp
      rw [hx] at hcell
      have hsc := HSC.out
      rw [hdrop] at hsc
      simp only [scan] at hsc
      have HS2 := Lib.hid hsc
      have HV := value_any w B b cap N m x HSG.out hm HR.out hxl
      have HXL := Lib.hid hxl
      clear hx hdrop hsc hxl HSC
      have hxlt : (k : Int) < (c.length : Int) := by omega
      obtain ⟨q, hq⟩ : ∃ q, vl m x = q := ⟨_, rfl⟩
      rw [hq] at HV HS2
      clear hq
      have HV2 := Lib.hid HV
      clear HV
      by_cases hn : q < 0
      · have hnb : decide (q < 0) = true := decide_eq_true hn
        have h2 := HS2.out
        rw [if_pos (.inl hn)] at h2
        have H3 := Lib.hid h2
        clear h2 HS2 hn
        go_wp2_with ((with_reducible refine HV2.out.mono ?_); rintro e w' ⟨rfl, rfl⟩)
        exact ⟨⟨k + 1, left, hlt, by go_num, rfl, HLF, H3⟩, by simp only [intOf]; omega⟩
      · have hnb : decide (q < 0) = false := decide_eq_false hn
        by_cases hxe : x = left
        · have h2 := HS2.out
          rw [if_pos (.inr hxe)] at h2
          have H3 := Lib.hid h2
          have hxb : (x == left) = true := beq_iff_eq.mpr hxe
          clear h2 HS2 hn hxe
          go_wp2_with ((with_reducible refine HV2.out.mono ?_); rintro e w' ⟨rfl, rfl⟩)
          exact ⟨⟨k + 1, left, hlt, by go_num, rfl, HLF, H3⟩, by simp only [intOf]; omega⟩
        · have h2 := HS2.out
          rw [if_neg (by rintro (h | h); exact hn h; exact hxe h)] at h2
          have hxb : (x == left) = false := beq_eq_false_iff_ne.mpr hxe
          by_cases hl0 : left = 0
          · subst hl0
            rw [if_neg (by simp)] at h2
            have H3 := Lib.hid h2
            clear h2 HS2 hn hxe
            go_wp2_with ((with_reducible refine HV2.out.mono ?_); rintro e w' ⟨rfl, rfl⟩)
            exact ⟨⟨k + 1, x, hlt, by go_num, rfl, Lib.hid (.inr HXL.out), H3⟩, by simp only [intOf]; omega⟩
          · rw [if_pos hl0] at h2
            have H3 := Lib.hid h2
            have hl0b : (left != 0) = true := bne_iff_ne.mpr hl0
            clear h2 HS2 hn hxe hl0
            go_wp2_with ((with_reducible refine HV2.out.mono ?_); rintro e w' ⟨rfl, rfl⟩)
            go_ret
            refine ⟨Below.refl _ _, ?_⟩
            rw [← H3.out]
            exact ⟨rfl, HR.out⟩
    · obtain rfl : k = c.length := by omega
      have hsc := HSC.out
      rw [List.drop_length] at hsc
      simp only [scan] at hsc
      by_cases hl0 : left = 0
      · subst hl0
        rw [if_pos rfl] at hsc
        have H3 := Lib.hid hsc
        clear hsc
        go_wp2_with fail
        refine ⟨rfl, Below.refl _ _, ?_⟩
        rw [← H3.out]
      · rw [if_neg hl0] at hsc
        have hl0b : (left == 0) = false := beq_eq_false_iff_ne.mpr hl0
        have hlit : lit N left := HLF.out.resolve_left hl0
        have HP := put_any w B b cap N m left HSG.out hm HR.out hlit
        rw [hsc] at HP
        have HP2 := Lib.hid HP
        clear HP hsc hl0 hlit
        go_wp2_with fail
        refine HP2.out.mono ?_
        intro e w' hpost
        unfold PutPost at hpost
        obtain ⟨hb, hpost⟩ := hpost
        generalize see m c = R at *
        cases R with
        | none =>
          simp only at hpost
          subst hpost
          exact ⟨rfl, hb, rfl⟩
        | some r =>
          obtain ⟨m', q⟩ := r
          obtain ⟨rfl, hsr⟩ := hpost
          have HB := Lib.hid hb
          have HSR := Lib.hid hsr
          clear hb hsr
          go_wp2_with fail
          go_ret
          exact ⟨HB.out, rfl, HSR.out⟩
end Go.Proofs.Ytjbljblhbmfbpaa
