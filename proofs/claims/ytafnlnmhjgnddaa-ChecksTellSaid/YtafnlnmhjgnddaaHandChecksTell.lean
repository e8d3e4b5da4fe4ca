/- The walk of ChecksTell: for all bytes and registers the call answers true, and what was there is as it was. No condition beyond what a Go value can be. -/
import Derived.Test.YtafnlnmhjgnddaaTellMath
import Derived.Test.YtafnlnmhjgnddaaGiven
namespace Go.Proofs.Ytafnlnmhjgnddaa.GChecksTell
open Go.RowKit Go.Proofs.Ytafnlnmhjgnddaa.PChecksTell Go.Proofs.YtafnlnmhjgnddaaW.PrintWords Go.Proofs.YtafnlnmhjgnddaaW.PrintLast Go.Proofs.Ytafnlnmhjgnddaa.Ck Go.Proofs.Ytafnlnmhjgnddaa.CkMath Go.Proofs.Ytafnlnmhjgnddaa.TellMath
theorem tab_below {w w1 : World} {g : Nat} (h : Tab w g) (hb : Below w.heap.size w w1) : Tab w1 g :=
  ⟨fun i hi => pw_cell_below hb (h.1 i hi), fun i hi => pw_cell_below hb (h.2 i hi)⟩
theorem u8_wf {x : Int} (h : (Lit.int .u8 x).wf = true) : 0 ≤ x ∧ x < 256 := by
  have e1 : IntKind.u8.min = 0 := by decide
  have e2 : IntKind.u8.max = 255 := by decide
  simp [Lit.wf, e1, e2] at h; omega
theorem u16_wf {x : Int} (h : (Lit.int .u16 x).wf = true) : 0 ≤ x ∧ x < 65536 := by
  have e1 : IntKind.u16.min = 0 := by decide
  have e2 : IntKind.u16.max = 65535 := by decide
  simp [Lit.wf, e1, e2] at h; omega
def law.Pure : Prop := True
set_option maxHeartbeats 1000000 in
set_option maxRecDepth 100000 in
theorem calls (A : Option Addr) (cap : Nat) (l : List Int) (c d : Int) (w : World) (hr : Kd.C (Kd.int .u8) w A l.length l) (hc : l.length ≤ cap) (hb : ∀ x ∈ l, 0 ≤ x ∧ x < 256) (c0 : 0 ≤ c) (c1 : c < 256) (d0 : 0 ≤ d) (d1 : d < 65536) :
    Calls Try.prog 3 #[.slice A l.length cap, .int .u8 c, .int .u16 d] w fun e w' => e = .returned (.bool true) ∧ Below w.heap.size w w' := by
  by_cases hl : 200 < l.length
  · have HB := Aside0.mk hb
    clear hb
    have t : decide (200 < (l.length : Int)) = true := decide_eq_true (by omega)
    go_enter Try.func3, Try.ntmps3
    go_wp2_with fail
    refine (Given.awake.calls true _ rfl).mono ?_
    rintro e w1 ⟨rfl, hb1⟩
    have HW := Aside0.mk hb1
    clear hb1
    go_wp2_with fail
    go_ret
    exact ⟨rfl, HW.out⟩
  · obtain ⟨K1, h1⟩ := ref_eight c l c0 c1 (by omega) hb
    obtain ⟨K2, h2⟩ := ref_sixteen d l d0 d1 (by omega) hb
    obtain ⟨K3, h3⟩ := ref_eight 0 l (by omega) (by omega) (by omega) hb
    obtain ⟨K4, h4⟩ := ref_sixteen 0 l (by omega) (by omega) (by omega) hb
    have H1 := Aside0.mk (h1 K1 (Nat.le_refl _))
    have H2 := Aside0.mk (h2 K2 (Nat.le_refl _))
    have H3 := Aside0.mk (h3 K3 (Nat.le_refl _))
    have H4 := Aside0.mk (h4 K4 (Nat.le_refl _))
    have HR := Aside0.mk hr
    have HC := Aside0.mk hc
    have HX := Aside0.mk hb
    clear h1 h2 h3 h4 hr hc hb
    have t : decide (200 < (l.length : Int)) = false := decide_eq_false (by omega)
    go_enter Try.func3, Try.ntmps3
    go_wp2_with fail
    refine (Given.awake.calls true _ rfl).mono ?_
    rintro e w1 ⟨rfl, hb1⟩
    have B1 := Aside0.mk hb1
    clear hb1
    go_wp2_with fail
    refine (build_any _).mono ?_
    rintro e w2 ⟨rfl, hb2, ht2⟩
    have B2 := Aside0.mk (below_step B1.out hb2)
    have T2 := Aside0.mk ht2
    clear hb2 ht2
    generalize w1.heap.size = g at *
    go_wp2_with fail
    refine (eight_any g c A cap l _ c0 c1 T2.out (Kd.C_below HR.out B2.out) HC.out HX.out).mono ?_
    rintro e w3 ⟨rfl, rfl⟩
    go_wp2_with fail
    refine (serinetteref04_Eight.calls K1 c A cap l _ _ (Kd.C_below HR.out B2.out) HC.out H1.out).mono ?_
    rintro e w3 ⟨rfl, hb3⟩
    have B3 := Aside0.mk (below_step B2.out hb3)
    have T3 := Aside0.mk (tab_below T2.out hb3)
    clear hb3
    go_wp2_with fail
    refine (sixteen_any g d A cap l _ d0 d1 T3.out (Kd.C_below HR.out B3.out) HC.out HX.out).mono ?_
    rintro e w4 ⟨rfl, rfl⟩
    go_wp2_with fail
    refine (serinetteref04_Sixteen.calls K2 d A cap l _ _ (Kd.C_below HR.out B3.out) HC.out H2.out).mono ?_
    rintro e w4 ⟨rfl, hb4⟩
    have B4 := Aside0.mk (below_step B3.out hb4)
    clear hb4
    go_wp2_with fail
    refine (oneof_any A cap l _ (Kd.C_below HR.out B4.out) HC.out HX.out).mono ?_
    rintro e w5 ⟨rfl, hb5⟩
    have B5 := Aside0.mk (below_step B4.out hb5)
    clear hb5
    go_wp2_with fail
    refine (serinetteref04_Eight.calls K3 0 A cap l _ _ (Kd.C_below HR.out B5.out) HC.out H3.out).mono ?_
    rintro e w6 ⟨rfl, hb6⟩
    have B6 := Aside0.mk (below_step B5.out hb6)
    clear hb6
    go_wp2_with fail
    refine (twoof_any A cap l _ (Kd.C_below HR.out B6.out) HC.out HX.out).mono ?_
    rintro e w7 ⟨rfl, hb7⟩
    have B7 := Aside0.mk (below_step B6.out hb7)
    clear hb7
    go_wp2_with fail
    refine (serinetteref04_Sixteen.calls K4 0 A cap l _ _ (Kd.C_below HR.out B7.out) HC.out H4.out).mono ?_
    rintro e w8 ⟨rfl, hb8⟩
    have B8 := Aside0.mk (below_step B7.out hb8)
    clear hb8
    go_wp2_with fail
    go_ret
    exact ⟨rfl, B8.out⟩
theorem law.walk (_P : law.Pure) (a0 : Option Addr) (len0 cap0 : Nat) (z0 : List Int) (a1 : Int) (a2 : Int) (w : World) (w0 : (a0 = none ∧ len0 = 0 ∧ cap0 = 0 ∧ z0 = []) ∨ ∃ x, a0 = some x ∧ len0 ≤ cap0 ∧ cap0 ≤ maxLen ∧ z0.length = cap0 ∧ (∀ i, i < z0.length → w.cell? (x.add i) = some (.int .u8 (z0.getD i 0))) ∧ ∀ n ∈ z0, (Lit.int .u8 n).wf = true) (_y0 : len0 * 1 ≤ 140737488351232) (w1 : (Lit.int .u8 a1).wf = true) (w2 : (Lit.int .u16 a2).wf = true) :
    Calls Try.prog 3 #[.slice a0 len0 cap0, .int .u8 a1, .int .u16 a2] w fun e w' => e = .returned (.bool true) ∧ Below w.heap.size w w' := by
  obtain ⟨l0, rfl, hr0, hm0, hw0, hc0⟩ := ReadsInt.ofRowC w0
  have b1 := u8_wf w1
  have b2 := u16_wf w2
  exact calls a0 cap0 l0 a1 a2 w (Kd.C_of_reads (d := (0 : Int)) (h1 := fun _ => rfl) hr0) hc0 (fun x hx => u8_wf (hw0 x hx)) b1.1 b1.2 b2.1 b2.2
end Go.Proofs.Ytafnlnmhjgnddaa.GChecksTell
