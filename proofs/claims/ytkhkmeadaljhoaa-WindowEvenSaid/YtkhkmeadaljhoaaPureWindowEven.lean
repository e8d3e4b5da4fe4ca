/- The call of WindowEven answers true: at as many places from either end a weight is the same; it is from 1 to One; and towards the middle none is less. No condition beyond what a Go value can be. -/
import Derived.Test.YtkhkmeadaljhoaaBWindowEven
namespace Go.Proofs.Ytkhkmeadaljhoaa.Pure
open Go.RowKit Go.Proofs.Ytkhkmeadaljhoaa.GWindowEven Go.Proofs.YtkhkmeadaljhoaaW.PrintWords Go.Proofs.YtkhkmeadaljhoaaW.PrintLast Go.Proofs.Ytkhkmeadaljhoaa.Win Go.Proofs.Ytkhkmeadaljhoaa.WMath Go.Proofs.Ytkhkmeadaljhoaa.BWindowEven
namespace WindowEvenAid
theorem u8_bd {a : Int} (hw : (Lit.int .u8 a).wf = true) : 0 ≤ a ∧ a ≤ 255 := by
  have e1 : IntKind.u8.min = 0 := by decide
  have e2 : IntKind.u8.max = 255 := by decide
  simp [Lit.wf, e1, e2] at hw; omega
theorem u16_bd {a : Int} (hw : (Lit.int .u16 a).wf = true) : 0 ≤ a ∧ a ≤ 65535 := by
  have e1 : IntKind.u16.min = 0 := by decide
  have e2 : IntKind.u16.max = 65535 := by decide
  simp [Lit.wf, e1, e2] at hw; omega
theorem i64_bd {a : Int} (hw : (Lit.int .i64 a).wf = true) : -9223372036854775808 ≤ a ∧ a ≤ 9223372036854775807 := by
  have e1 : IntKind.i64.min = -9223372036854775808 := by decide
  have e2 : IntKind.i64.max = 9223372036854775807 := by decide
  simp [Lit.wf, e1, e2] at hw; omega
theorem mod3 {a : Int} (h : 0 ≤ a ∧ a ≤ 255) : 0 ≤ Int.tmod a 3 ∧ Int.tmod a 3 ≤ 2 ∧ wrap64 (Int.tmod a 3) = Int.tmod a 3 := by
  have h0 := Int.tmod_nonneg 3 h.1
  have h1 := Int.tmod_lt_of_pos a (show (0 : Int) < 3 by omega)
  exact ⟨h0, by omega, wrap_id (by omega) (by omega)⟩
end WindowEvenAid
open WindowEvenAid
/-- YOURS -/
theorem WindowEven : serinettelaw08_WindowEven.Pure := by
  intro a0 a1 a2 h0 h1 h2
  have b0 := u8_bd h0
  have b1 := u16_bd h1
  have b2 := u16_bd h2
  have m3 := mod3 b0
  have h : Ev (fun k => serinettelaw08_WindowEven.f k a0 a1 a2) true := by
    refine Ev.bind awake_is ?_
    by_cases hz : a2 = 0
    · exact Ev.congr (f := fun _ => some true) (fun k => by rw [if_pos hz]) (Ev.now _)
    · refine Ev.congr (fun k => by rw [if_neg hz]) ?_
      rw [wrap_id (n := a1) (by omega) (by omega), wrap_id (n := a2) (by omega) (by omega), m3.2.2]
      have c0 : 0 ≤ Int.tmod a1 a2 := Int.tmod_nonneg a2 b1.1
      have c1 : Int.tmod a1 a2 < a2 := Int.tmod_lt_of_pos a1 (by omega)
      generalize Int.tmod a1 a2 = i at *
      generalize Int.tmod a0 3 = s at *
      rw [wrap_id (n := a2 - 1) (by omega) (by omega), wrap_id (n := a2 - 1 - i) (by omega) (by omega)]
      have r := wt_range s i a2 c0 c1 (by omega)
      refine Ev.congr (f := fun k => serinettelaw08_WindowEven.j0 k true s a2 i (wt s i a2) false) (fun k => ?_) ?_
      · unfold Given.window_Weight.f
        rw [weight_ok _ _ _ m3.1 m3.2.1 c0 c1 (by omega), weight_ok s (a2 - 1 - i) a2 m3.1 m3.2.1 (by omega) (by omega) (by omega), wt_even]
        simp only [Option.bind_some]
        rw [if_neg hz, if_pos trivial, if_pos trivial, if_pos trivial, if_neg (by omega), decide_eq_false (by omega)]
      · refine Ev.step (f := fun _ => some true) (fun k => ?_) (Ev.now _)
        simp only [serinettelaw08_WindowEven.j0]
        rw [if_neg (by decide), wrap_id (n := i + 1) (by omega) (by omega), wrap_id (n := 2 * (i + 1)) (by omega) (by omega)]
        by_cases hm : 2 * (i + 1) ≤ a2
        · have hr := wt_rises s i a2 c0 hm
          unfold Given.window_Weight.f
          rw [if_pos hm, weight_ok s (i + 1) a2 m3.1 m3.2.1 (by omega) (by omega) (by omega)]
          simp only [Option.bind_some]
          rw [if_pos trivial, if_neg (by omega), if_pos trivial, decide_eq_true hr]
        · rw [if_neg hm]
  exact h.rounds

end Go.Proofs.Ytkhkmeadaljhoaa.Pure
