/- The call of WindowMiddle answers true: in the middle of odd numbers the weight is whole, by each shape. No condition beyond what a Go value can be. -/
import Derived.Test.YtkhkmeadaljhoaaBWindowMiddle
namespace Go.Proofs.Ytkhkmeadaljhoaa.Pure
open Go.RowKit Go.Proofs.Ytkhkmeadaljhoaa.GWindowMiddle Go.Proofs.YtkhkmeadaljhoaaW.PrintWords Go.Proofs.YtkhkmeadaljhoaaW.PrintLast Go.Proofs.Ytkhkmeadaljhoaa.Win Go.Proofs.Ytkhkmeadaljhoaa.WMath Go.Proofs.Ytkhkmeadaljhoaa.BWindowMiddle
namespace WindowMiddleAid
theorem u8_bd {a : Int} (hw : (Lit.int .u8 a).wf = true) : 0 ≤ a ∧ a ≤ 255 := by
  have e1 : IntKind.u8.min = 0 := by decide
  have e2 : IntKind.u8.max = 255 := by decide
  simp [Lit.wf, e1, e2] at hw; omega
theorem u16_bd {a : Int} (hw : (Lit.int .u16 a).wf = true) : 0 ≤ a ∧ a ≤ 65535 := by
  have e1 : IntKind.u16.min = 0 := by decide
  have e2 : IntKind.u16.max = 65535 := by decide
  simp [Lit.wf, e1, e2] at hw; omega
theorem i64_bd {a : Int} (hw : (Lit.int .i64 a).wf = true) : -9223372036854775808 ≤ a ∧ a ≤ 9223372036854775807 := by
  have e1 : IntKind.i64.min = -9223372036854775808 := by decide
  have e2 : IntKind.i64.max = 9223372036854775807 := by decide
  simp [Lit.wf, e1, e2] at hw; omega
theorem mod3 {a : Int} (h : 0 ≤ a ∧ a ≤ 255) : 0 ≤ Int.tmod a 3 ∧ Int.tmod a 3 ≤ 2 ∧ wrap64 (Int.tmod a 3) = Int.tmod a 3 := by
  have h0 := Int.tmod_nonneg 3 h.1
  have h1 := Int.tmod_lt_of_pos a (show (0 : Int) < 3 by omega)
  exact ⟨h0, by omega, wrap_id (by omega) (by omega)⟩
end WindowMiddleAid
open WindowMiddleAid
/-- YOURS -/
theorem WindowMiddle : serinettelaw08_WindowMiddle.Pure := by
  intro a0 a1 h0 h1
  have b0 := u8_bd h0
  have b1 := u16_bd h1
  have m3 := mod3 b0
  have c0 := Int.tmod_nonneg 32768 b1.1
  have c1 := Int.tmod_lt_of_pos a1 (show (0 : Int) < 32768 by omega)
  have h : Ev (fun k => serinettelaw08_WindowMiddle.f k a0 a1) true := by
    refine Ev.bind awake_is ?_
    rw [m3.2.2, wrap_id (n := Int.tmod a1 32768) (by omega) (by omega)]
    generalize Int.tmod a1 32768 = m at *
    rw [wrap_id (n := 2 * m) (by omega) (by omega), wrap_id (n := 2 * m + 1) (by omega) (by omega), wrap_id (n := 2 * m + 1 - 1) (by omega) (by omega)]
    refine Ev.congr (f := fun _ => some true) (fun k => ?_) (Ev.now _)
    unfold Given.window_Weight.f
    rw [weight_ok _ _ _ m3.1 m3.2.1 c0 (by omega) (by omega), weight_ok 0 _ _ (by omega) (by omega) (by omega) (by omega) (by omega), wt_mid _ m c0]
    simp [wt]
  exact h.rounds

end Go.Proofs.Ytkhkmeadaljhoaa.Pure
