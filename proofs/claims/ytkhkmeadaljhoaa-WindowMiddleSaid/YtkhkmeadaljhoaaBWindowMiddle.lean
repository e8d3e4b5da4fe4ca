/- WindowMiddle: the texts' small functions tell what the plain law tells, from some number of rounds on. Conditions: each lemma names its own. -/
import Derived.Test.YtkhkmeadaljhoaaGWindowMiddlex1
import Derived.Test.YtkhkmeadaljhoaaWMath
namespace Go.Proofs.Ytkhkmeadaljhoaa.BWindowMiddle
open Go.RowKit Go.Proofs.Ytkhkmeadaljhoaa.GWindowMiddle Go.Proofs.YtkhkmeadaljhoaaW.PrintWords Go.Proofs.YtkhkmeadaljhoaaW.PrintLast Go.Proofs.Ytkhkmeadaljhoaa.Win Go.Proofs.Ytkhkmeadaljhoaa.WMath
theorem ints_same (l : List Int) (hl : l.length ≤ 70000) (d : Nat) : ∀ j : Nat, l.length - j = d → j ≤ l.length → Ev (fun k => serinetteref01_Ints.l0 k l l (j : Int)) true := by
  induction d with
  | zero =>
    intro j hd hj
    refine Ev.step (f := fun _ => some true) (fun k => ?_) (Ev.now _)
    simp only [serinetteref01_Ints.l0]; rw [if_neg (by omega)]
  | succ d ih =>
    intro j hd hj
    refine Ev.step (fun k => ?_) (ih (j + 1) (by omega) (by omega))
    simp only [serinetteref01_Ints.l0]
    rw [if_pos (by omega), if_pos (by omega), if_pos (by omega), if_pos trivial, wrap_id (n := (j : Int) + 1) (by omega) (by omega)]; rfl
theorem ints_is (l : List Int) (hl : l.length ≤ 70000) : Ev (fun k => serinetteref01_Ints.f k l l) true :=
  Ev.congr (fun k => by unfold serinetteref01_Ints.f; rw [if_pos rfl]; rfl) (ints_same l hl l.length 0 (by omega) (by omega))
theorem awake_is : Ev (fun k => serinettelaw08_awake.f k) true := Ev.of (k := 40) serinettelaw08_awake.mono (by decide +kernel)
end Go.Proofs.Ytkhkmeadaljhoaa.BWindowMiddle
