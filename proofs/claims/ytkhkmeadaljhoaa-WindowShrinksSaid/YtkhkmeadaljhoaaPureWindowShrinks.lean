/- The call of WindowShrinks answers true: what is weighted is no further from 0 than it was, but for being rounded down. No condition beyond what a Go value can be. -/
import Derived.Test.YtkhkmeadaljhoaaBWindowShrinks
namespace Go.Proofs.Ytkhkmeadaljhoaa.Pure
open Go.RowKit Go.Proofs.Ytkhkmeadaljhoaa.GWindowShrinks Go.Proofs.YtkhkmeadaljhoaaW.PrintWords Go.Proofs.YtkhkmeadaljhoaaW.PrintLast Go.Proofs.Ytkhkmeadaljhoaa.Win Go.Proofs.Ytkhkmeadaljhoaa.WMath Go.Proofs.Ytkhkmeadaljhoaa.BWindowShrinks
namespace WindowShrinksAid
theorem u8_bd {a : Int} (hw : (Lit.int .u8 a).wf = true) : 0 ≤ a ∧ a ≤ 255 := by
  have e1 : IntKind.u8.min = 0 := by decide
  have e2 : IntKind.u8.max = 255 := by decide
  simp [Lit.wf, e1, e2] at hw; omega
theorem u16_bd {a : Int} (hw : (Lit.int .u16 a).wf = true) : 0 ≤ a ∧ a ≤ 65535 := by
  have e1 : IntKind.u16.min = 0 := by decide
  have e2 : IntKind.u16.max = 65535 := by decide
  simp [Lit.wf, e1, e2] at hw; omega
theorem i64_bd {a : Int} (hw : (Lit.int .i64 a).wf = true) : -9223372036854775808 ≤ a ∧ a ≤ 9223372036854775807 := by
  have e1 : IntKind.i64.min = -9223372036854775808 := by decide
  have e2 : IntKind.i64.max = 9223372036854775807 := by decide
  simp [Lit.wf, e1, e2] at hw; omega
theorem mod3 {a : Int} (h : 0 ≤ a ∧ a ≤ 255) : 0 ≤ Int.tmod a 3 ∧ Int.tmod a 3 ≤ 2 ∧ wrap64 (Int.tmod a 3) = Int.tmod a 3 := by
  have h0 := Int.tmod_nonneg 3 h.1
  have h1 := Int.tmod_lt_of_pos a (show (0 : Int) < 3 by omega)
  exact ⟨h0, by omega, wrap_id (by omega) (by omega)⟩
/-- All weights. -/
def all (s : Int) (n : Nat) : List Int := (List.range n).map (fun (i : Nat) => wt s i n)
theorem all_len (s : Int) (n : Nat) : (all s n).length = n := by simp [all]
theorem all_bd (s : Int) (n : Nat) (h : n ≤ 65535) : ∀ v ∈ all s n, 1 ≤ v ∧ v ≤ 32768 := by
  intro v hv
  obtain ⟨i, hi, rfl⟩ := List.mem_map.1 hv
  have := List.mem_range.1 hi
  exact wt_range s i n (by omega) (by omega) (by omega)
theorem shrunk (a w : Int) (h0 : 1 ≤ w) (h1 : w ≤ 32768) : (0 ≤ a → 0 ≤ a * w / 32768 ∧ a * w / 32768 ≤ a) ∧ (a < 0 → a * w / 32768 < 0 ∧ a ≤ a * w / 32768) := by
  constructor
  · intro ha
    have b : a * w ≤ a * 32768 := Int.mul_le_mul_of_nonneg_left h1 ha
    have c : 0 ≤ a * w := Int.mul_nonneg ha (by omega)
    omega
  · intro ha
    have b : a * 32768 ≤ a * w := Int.mul_le_mul_of_nonpos_left (by omega) h1
    have c : a * w ≤ a * 1 := Int.mul_le_mul_of_nonpos_left (by omega) h0
    omega
theorem looked (x : List Int) (s t : Int) (hx : x.length ≤ 100) (ht : Int.tmod t 3 = s) (d : Nat) : ∀ j : Nat, x.length - j = d → j ≤ x.length →
    Ev (fun k => serinettelaw08_WindowShrinks.l0 k x t true (made x (all s x.length)) (j : Int)) true := by
  have hml : (made x (all s x.length)).length = x.length := made_len _ _ (all_len _ _).symm
  induction d with
  | zero =>
    intro j hd hj
    exact Ev.step (f := fun _ => some true) (fun k => by simp only [serinettelaw08_WindowShrinks.l0]; rw [if_neg (by omega)]) (Ev.now _)
  | succ d ih =>
    intro j hd hj
    have hlt : j < x.length := by omega
    have hlt' : j < (all s x.length).length := by rw [all_len]; omega
    have hlt2 : j < (made x (all s x.length)).length := by omega
    have hw := all_bd s x.length (by omega) _ (List.getElem_mem hlt')
    have hv : (made x (all s x.length))[j] = x[j] * (all s x.length)[j] / 32768 := by simp [made]
    have hsh := shrunk x[j] _ hw.1 hw.2
    rw [← hv] at hsh
    have hfl : s = 0 → (made x (all s x.length))[j] = x[j] := fun e => by
      rw [hv]
      have : (all s x.length)[j] = 32768 := by subst e; simp [all, wt]
      rw [this]; exact Int.mul_ediv_cancel _ (by omega)
    have next := ih (j + 1) (by omega) (by omega)
    generalize hV : (made x (all s x.length))[j] = v at *
    have er : rd (made x (all s x.length)) (j : Int) = v := by rw [rd_at _ j hlt2, hV]
    refine Ev.step (fun k => ?_) next
    simp only [serinettelaw08_WindowShrinks.l0]
    rw [if_pos (by omega), if_pos (by omega), rd_at x j hlt, er, wrap_id (n := (j : Int) + 1) (by omega) (by omega), ht]
    by_cases c : x[j] ≥ 0
    · have := hsh.1 c
      rw [if_pos c, if_pos (by omega), if_neg (by omega), if_neg (by omega), if_neg (by omega)]
      by_cases e : s = 0
      · rw [if_pos e, if_pos (hfl e)]; rfl
      · rw [if_neg e]; rfl
    · have := hsh.2 (by omega)
      rw [if_neg c, if_pos (by omega), if_pos (by omega), if_neg (by omega), if_neg (by omega)]
      by_cases e : s = 0
      · rw [if_pos e, if_pos (hfl e)]; rfl
      · rw [if_neg e]; rfl
end WindowShrinksAid
open WindowShrinksAid
/-- YOURS -/
theorem WindowShrinks : serinettelaw08_WindowShrinks.Pure := by
  intro l0 a1 hm h8 hw0 hw1
  have b1 := u8_bd hw1
  have m3 := mod3 b1
  have h : Ev (fun k => serinettelaw08_WindowShrinks.f k l0 a1) true := by
    refine Ev.bind awake_is ?_
    have bad : Ev (fun k => serinettelaw08_WindowShrinks.j0 k l0 a1 true true) true := Ev.step (f := fun _ => some true) (fun k => by simp only [serinettelaw08_WindowShrinks.j0]; rw [if_pos trivial]) (Ev.now _)
    rcases near_is l0 (by omega) with ⟨hn, hN⟩ | hN
    · refine Ev.bind hN ?_
      by_cases c1 : (l0.length : Int) > 100
      · exact Ev.congr (fun k => by rw [if_pos c1]) bad
      · refine Ev.congr (fun k => by rw [if_neg c1]) ?_
        have ew : Given.weights (Int.tmod a1 3) (l0.length : Int) = (all (Int.tmod a1 3) l0.length, 0) := weights_ok _ _ m3.1 m3.2.1 (by omega)
        have ha := apply_is l0 (all (Int.tmod a1 3) l0.length) (all_len _ _).symm (by omega) hn (fun v hv => by have := all_bd (Int.tmod a1 3) l0.length (by omega) v hv; omega)
        have hml : (made l0 (all (Int.tmod a1 3) l0.length)).length = l0.length := made_len _ _ (all_len _ _).symm
        refine Ev.step (f := fun k => (window_Apply.f k l0 (all (Int.tmod a1 3) l0.length)).bind fun bt133 => (if (0 : Int) = 0 then (if bt133.2 = 0 then (serinettelaw08_WindowShrinks.j1 k l0 a1 true bt133.1 ((bt133.1.length : Int) != (l0.length : Int))) else (serinettelaw08_WindowShrinks.j1 k l0 a1 true bt133.1 true)) else (serinettelaw08_WindowShrinks.j1 k l0 a1 true bt133.1 true))) (fun k => ?_) (Ev.bind ha ?_)
        · simp only [serinettelaw08_WindowShrinks.j0]; unfold Given.window_Weights.f; rw [if_neg (by decide), m3.2.2, ew]; rfl
        · refine Ev.congr (f := fun k => serinettelaw08_WindowShrinks.j1 k l0 a1 true (made l0 (all (Int.tmod a1 3) l0.length)) false) (fun k => by rw [if_pos rfl, if_pos rfl, hml, bne_self_eq_false]) ?_
          exact Ev.step (fun k => by simp only [serinettelaw08_WindowShrinks.j1]; rw [if_neg (by decide)]; rfl) (looked l0 _ a1 (by omega) rfl l0.length 0 (by omega) (by omega))
    · refine Ev.bind hN ?_
      by_cases c1 : (l0.length : Int) > 100
      · exact Ev.congr (fun k => by rw [if_pos c1]) bad
      · exact Ev.congr (fun k => by rw [if_neg c1]; rfl) bad
  exact h.rounds

end Go.Proofs.Ytkhkmeadaljhoaa.Pure
