/- The call of WindowSplits answers true: what is weighted in parts is weighted at once. No condition beyond what a Go value can be. -/
import Derived.Test.YtkhkmeadaljhoaaBWindowSplits
namespace Go.Proofs.Ytkhkmeadaljhoaa.Pure
open Go.RowKit Go.Proofs.Ytkhkmeadaljhoaa.GWindowSplits Go.Proofs.YtkhkmeadaljhoaaW.PrintWords Go.Proofs.YtkhkmeadaljhoaaW.PrintLast Go.Proofs.Ytkhkmeadaljhoaa.Win Go.Proofs.Ytkhkmeadaljhoaa.WMath Go.Proofs.Ytkhkmeadaljhoaa.BWindowSplits
namespace WindowSplitsAid
theorem u8_bd {a : Int} (hw : (Lit.int .u8 a).wf = true) : 0 ≤ a ∧ a ≤ 255 := by
  have e1 : IntKind.u8.min = 0 := by decide
  have e2 : IntKind.u8.max = 255 := by decide
  simp [Lit.wf, e1, e2] at hw; omega
theorem u16_bd {a : Int} (hw : (Lit.int .u16 a).wf = true) : 0 ≤ a ∧ a ≤ 65535 := by
  have e1 : IntKind.u16.min = 0 := by decide
  have e2 : IntKind.u16.max = 65535 := by decide
  simp [Lit.wf, e1, e2] at hw; omega
theorem i64_bd {a : Int} (hw : (Lit.int .i64 a).wf = true) : -9223372036854775808 ≤ a ∧ a ≤ 9223372036854775807 := by
  have e1 : IntKind.i64.min = -9223372036854775808 := by decide
  have e2 : IntKind.i64.max = 9223372036854775807 := by decide
  simp [Lit.wf, e1, e2] at hw; omega
theorem mod3 {a : Int} (h : 0 ≤ a ∧ a ≤ 255) : 0 ≤ Int.tmod a 3 ∧ Int.tmod a 3 ≤ 2 ∧ wrap64 (Int.tmod a 3) = Int.tmod a 3 := by
  have h0 := Int.tmod_nonneg 3 h.1
  have h1 := Int.tmod_lt_of_pos a (show (0 : Int) < 3 by omega)
  exact ⟨h0, by omega, wrap_id (by omega) (by omega)⟩
/-- All weights. -/
def all (s : Int) (n : Nat) : List Int := (List.range n).map (fun (i : Nat) => wt s i n)
theorem all_len (s : Int) (n : Nat) : (all s n).length = n := by simp [all]
theorem all_bd (s : Int) (n : Nat) (h : n ≤ 65535) : ∀ v ∈ all s n, 1 ≤ v ∧ v ≤ 32768 := by
  intro v hv
  obtain ⟨i, hi, rfl⟩ := List.mem_map.1 hv
  have := List.mem_range.1 hi
  exact wt_range s i n (by omega) (by omega) (by omega)
theorem made_cut (x w : List Int) (n : Nat) (h : x.length = w.length) : made (x.take n) (w.take n) ++ made (x.drop n) (w.drop n) = made x w := by
  unfold made
  rw [← List.zipWith_append (by simp [h]), List.take_append_drop, List.take_append_drop]
end WindowSplitsAid
open WindowSplitsAid
/-- YOURS -/
theorem WindowSplits : serinettelaw08_WindowSplits.Pure := by
  intro l0 a1 a2 hm h8 hw0 hw1 hw2
  have b1 := u8_bd hw1
  have b2 := u8_bd hw2
  have m3 := mod3 b1
  have h : Ev (fun k => serinettelaw08_WindowSplits.f k l0 a1 a2) true := by
    refine Ev.bind awake_is ?_
    have bad : Ev (fun k => serinettelaw08_WindowSplits.j0 k l0 a1 a2 true true) true := Ev.step (f := fun _ => some true) (fun k => by simp only [serinettelaw08_WindowSplits.j0]; rw [if_pos trivial]) (Ev.now _)
    rcases near_is l0 (by omega) with ⟨hn, hN⟩ | hN
    · refine Ev.bind hN ?_
      by_cases c1 : (l0.length : Int) > 100
      · exact Ev.congr (fun k => by rw [if_pos c1]) bad
      · refine Ev.congr (fun k => by rw [if_neg c1]) ?_
        have ew : Given.weights (Int.tmod a1 3) (l0.length : Int) = (all (Int.tmod a1 3) l0.length, 0) := weights_ok _ _ m3.1 m3.2.1 (by omega)
        obtain ⟨n, hn1, hn2⟩ : ∃ n : Nat, (n : Int) = mn (wrap64 a2) (l0.length : Int) ∧ n ≤ l0.length := by
          rw [wrap_id (n := a2) (by omega) (by omega)]
          exact ⟨(mn a2 (l0.length : Int)).toNat, by unfold mn; split <;> omega, by unfold mn; split <;> omega⟩
        generalize hW : all (Int.tmod a1 3) l0.length = W at *
        have hwl : W.length = l0.length := by rw [← hW, all_len]
        have hwb : ∀ v ∈ W, 0 ≤ v ∧ v ≤ 32768 := fun v hv => by have := all_bd (Int.tmod a1 3) l0.length (by omega) v (by rw [hW]; exact hv); omega
        refine Ev.step (f := fun k => serinettelaw08_WindowSplits.j1 k l0 true (n : Int) W false) (fun k => ?_) ?_
        · simp only [serinettelaw08_WindowSplits.j0]; unfold Given.window_Weights.f
          rw [if_neg (by decide), m3.2.2, ew]; simp only [Option.bind_some]
          rw [if_pos trivial, hwl, bne_self_eq_false, ← hn1]
        · have hA := apply_is (l0.take n) (W.take n) (by simp [hwl]) (by simp; omega) (fun x hx => hn x (List.mem_of_mem_take hx)) (fun v hv => hwb v (List.mem_of_mem_take hv))
          have hB := apply_is (l0.drop n) (W.drop n) (by simp [hwl]) (by simp; omega) (fun x hx => hn x (List.mem_of_mem_drop hx)) (fun v hv => hwb v (List.mem_of_mem_drop hv))
          have hC := apply_is l0 W hwl.symm (by omega) hn hwb
          have lA : (made (l0.take n) (W.take n)).length ≤ 100 := by rw [made_len _ _ (by simp [hwl])]; simp; omega
          have lB : (made (l0.drop n) (W.drop n)).length ≤ 100 := by rw [made_len _ _ (by simp [hwl])]; simp; omega
          refine Ev.step (fun k => by simp only [serinettelaw08_WindowSplits.j1]; rw [if_neg (by decide), if_pos (by omega), if_pos (by omega), if_pos (by omega), Int.toNat_natCast]) (Ev.bind hA (Ev.bind hB (Ev.bind hC ?_)))
          refine Ev.congr (f := fun k => (serinetteref01_Ints.f k (made l0 W) (made l0 W)).bind fun t164 => some t164) (fun k => ?_) (Ev.bind (ints_is _ (by rw [made_len _ _ hwl.symm]; omega)) (Ev.now _))
          rw [if_pos rfl, if_pos rfl, if_pos rfl, if_pos trivial]
          simp only [Option.bind_some, List.nil_append]
          rw [if_pos (by simp; omega), if_pos (by omega), made_cut _ _ _ hwl.symm]
    · refine Ev.bind hN ?_
      by_cases c1 : (l0.length : Int) > 100
      · exact Ev.congr (fun k => by rw [if_pos c1]) bad
      · exact Ev.congr (fun k => by rw [if_neg c1]; rfl) bad
  exact h.rounds

end Go.Proofs.Ytkhkmeadaljhoaa.Pure
