/- The call of WindowTells answers true: the weights by any shape, or what is wrong, are as the document says. No condition beyond what a Go value can be. -/
import Derived.Test.YtkhkmeadaljhoaaBWindowTells
namespace Go.Proofs.Ytkhkmeadaljhoaa.Pure
open Go.RowKit Go.Proofs.Ytkhkmeadaljhoaa.GWindowTells Go.Proofs.YtkhkmeadaljhoaaW.PrintWords Go.Proofs.YtkhkmeadaljhoaaW.PrintLast Go.Proofs.Ytkhkmeadaljhoaa.Win Go.Proofs.Ytkhkmeadaljhoaa.WMath Go.Proofs.Ytkhkmeadaljhoaa.BWindowTells
namespace WindowTellsAid
theorem u8_bd {a : Int} (hw : (Lit.int .u8 a).wf = true) : 0 ≤ a ∧ a ≤ 255 := by
  have e1 : IntKind.u8.min = 0 := by decide
  have e2 : IntKind.u8.max = 255 := by decide
  simp [Lit.wf, e1, e2] at hw; omega
theorem u16_bd {a : Int} (hw : (Lit.int .u16 a).wf = true) : 0 ≤ a ∧ a ≤ 65535 := by
  have e1 : IntKind.u16.min = 0 := by decide
  have e2 : IntKind.u16.max = 65535 := by decide
  simp [Lit.wf, e1, e2] at hw; omega
theorem i64_bd {a : Int} (hw : (Lit.int .i64 a).wf = true) : -9223372036854775808 ≤ a ∧ a ≤ 9223372036854775807 := by
  have e1 : IntKind.i64.min = -9223372036854775808 := by decide
  have e2 : IntKind.i64.max = 9223372036854775807 := by decide
  simp [Lit.wf, e1, e2] at hw; omega
theorem mod3 {a : Int} (h : 0 ≤ a ∧ a ≤ 255) : 0 ≤ Int.tmod a 3 ∧ Int.tmod a 3 ≤ 2 ∧ wrap64 (Int.tmod a 3) = Int.tmod a 3 := by
  have h0 := Int.tmod_nonneg 3 h.1
  have h1 := Int.tmod_lt_of_pos a (show (0 : Int) < 3 by omega)
  exact ⟨h0, by omega, wrap_id (by omega) (by omega)⟩
theorem ref_weight (s i n : Int) (hi : -9223372036854775808 ≤ i ∧ i ≤ 9223372036854775807) : Ev (fun k => serinetteref08_Weight.f k s i n) (Given.weight s i n) := by
  have bad : Ev (fun k => serinetteref08_Weight.j0 k s i n true) (0, 8) := Ev.step (f := fun _ => some (0, 8)) (fun k => by simp only [serinetteref08_Weight.j0]; rw [if_pos trivial]) (Ev.now _)
  have bad1 : Ev (fun k => serinetteref08_Weight.j1 k s i n true) (0, 1) := Ev.step (f := fun _ => some (0, 1)) (fun k => by simp only [serinetteref08_Weight.j1]; rw [if_pos trivial]) (Ev.now _)
  unfold Given.weight
  by_cases c1 : s < 0
  · rw [if_pos (.inl c1)]
    exact Ev.congr (fun k => by unfold serinetteref08_Weight.f; rw [if_pos c1]) bad
  · by_cases c2 : 2 < s
    · rw [if_pos (.inr c2)]
      exact Ev.congr (fun k => by unfold serinetteref08_Weight.f; rw [if_neg c1, decide_eq_true c2]) bad
    · rw [if_neg (by omega)]
      refine Ev.congr (f := fun k => serinetteref08_Weight.j0 k s i n false) (fun k => by unfold serinetteref08_Weight.f; rw [if_neg c1, decide_eq_false c2]) ?_
      by_cases c3 : n < 1
      · rw [if_pos (.inl c3)]
        exact Ev.step (fun k => by simp only [serinetteref08_Weight.j0]; rw [if_neg (by decide), if_pos c3]) bad1
      · by_cases c4 : n > 65535
        · rw [if_pos (.inr (.inl c4))]
          exact Ev.step (fun k => by simp only [serinetteref08_Weight.j0]; rw [if_neg (by decide), if_neg c3, if_pos c4]) bad1
        · by_cases c5 : i < 0
          · rw [if_pos (.inr (.inr (.inl c5)))]
            exact Ev.step (fun k => by simp only [serinetteref08_Weight.j0]; rw [if_neg (by decide), if_neg c3, if_neg c4, if_pos c5]) bad1
          · by_cases c6 : n ≤ i
            · rw [if_pos (.inr (.inr (.inr c6)))]
              exact Ev.step (fun k => by simp only [serinetteref08_Weight.j0]; rw [if_neg (by decide), if_neg c3, if_neg c4, if_neg c5, wrap_id (n := n - 1) (by omega) (by omega), decide_eq_true (by omega)]) bad1
            · rw [if_neg (by omega)]
              refine Ev.step (f := fun k => serinetteref08_Weight.j1 k s i n false) (fun k => by simp only [serinetteref08_Weight.j0]; rw [if_neg (by decide), if_neg c3, if_neg c4, if_neg c5, wrap_id (n := n - 1) (by omega) (by omega), decide_eq_false (by omega)]) ?_
              refine Ev.step (f := fun _ => some (wt s i n, 0)) (fun k => ?_) (Ev.now _)
              simp only [serinetteref08_Weight.j1]
              rw [if_neg (by decide)]
              unfold wt
              by_cases e0 : s = 0
              · rw [if_pos e0, if_pos e0]
              · rw [if_neg e0, if_neg e0]
                by_cases e1 : s = 1
                · have tr := tent_range i n (by omega) (by omega) (by omega)
                  have tp := tent_plain i n (by omega) (by omega)
                  rw [if_pos e1, if_pos e1, wrap_id (n := n - i) (by omega) (by omega), wrap_id (n := i + 1) (by omega) (by omega), wrap_id (n := n + 1) (by omega) (by omega)]
                  by_cases e2 : n - i < i + 1
                  · rw [mn_lo e2] at tp
                    rw [if_pos e2, if_neg (by omega), wrap_id (n := 65536 * (n - i)) (by omega) (by omega), Int.tdiv_eq_ediv_of_nonneg (by omega), ← tp, wrap_id (by omega) (by omega), if_neg (by omega)]
                  · rw [mn_hi e2] at tp
                    rw [if_neg e2, if_neg (by omega), wrap_id (n := 65536 * (i + 1)) (by omega) (by omega), Int.tdiv_eq_ediv_of_nonneg (by omega), ← tp, wrap_id (by omega) (by omega), if_neg (by omega)]
                · obtain ⟨g0, g1, g2, g3, g4, g5⟩ := hill_bd i n (by omega) (by omega) (by omega)
                  rw [if_neg e1, if_neg e1, wrap_id (n := n + 1) (by omega) (by omega), wrap_id (n := (n + 1) * (n + 1)) (by omega) (by omega), if_neg (by omega), wrap_id (n := 2 * i) (by omega) (by omega), wrap_id (n := 2 * i + 1) (by omega) (by omega), wrap_id (n := 2 * i + 1 - n) (by omega) (by omega), wrap_id (n := 32768 * (2 * i + 1 - n)) (by omega) (by omega), wrap_id (n := 32768 * (2 * i + 1 - n) * (2 * i + 1 - n)) (by omega) (by omega), Int.tdiv_eq_ediv_of_nonneg g0, wrap_id (n := 32768 * (2 * i + 1 - n) * (2 * i + 1 - n) / ((n + 1) * (n + 1))) (by omega) (by omega), wrap_id (by omega) (by omega)]
                  rfl
theorem ref_fill (s : Int) (n : Nat) (hs : 0 ≤ s) (hs2 : s ≤ 2) (hn : n ≤ 200) (d : Nat) : ∀ j : Nat, n - j = d → j ≤ n →
    Ev (fun k => serinetteref08_Weights.l0 k s (n : Int) ((List.range j).map (fun (i : Nat) => wt s i n)) (j : Int)) ((List.range n).map (fun (i : Nat) => wt s i n), 0) := by
  induction d with
  | zero =>
    intro j hd hj
    obtain rfl : j = n := by omega
    exact Ev.step (f := fun _ => some _) (fun k => by simp only [serinetteref08_Weights.l0]; rw [if_neg (by omega)]) (Ev.now _)
  | succ d ih =>
    intro j hd hj
    have := ih (j + 1) (by omega) (by omega)
    refine Ev.step (fun k => by simp only [serinetteref08_Weights.l0]; rw [if_pos (by omega)]) (Ev.bind (ref_weight s (j : Int) (n : Int) (by omega)) ?_)
    rw [weight_ok s j n hs hs2 (by omega) (by omega) (by omega), wrap_id (n := (j : Int) + 1) (by omega) (by omega)]
    rw [List.range_succ, List.map_append] at this
    exact Ev.congr (fun k => by rw [if_pos (by simp; omega)]; rfl) this
theorem ref_weights (s m : Int) (hm : m ≤ 200 ∨ 65535 < m) : Ev (fun k => serinetteref08_Weights.f k s m) (Given.weights s m) := by
  have bad : Ev (fun k => serinetteref08_Weights.j0 k s m true) ([], 8) := Ev.step (f := fun _ => some ([], 8)) (fun k => by simp only [serinetteref08_Weights.j0]; rw [if_pos trivial]) (Ev.now _)
  have bad1 : Ev (fun k => serinetteref08_Weights.j1 k s m true) ([], 1) := Ev.step (f := fun _ => some ([], 1)) (fun k => by simp only [serinetteref08_Weights.j1]; rw [if_pos trivial]) (Ev.now _)
  unfold Given.weights
  by_cases c1 : s < 0
  · rw [if_pos (.inl c1)]
    exact Ev.congr (fun k => by unfold serinetteref08_Weights.f; rw [if_pos c1]) bad
  · by_cases c2 : 2 < s
    · rw [if_pos (.inr c2)]
      exact Ev.congr (fun k => by unfold serinetteref08_Weights.f; rw [if_neg c1, decide_eq_true c2]) bad
    · rw [if_neg (by omega)]
      refine Ev.congr (f := fun k => serinetteref08_Weights.j0 k s m false) (fun k => by unfold serinetteref08_Weights.f; rw [if_neg c1, decide_eq_false c2]) ?_
      by_cases c3 : m < 0
      · rw [if_pos (.inl c3)]
        exact Ev.step (fun k => by simp only [serinetteref08_Weights.j0]; rw [if_neg (by decide), if_pos c3]) bad1
      · by_cases c4 : m > 65535
        · rw [if_pos (.inr c4)]
          exact Ev.step (fun k => by simp only [serinetteref08_Weights.j0]; rw [if_neg (by decide), if_neg c3, decide_eq_true c4]) bad1
        · rw [if_neg (by omega)]
          obtain ⟨n, rfl⟩ := Int.eq_ofNat_of_zero_le (show 0 ≤ m by omega)
          rw [Int.toNat_natCast]
          refine Ev.step (f := fun k => serinetteref08_Weights.j1 k s (n : Int) false) (fun k => by simp only [serinetteref08_Weights.j0]; rw [if_neg (by decide), if_neg c3, decide_eq_false c4]) ?_
          exact Ev.step (fun k => by simp only [serinetteref08_Weights.j1]; rw [if_neg (by decide)]; rfl) (ref_fill s n (by omega) (by omega) (by omega) n 0 (by omega) (by omega))
theorem weights_len (s m : Int) (hm : m ≤ 200 ∨ 65535 < m) : (Given.weights s m).1.length ≤ 200 := by
  unfold Given.weights
  split
  · simp
  · split
    · simp
    · simp; omega
end WindowTellsAid
open WindowTellsAid
/-- YOURS -/
theorem WindowTells : serinettelaw08_WindowTells.Pure := by
  intro a0 a1 a2 a3 h0 h1 h2 h3
  have b1 := i64_bd h1
  have h : Ev (fun k => serinettelaw08_WindowTells.f k a0 a1 a2 a3) true := by
    refine Ev.bind awake_is ?_
    refine Ev.congr (f := fun k => (serinetteref08_Weight.f k a0 a1 a2).bind fun bt127 => (if (Given.weight a0 a1 a2).1 = bt127.1 then (serinettelaw08_WindowTells.j0 k a0 a3 true ((Given.weight a0 a1 a2).2 != bt127.2)) else (serinettelaw08_WindowTells.j0 k a0 a3 true true))) (fun k => rfl) ?_
    refine Ev.bind (ref_weight a0 a1 a2 b1) ?_
    refine Ev.congr (f := fun k => serinettelaw08_WindowTells.j0 k a0 a3 true false) (fun k => by rw [if_pos rfl, bne_self_eq_false]) ?_
    have small : (a3 ≤ 200 ∨ 65535 < a3) → Ev (fun k => serinettelaw08_WindowTells.j1 k a0 a3 true false) true := fun hm => by
      refine Ev.step (f := fun k => (serinetteref08_Weights.f k a0 a3).bind fun bt133 => (if true = true then (if (Given.weights a0 a3).2 = bt133.2 then ((serinetteref01_Ints.f k (Given.weights a0 a3).1 bt133.1).bind fun t137 => (some t137)) else (some false)) else (some false))) (fun k => by simp only [serinettelaw08_WindowTells.j1]; rw [if_neg (by decide)]; rfl) ?_
      refine Ev.bind (ref_weights a0 a3 hm) ?_
      refine Ev.congr (fun k => by rw [if_pos rfl, if_pos rfl]) (Ev.bind (ints_is _ (by have := weights_len a0 a3 hm; omega)) (Ev.now _))
    by_cases c1 : a3 > 200
    · by_cases c2 : a3 ≤ 65535
      · refine Ev.step (f := fun k => serinettelaw08_WindowTells.j1 k a0 a3 true true) (fun k => by simp only [serinettelaw08_WindowTells.j0]; rw [if_neg (by decide), if_pos c1, decide_eq_true c2]) ?_
        exact Ev.step (f := fun _ => some true) (fun k => by simp only [serinettelaw08_WindowTells.j1]; rw [if_pos trivial]) (Ev.now _)
      · exact Ev.step (fun k => by simp only [serinettelaw08_WindowTells.j0]; rw [if_neg (by decide), if_pos c1, decide_eq_false c2]) (small (by omega))
    · exact Ev.step (fun k => by simp only [serinettelaw08_WindowTells.j0]; rw [if_neg (by decide), if_neg c1]) (small (by omega))
  exact h.rounds

end Go.Proofs.Ytkhkmeadaljhoaa.Pure
