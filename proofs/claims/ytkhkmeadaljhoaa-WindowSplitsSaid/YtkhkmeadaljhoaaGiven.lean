/- The contracts of Weight and Weights, in the printer's form. No condition. -/
import Derived.Test.YtkhkmeadaljhoaaWinTwo
namespace Go.Proofs.Ytkhkmeadaljhoaa.Given
open Go.RowKit Go.Proofs.YtkhkmeadaljhoaaW.PrintWords Go.Proofs.Ytkhkmeadaljhoaa.Win
def weight (s i n : Int) : Int × Int := if s < 0 ∨ 2 < s then (0, 8) else if n < 1 ∨ 65535 < n ∨ i < 0 ∨ n ≤ i then (0, 1) else (wt s i n, 0)
def weights (s n : Int) : List Int × Int := if s < 0 ∨ 2 < s then ([], 8) else if n < 0 ∨ 65535 < n then ([], 1) else ((List.range n.toNat).map (fun (i : Nat) => wt s i n), 0)
def window_Weight.f (a0 a1 a2 : Int) : Option (Int × Int) := some (weight a0 a1 a2)
def window_Weights.f (a0 a1 : Int) : Option (List Int × Int) := some (weights a0 a1)
theorem window_Weight.calls (a0 a1 a2 : Int) (r1 r2 : Int) (w : World) (h : window_Weight.f a0 a1 a2 = some (r1, r2)) :
    Calls Try.prog 10 #[.int .i64 a0, .int .i64 a1, .int .i64 a2] w fun e w' => e = .returned (.tuple #[.int .i64 r1, .int .i64 r2]) ∧ Below w.heap.size w w' := by
  have h := Option.some.inj h
  unfold weight at h
  by_cases c1 : a0 < 0 ∨ 2 < a0
  · rw [if_pos c1] at h
    obtain ⟨rfl, rfl⟩ := Prod.mk.inj h
    exact weight_nokind a0 a1 a2 w c1
  · rw [if_neg c1] at h
    by_cases c2 : a2 < 1 ∨ 65535 < a2 ∨ a1 < 0 ∨ a2 ≤ a1
    · rw [if_pos c2] at h
      obtain ⟨rfl, rfl⟩ := Prod.mk.inj h
      obtain rfl | rfl | rfl : a0 = 0 ∨ a0 = 1 ∨ a0 = 2 := by omega
      · exact weight_flat_bad a1 a2 w c2
      · exact weight_tent_bad a1 a2 w c2
      · exact weight_hill_bad a1 a2 w c2
    · rw [if_neg c2] at h
      obtain ⟨rfl, rfl⟩ := Prod.mk.inj h
      obtain rfl | rfl | rfl : a0 = 0 ∨ a0 = 1 ∨ a0 = 2 := by omega
      · exact weight_flat a1 a2 w (by omega) (by omega) (by omega)
      · exact weight_tent a1 a2 w (by omega) (by omega) (by omega)
      · exact weight_hill a1 a2 w (by omega) (by omega) (by omega)
theorem window_Weights.calls (a0 a1 : Int) (r1 : List Int) (r2 : Int) (w : World) (h : window_Weights.f a0 a1 = some (r1, r2)) :
    Calls Try.prog 12 #[.int .i64 a0, .int .i64 a1] w fun e w' => ∃ v0_ : Value, e = .returned (.tuple #[v0_, .int .i64 r2]) ∧ Kd.R (Kd.int .i64) 3 w' w.heap.size (fun _ => True) v0_ r1 ∧ Below w.heap.size w w' := by
  have h := Option.some.inj h
  unfold weights at h
  have nil : ∀ w' : World, Kd.R (Kd.int .i64) 3 w' w.heap.size (fun _ => True) (.slice none 0 0) [] := fun w' => Kd.R_nil _ _ _ _ _
  by_cases c1 : a0 < 0 ∨ 2 < a0
  · rw [if_pos c1] at h
    obtain ⟨rfl, rfl⟩ := Prod.mk.inj h
    exact (weights_nokind a0 a1 w c1).mono fun e w' ⟨he, hb⟩ => ⟨_, he, nil w', hb⟩
  · rw [if_neg c1] at h
    by_cases c2 : a1 < 0 ∨ 65535 < a1
    · rw [if_pos c2] at h
      obtain ⟨rfl, rfl⟩ := Prod.mk.inj h
      obtain rfl | rfl | rfl : a0 = 0 ∨ a0 = 1 ∨ a0 = 2 := by omega
      · exact (weights_flat_bad a1 w c2).mono fun e w' ⟨he, hb⟩ => ⟨_, he, nil w', hb⟩
      · exact (weights_tent_bad a1 w c2).mono fun e w' ⟨he, hb⟩ => ⟨_, he, nil w', hb⟩
      · exact (weights_hill_bad a1 w c2).mono fun e w' ⟨he, hb⟩ => ⟨_, he, nil w', hb⟩
    · rw [if_neg c2] at h
      obtain ⟨rfl, rfl⟩ := Prod.mk.inj h
      obtain ⟨n, rfl⟩ := Int.eq_ofNat_of_zero_le (show 0 ≤ a1 by omega)
      rw [Int.toNat_natCast]
      obtain rfl | rfl | rfl : a0 = 0 ∨ a0 = 1 ∨ a0 = 2 := by omega
      · exact weights_flat n w (by omega)
      · exact weights_tent n w (by omega)
      · exact weights_hill n w (by omega)
end Go.Proofs.Ytkhkmeadaljhoaa.Given
