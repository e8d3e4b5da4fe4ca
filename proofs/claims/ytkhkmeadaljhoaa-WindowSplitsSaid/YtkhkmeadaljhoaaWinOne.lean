/- Walks of package window: what each call does. Conditions: each lemma names its own. -/
import Derived.Test.YtkhkmeadaljhoaaProg
import Derived.WalkKit
import Derived.WalkSpells
import Derived.WalkLawsBesides
import Derived.Deep.QuietTactic
import Derived.BigQuiet
import Derived.RegionTactic
import Derived.Lib.Hide
import Derived.KernelRfl
import Derived.Test.YtkhkmeadaljhoaaWMore
namespace Go.Proofs.Ytkhkmeadaljhoaa.Win
open Go.RowKit Go.Proofs.YtkhkmeadaljhoaaW.PrintWords Go.Proofs.YtkhkmeadaljhoaaW.PrintMore
attribute [local go_sem] max2_int min2_int max_two min_two

theorem named_flat (w : World) : Calls Try.prog 18 #[.int .i64 0] w fun e w' => e = .returned (.iface 47 (.agg #[])) ∧ w = w' := by
  go_enter Try.func18, Try.ntmps18
  go_wp2
  go_ret
  exact ⟨rfl, rfl⟩
theorem named_tent (w : World) : Calls Try.prog 18 #[.int .i64 1] w fun e w' => e = .returned (.iface 48 (.agg #[])) ∧ w = w' := by
  go_enter Try.func18, Try.ntmps18
  go_wp2
  go_ret
  exact ⟨rfl, rfl⟩
theorem named_hill (w : World) : Calls Try.prog 18 #[.int .i64 2] w fun e w' => e = .returned (.iface 49 (.agg #[])) ∧ w = w' := by
  go_enter Try.func18, Try.ntmps18
  go_wp2
  go_ret
  exact ⟨rfl, rfl⟩
theorem named_none (s : Int) (w : World) (h : s < 0 ∨ 2 < s) : Calls Try.prog 18 #[.int .i64 s] w fun e w' => e = .returned .nilIface ∧ w = w' := by
  have t0 : (s == 0) = false := by rw [beq_eq_false_iff_ne]; omega
  have t1 : (s == 1) = false := by rw [beq_eq_false_iff_ne]; omega
  have t2 : (s == 2) = false := by rw [beq_eq_false_iff_ne]; omega
  clear h
  go_enter Try.func18, Try.ntmps18
  go_wp2
  go_ret
  exact ⟨rfl, rfl⟩
theorem flat_at (i n : Int) (w : World) : Calls Try.prog 36 #[.agg #[], .int .i64 i, .int .i64 n] w fun e w' => e = .returned (.int .i64 32768) ∧ Below w.heap.size w w' := by
  go_enter Try.func36, Try.ntmps36
  go_wp2
  go_ret
  exact ⟨rfl, below_alloc (Below.refl _ _) _⟩
def tentW (i n : Int) : Int := mn 32768 (65536 * mn (i + 1) (n - i) / (n + 1))
def hillW (i n : Int) : Int := 32768 - 32768 * (2 * i + 1 - n) * (2 * i + 1 - n) / ((n + 1) * (n + 1))
theorem ret_int {k : IntKind} {a b : Int} (h : a = b) : Ending.returned (.int k a) = .returned (.int k b) := by rw [h]
theorem sq_bd (d m : Int) (h0 : -m ≤ d) (h1 : d ≤ m) (hm : 0 ≤ m) : 0 ≤ d * d ∧ d * d ≤ m * m := by
  rcases Int.le_total 0 d with h | h
  · exact ⟨Int.mul_nonneg h h, Int.mul_le_mul h1 h1 h hm⟩
  · have e : d * d = (-d) * (-d) := by rw [Int.neg_mul_neg]
    rw [e]
    exact ⟨Int.mul_nonneg (by omega) (by omega), Int.mul_le_mul (by omega) (by omega) (by omega) hm⟩
theorem hill_bd (i n : Int) (i0 : 0 ≤ i) (i1 : i < n) (n1 : n ≤ 65535) : 0 ≤ 32768 * (2 * i + 1 - n) * (2 * i + 1 - n) ∧ 32768 * (2 * i + 1 - n) * (2 * i + 1 - n) ≤ 140737488355328 ∧ 1 ≤ (n + 1) * (n + 1) ∧ (n + 1) * (n + 1) ≤ 4294967296 ∧
    0 ≤ 32768 * (2 * i + 1 - n) * (2 * i + 1 - n) / ((n + 1) * (n + 1)) ∧ 32768 * (2 * i + 1 - n) * (2 * i + 1 - n) / ((n + 1) * (n + 1)) ≤ 32767 := by
  have a := sq_bd (2 * i + 1 - n) (n - 1) (by omega) (by omega) (by omega)
  have b := sq_bd (n + 1) 65536 (by omega) (by omega) (by omega)
  have c := sq_bd (n - 1) 65536 (by omega) (by omega) (by omega)
  have e : 32768 * (2 * i + 1 - n) * (2 * i + 1 - n) = 32768 * ((2 * i + 1 - n) * (2 * i + 1 - n)) := Int.mul_assoc _ _ _
  have f : (n + 1) * (n + 1) = (n - 1) * (n - 1) + 4 * n := by
    have e1 : (n + 1) * (n + 1) = n * n + 2 * n + 1 := by rw [Int.add_mul, Int.mul_add]; omega
    have e2 : (n - 1) * (n - 1) = n * n - 2 * n + 1 := by rw [Int.sub_mul, Int.mul_sub]; omega
    omega
  rw [e]
  generalize (2 * i + 1 - n) * (2 * i + 1 - n) = D at *
  generalize (n - 1) * (n - 1) = M at *
  generalize (n + 1) * (n + 1) = N at *
  have g1 : 0 ≤ 32768 * D / N := Int.ediv_nonneg (by omega) (by omega)
  have g2 : 32768 * D / N < 32768 := Int.ediv_lt_of_lt_mul (by omega) (by omega)
  omega
theorem mn_lo {a b : Int} (h : b < a) : mn a b = b := by unfold mn; rw [if_pos h]
theorem mn_hi {a b : Int} (h : ¬ b < a) : mn a b = a := by unfold mn; rw [if_neg h]
theorem tent_at (i n : Int) (w : World) (i0 : 0 ≤ i) (i1 : i < n) (n1 : n ≤ 65535) : Calls Try.prog 37 #[.agg #[], .int .i64 i, .int .i64 n] w fun e w' => e = .returned (.int .i64 (tentW i n)) ∧ Below w.heap.size w w' := by
  by_cases c : n - i < i + 1
  · have h0 : 0 ≤ 65536 * (n - i) / (n + 1) := Int.ediv_nonneg (by omega) (by omega)
    have h1 : 65536 * (n - i) / (n + 1) ≤ 65536 := Int.ediv_le_of_le_mul (by omega) (by omega)
    have E := Aside0.mk (show tentW i n = mn 32768 (65536 * (n - i) / (n + 1)) by unfold tentW; rw [mn_lo c])
    go_enter Try.func37, Try.ntmps37
    go_wp2
    all_goals
      go_ret
      exact ⟨ret_int (by rw [E.out]; first | exact (mn_lo (by omega)).symm | exact (mn_hi (by omega)).symm), below_alloc (Below.refl _ _) _⟩
  · have h0 : 0 ≤ 65536 * (i + 1) / (n + 1) := Int.ediv_nonneg (by omega) (by omega)
    have h1 : 65536 * (i + 1) / (n + 1) ≤ 65536 := Int.ediv_le_of_le_mul (by omega) (by omega)
    have E := Aside0.mk (show tentW i n = mn 32768 (65536 * (i + 1) / (n + 1)) by unfold tentW; rw [mn_hi c])
    go_enter Try.func37, Try.ntmps37
    go_wp2
    all_goals
      go_ret
      exact ⟨ret_int (by rw [E.out]; first | exact (mn_lo (by omega)).symm | exact (mn_hi (by omega)).symm), below_alloc (Below.refl _ _) _⟩
theorem hill_at (i n : Int) (w : World) (i0 : 0 ≤ i) (i1 : i < n) (n1 : n ≤ 65535) : Calls Try.prog 38 #[.agg #[], .int .i64 i, .int .i64 n] w fun e w' => e = .returned (.int .i64 (hillW i n)) ∧ Below w.heap.size w w' := by
  obtain ⟨h0, h1, h2, h3, h4, h5⟩ := hill_bd i n i0 i1 n1
  have hz : ((n + 1) * (n + 1) == 0) = false := by rw [beq_eq_false_iff_ne]; omega
  go_enter Try.func38, Try.ntmps38
  go_wp2
  go_ret
  exact ⟨ret_int (by unfold hillW; rfl), below_alloc (Below.refl _ _) _⟩
end Go.Proofs.Ytkhkmeadaljhoaa.Win
