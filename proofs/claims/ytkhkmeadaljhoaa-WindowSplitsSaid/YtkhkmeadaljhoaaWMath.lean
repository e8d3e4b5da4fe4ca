/- The plain law of weights: how great they are, that they are alike from either end, that they rise towards the middle. Conditions: each lemma names its own. -/
import Derived.Test.YtkhkmeadaljhoaaGiven
namespace Go.Proofs.Ytkhkmeadaljhoaa.WMath
open Go.RowKit Go.Proofs.YtkhkmeadaljhoaaW.PrintWords Go.Proofs.Ytkhkmeadaljhoaa.Win Go.Proofs.Ytkhkmeadaljhoaa.Given
theorem rd_at (l : List Int) (j : Nat) (h : j < l.length) : rd l (j : Int) = l[j] := by
  unfold rd; simp [List.getD_eq_getElem?_getD, List.getElem?_eq_getElem h]
theorem wrap_id {n : Int} (h0 : -9223372036854775808 ≤ n) (h1 : n ≤ 9223372036854775807) : wrap64 n = n := by unfold wrap64; omega
def NearL (l : List Int) : Prop := ∀ x ∈ l, -1099511627776 ≤ x ∧ x ≤ 1099511627776
theorem near_mid (i n : Int) : 2 * mn (i + 1) (n - i) ≤ n + 1 := by unfold mn; split <;> omega
theorem near_pos (i n : Int) (h0 : 0 ≤ i) (h1 : i < n) : 1 ≤ mn (i + 1) (n - i) := by unfold mn; split <;> omega
theorem tent_plain (i n : Int) (h0 : 0 ≤ i) (h1 : i < n) : tentW i n = 65536 * mn (i + 1) (n - i) / (n + 1) := by
  have a := near_mid i n
  have b : 65536 * mn (i + 1) (n - i) / (n + 1) ≤ 32768 := Int.ediv_le_of_le_mul (by omega) (by omega)
  unfold tentW
  by_cases c : 65536 * mn (i + 1) (n - i) / (n + 1) < 32768
  · exact mn_lo c
  · rw [mn_hi c]; omega
theorem tent_range (i n : Int) (h0 : 0 ≤ i) (h1 : i < n) (h2 : n ≤ 65535) : 1 ≤ tentW i n ∧ tentW i n ≤ 32768 := by
  rw [tent_plain i n h0 h1]
  have a := near_mid i n
  have b := near_pos i n h0 h1
  exact ⟨Int.le_ediv_of_mul_le (by omega) (by omega), Int.ediv_le_of_le_mul (by omega) (by omega)⟩
theorem hill_range (i n : Int) (h0 : 0 ≤ i) (h1 : i < n) (h2 : n ≤ 65535) : 1 ≤ hillW i n ∧ hillW i n ≤ 32768 := by
  have := hill_bd i n h0 h1 h2
  unfold hillW; omega
theorem wt_range (s i n : Int) (h0 : 0 ≤ i) (h1 : i < n) (h2 : n ≤ 65535) : 1 ≤ wt s i n ∧ wt s i n ≤ 32768 := by
  unfold wt
  split
  · omega
  · split
    · exact tent_range i n h0 h1 h2
    · exact hill_range i n h0 h1 h2
theorem wt_even (s i n : Int) : wt s (n - 1 - i) n = wt s i n := by
  unfold wt tentW hillW
  have e1 : mn (n - 1 - i + 1) (n - (n - 1 - i)) = mn (i + 1) (n - i) := by unfold mn; split <;> split <;> omega
  have e2 : (2 * (n - 1 - i) + 1 - n) = -(2 * i + 1 - n) := by omega
  rw [e1, e2, Int.mul_assoc 32768 (-(2 * i + 1 - n)), Int.neg_mul_neg, ← Int.mul_assoc]
theorem wt_rises (s k n : Int) (h0 : 0 ≤ k) (h1 : 2 * (k + 1) ≤ n) : wt s k n ≤ wt s (k + 1) n := by
  unfold wt
  split
  · omega
  · split
    · rw [tent_plain k n h0 (by omega), tent_plain (k + 1) n (by omega) (by omega)]
      refine Int.ediv_le_ediv (by omega) ?_
      have : mn (k + 1) (n - k) ≤ mn (k + 1 + 1) (n - (k + 1)) := by unfold mn; split <;> split <;> omega
      omega
    · unfold hillW
      have e : 32768 * (2 * (k + 1) + 1 - n) * (2 * (k + 1) + 1 - n) / ((n + 1) * (n + 1)) ≤ 32768 * (2 * k + 1 - n) * (2 * k + 1 - n) / ((n + 1) * (n + 1)) := by
        refine Int.ediv_le_ediv (Int.mul_pos (by omega) (by omega)) ?_
        have a := sq_bd (2 * (k + 1) + 1 - n) (-(2 * k + 1 - n)) (by omega) (by omega) (by omega)
        rw [Int.neg_mul_neg] at a
        rw [Int.mul_assoc, Int.mul_assoc]
        omega
      omega
theorem wt_mid (s m : Int) (h0 : 0 ≤ m) : wt s m (2 * m + 1) = 32768 := by
  unfold wt
  split
  · rfl
  · split
    · rw [tent_plain m _ h0 (by omega)]
      have e : mn (m + 1) (2 * m + 1 - m) = m + 1 := by unfold mn; split <;> omega
      rw [e, show 65536 * (m + 1) = 32768 * (2 * m + 1 + 1) by omega]
      exact Int.mul_ediv_cancel _ (by omega)
    · unfold hillW
      rw [show 2 * m + 1 - (2 * m + 1) = 0 by omega]; simp
theorem weight_ok (s i n : Int) (hs : 0 ≤ s) (hs2 : s ≤ 2) (h0 : 0 ≤ i) (h1 : i < n) (h2 : n ≤ 65535) : weight s i n = (wt s i n, 0) := by
  unfold weight; rw [if_neg (by omega), if_neg (by omega)]
theorem weights_ok (s : Int) (n : Nat) (hs : 0 ≤ s) (hs2 : s ≤ 2) (h2 : n ≤ 65535) : weights s n = ((List.range n).map (fun (i : Nat) => wt s i n), 0) := by
  unfold weights; rw [if_neg (by omega), if_neg (by omega), Int.toNat_natCast]
/-- What weights make of numbers. -/
def made (x w : List Int) : List Int := List.zipWith (fun a b => a * b / 32768) x w
theorem made_len (x w : List Int) (h : x.length = w.length) : (made x w).length = x.length := by simp [made, h]
theorem mul_bd {x w : Int} (h0 : -1099511627776 ≤ x) (h1 : x ≤ 1099511627776) (w0 : 0 ≤ w) (w1 : w ≤ 32768) : -36028797018963968 ≤ x * w ∧ x * w ≤ 36028797018963968 := by
  have a : x * w ≤ 1099511627776 * w := Int.mul_le_mul_of_nonneg_right h1 w0
  have b : -1099511627776 * w ≤ x * w := Int.mul_le_mul_of_nonneg_right h0 w0
  omega
end Go.Proofs.Ytkhkmeadaljhoaa.WMath
