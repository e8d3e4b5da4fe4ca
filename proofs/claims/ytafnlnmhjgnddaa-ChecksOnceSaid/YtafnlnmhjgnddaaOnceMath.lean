/- One byte has any check of 8 bits just once, two bytes one of 16, whatever is behind them. Conditions: bytes from 0 to 255. -/
import Derived.Test.YtafnlnmhjgnddaaCkMath
namespace Go.Proofs.Ytafnlnmhjgnddaa.OnceMath
open Go.RowKit Go.Proofs.Ytafnlnmhjgnddaa.Ck Go.Proofs.Ytafnlnmhjgnddaa.CkMath
theorem first8 (a b : Nat) (ha : a < 256) (hb : b < 256) (h : run 8 7 0 (bits8 a) = run 8 7 0 (bits8 b)) : a = b := by
  have l := run_lin 8 7 (bits8 a) (bits8 b) 0 0 rfl
  rw [h, Nat.xor_self, Nat.xor_self, ← bits8_xor, enter8 0 _ (by omega) (Nat.xor_lt_two_pow (n := 8) ha hb)] at l
  exact xor_zero_eq l.symm
theorem first16 (a b : Nat) (ha : a < 65536) (hb : b < 65536) (h : run 16 32773 0 (bits16 a) = run 16 32773 0 (bits16 b)) : a = b := by
  have l := run_lin 16 32773 (bits16 a) (bits16 b) 0 0 rfl
  rw [h, Nat.xor_self, Nat.xor_self, ← bits16_xor, enter16 0 _ (by omega) (Nat.xor_lt_two_pow (n := 16) ha hb)] at l
  exact xor_zero_eq l.symm
theorem once8 (a b : Int) (m : List Int) (ha : 0 ≤ a ∧ a < 256) (hb : 0 ≤ b ∧ b < 256) (hm : ∀ x ∈ m, 0 ≤ x ∧ x < 256) : (e8 0 (([] ++ [a]) ++ m) == e8 0 (([] ++ [b]) ++ m)) = (a == b) := by
  by_cases h : a = b
  · subst h; simp
  · rw [beq_eq_false_iff_ne.2 h, beq_eq_false_iff_ne]
    intro e
    have ex : ∀ c : Int, 0 ≤ c ∧ c < 256 → ∀ x ∈ ([] ++ [c]) ++ m, 0 ≤ x ∧ x < 256 := fun c hc x hx => by
      simp only [List.nil_append, List.mem_append, List.mem_singleton] at hx
      rcases hx with rfl | hx
      · exact hc
      · exact hm x hx
    have e1 := e8_is _ 0 (by omega) (ex a ha)
    have e2 := e8_is _ 0 (by omega) (ex b hb)
    have e' : run 8 7 0 (bitsL (([] ++ [a]) ++ m)) = run 8 7 0 (bitsL (([] ++ [b]) ++ m)) := by
      have := e1.symm.trans (e.trans e2)
      omega
    rw [List.nil_append, List.nil_append, bitsL_append, bitsL_append, run_append, run_append, inj8 _ _ _ (lt8 _ _ (by omega)) (lt8 _ _ (by omega))] at e'
    have f := first8 a.toNat b.toNat (by omega) (by omega) (by simpa [bitsL] using e')
    omega
theorem bits16_of (a b : Nat) (hb : b < 256) : bits16 (256 * a + b) = bits8 a ++ bits8 b := by
  unfold bits16
  rw [show (256 * a + b) / 256 = a by omega, show (256 * a + b) % 256 = b by omega]
theorem once16 (a a' b b' : Int) (m : List Int) (ha : 0 ≤ a ∧ a < 256) (ha' : 0 ≤ a' ∧ a' < 256) (hb : 0 ≤ b ∧ b < 256) (hb' : 0 ≤ b' ∧ b' < 256) (hm : ∀ x ∈ m, 0 ≤ x ∧ x < 256) :
    (e16 0 (([] ++ [a, a']) ++ m) == e16 0 (([] ++ [b, b']) ++ m)) = (a == b && a' == b') := by
  by_cases h : a = b ∧ a' = b'
  · obtain ⟨rfl, rfl⟩ := h; simp
  · have hf : (a == b && a' == b') = false := by
      rw [Bool.and_eq_false_iff, beq_eq_false_iff_ne, beq_eq_false_iff_ne]
      by_cases h1 : a = b
      · exact .inr (fun h2 => h ⟨h1, h2⟩)
      · exact .inl h1
    rw [hf, beq_eq_false_iff_ne]
    intro e
    have ex : ∀ c c' : Int, 0 ≤ c ∧ c < 256 → 0 ≤ c' ∧ c' < 256 → ∀ x ∈ ([] ++ [c, c']) ++ m, 0 ≤ x ∧ x < 256 := fun c c' hc hc' x hx => by
      simp only [List.nil_append, List.mem_append, List.mem_cons, List.not_mem_nil, or_false] at hx
      rcases hx with (rfl | rfl) | hx
      · exact hc
      · exact hc'
      · exact hm x hx
    have e1 := e16_is _ 0 (by omega) (ex a a' ha ha')
    have e2 := e16_is _ 0 (by omega) (ex b b' hb hb')
    have e' : run 16 32773 0 (bitsL (([] ++ [a, a']) ++ m)) = run 16 32773 0 (bitsL (([] ++ [b, b']) ++ m)) := by
      have := e1.symm.trans (e.trans e2)
      omega
    rw [List.nil_append, List.nil_append, bitsL_append, bitsL_append, run_append, run_append, inj16 _ _ _ (lt16 _ _ (by omega)) (lt16 _ _ (by omega))] at e'
    have q : ∀ c c' : Int, bitsL [c, c'] = bits8 c.toNat ++ bits8 c'.toNat := fun c c' => by simp [bitsL]
    rw [q, q, ← bits16_of _ _ (by omega), ← bits16_of _ _ (by omega)] at e'
    have f := first16 _ _ (by omega) (by omega) e'
    exact h ⟨by omega, by omega⟩
end Go.Proofs.Ytafnlnmhjgnddaa.OnceMath
