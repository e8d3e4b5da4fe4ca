/- The call of QuantTwice answers true for every list of numbers and every precision: twice as far factors have a shift that is less by one. No condition beyond what a Go value can be. -/
import Derived.Test.YthbefpilfceooaaSizedName
import Derived.Test.YthbefpilfceooaaBQuantTwice
namespace Go.Proofs.Ythbefpilfceooaa.Pure
open Go.RowKit Go.Proofs.Ythbefpilfceooaa.PQuantTwice Go.Proofs.YthbefpilfceooaaW.PrintWords Go.Proofs.YthbefpilfceooaaW.PrintLast Go.Proofs.Ythbefpilfceooaa.QMath Go.Proofs.Ythbefpilfceooaa.BQuantTwice
namespace TwiceAid

theorem ints_same (l : List Int) (hl : l.length ≤ 100) (d : Nat) : ∀ j : Nat, l.length - j = d → j ≤ l.length → Ev (fun k => serinetteref01_Ints.l0 k l l (j : Int)) true := by
  induction d with
  | zero =>
    intro j hd hj
    refine Ev.step (f := fun _ => some true) (fun k => ?_) (Ev.now _)
    simp only [serinetteref01_Ints.l0]; rw [if_neg (by omega)]
  | succ d ih =>
    intro j hd hj
    refine Ev.step (fun k => ?_) (ih (j + 1) (by omega) (by omega))
    simp only [serinetteref01_Ints.l0]
    rw [if_pos (by omega), if_pos (by omega), if_pos (by omega), if_pos trivial, wrap_id (n := (j : Int) + 1) (by omega) (by omega)]; rfl
theorem ints_is (l : List Int) (hl : l.length ≤ 100) : Ev (fun k => serinetteref01_Ints.f k l l) true :=
  Ev.congr (fun k => by unfold serinetteref01_Ints.f; rw [if_pos rfl]; rfl) (ints_same l hl l.length 0 (by omega) (by omega))
theorem pow_two (n : Nat) : (2 : Int) ^ (n + 1) = 2 * 2 ^ n := by rw [Int.pow_succ, Int.mul_comm]
theorem twice_pow (t : Int) (n : Nat) : 2 * t * 2 ^ n = t * 2 ^ (n + 1) := by rw [pow_two, Int.mul_comm 2 t, Int.mul_assoc]
theorem qs_twice (half : Int) (n : Nat) : ∀ (l : List Int) (c : Int), qs half (2 ^ n) c (l.map (2 * ·)) = qs half (2 ^ (n + 1)) c l
  | [], c => rfl
  | x :: l, c => by
    simp only [List.map_cons, qs]
    rw [twice_pow, qs_twice half n l]
/-- Twice the top fits by a shift that is less by one. -/
theorem sh_twice (top H : Int) : ∀ n, sh (2 * top) H n = if sh top H (n + 1) ≤ 0 then -1 else sh top H (n + 1) - 1
  | 0 => by simp only [sh]; split <;> simp <;> omega
  | n + 1 => by
    have ih := sh_twice top H n
    have a : sh (2 * top) H (n + 1) = if top * 2 ^ (n + 1) < H then (n : Int) else sh (2 * top) H n := by simp only [sh]; rw [twice_pow]
    have b : sh top H (n + 1 + 1) = if top * 2 ^ (n + 1) < H then ((n + 1 : Nat) : Int) else sh top H (n + 1) := by simp only [sh]
    rw [a, b]
    split
    · rw [if_neg (by omega)]; omega
    · exact ih
theorem sh_neg (top H : Int) (h : 0 ≤ top) : ∀ n, sh top H n < 0 → sh (2 * top) H n < 0
  | 0, _ => by simp [sh]
  | n + 1, h0 => by
    simp only [sh] at h0 ⊢
    split at h0
    · omega
    · rename_i hc
      have : ¬ 2 * top * 2 ^ n < H := by
        have e : 2 * top * 2 ^ n = 2 * (top * 2 ^ n) := by rw [Int.mul_assoc]
        have : 0 ≤ top * 2 ^ n := Int.mul_nonneg h (by have := Int.pow_pos (n := 2) (m := n) (by omega); omega)
        omega
      rw [if_neg this]
      exact sh_neg top H h n h0
/-- What the two tell of each other. -/
theorem models (l : List Int) (p : Int) (h : l.length ≤ 32) (hp : 2 ≤ p ∧ p ≤ 15) :
    ((model l p).2.2.2 ≠ 0 ∧ (model (l.map (2 * ·)) p).2.2.2 = (model l p).2.2.2) ∨
    ((model l p).2.2.2 = 0 ∧ (model l p).1 = 0 ∧ (model (l.map (2 * ·)) p).2.2.2 = 6) ∨
    ((model l p).2.2.2 = 0 ∧ 1 ≤ (model l p).1 ∧ (model (l.map (2 * ·)) p).2.2.2 = 0 ∧ (((model (l.map (2 * ·)) p).1 = 15 ∧ (model l p).1 = 15) ∨
      ((model (l.map (2 * ·)) p).1 ≠ 15 ∧ (model (l.map (2 * ·)) p).1 = (model l p).1 - 1 ∧ (model l p).1 ≤ 15 ∧ (model (l.map (2 * ·)) p).2.2.1 = (model l p).2.2.1))) := by
  have hlen : (l.map (2 * ·)).length = l.length := by simp
  by_cases h0 : l.length = 0
  · left
    have : l = [] := List.eq_nil_of_length_eq_zero h0
    subst this; simp [model]
  · have hA : ¬ (l.length = 0 ∨ 32 < l.length ∨ p < 2 ∨ 15 < p) := by omega
    have hB : ¬ ((l.map (2 * ·)).length = 0 ∨ 32 < (l.map (2 * ·)).length ∨ p < 2 ∨ 15 < p) := by omega
    have hft : far (l.map (2 * ·)) 0 = 2 * far l 0 := by have := far_twice l 0; simpa using this
    have hf0 := (far_ge l 0).1
    unfold model
    rw [if_neg hA, if_neg hB, hft]
    generalize far l 0 = top at *
    generalize hH : (2 : Int) ^ (p - 1).toNat * 1048576 = H at *
    have hl := sh_lt top H 16
    by_cases hbad : sh top H 16 < 0 ∨ top = 0
    · left
      rw [if_pos hbad, if_pos (by
        rcases hbad with hb | hb
        · exact .inl (sh_neg top H hf0 16 hb)
        · exact .inr (by omega))]
      simp
    · right
      rw [if_neg hbad]
      have ht := sh_twice top H 16
      have e17 : sh top H (16 + 1) = if top * 2 ^ 16 < H then 16 else sh top H 16 := by simp only [sh]; rfl
      by_cases hbig : top * 2 ^ 16 < H
      · -- then both fit by 15
        rw [if_pos hbig] at e17
        rw [e17] at ht
        simp at ht
        have h15 : sh top H 16 = 15 := by
          simp only [sh]; rw [if_pos (by simp only [Int.reducePow] at *; omega)]; rfl
        right
        rw [if_neg (by omega)]
        refine ⟨rfl, ?_, rfl, .inl ⟨ht, h15⟩⟩
        show 1 ≤ sh top H 16
        omega
      · rw [if_neg hbig] at e17
        rw [e17] at ht
        by_cases hz : sh top H 16 = 0
        · left
          rw [if_pos (by omega)] at ht
          rw [if_pos (by omega)]
          exact ⟨rfl, hz, rfl⟩
        · right
          rw [if_neg (by omega)] at ht
          rw [if_neg (by omega)]
          refine ⟨rfl, ?_, rfl, .inr ⟨?_, ht, ?_, ?_⟩⟩
          · show 1 ≤ sh top H 16; omega
          · show sh (2 * top) H 16 ≠ 15; omega
          · show sh top H 16 ≤ 15; omega
          · show qs _ (2 ^ (sh (2 * top) H 16).toNat) 0 (l.map (2 * ·)) = qs _ (2 ^ (sh top H 16).toNat) 0 l
            rw [ht, qs_twice, show (sh top H 16 - 1).toNat + 1 = (sh top H 16).toNat by omega]
theorem run (l : List Int) (p : Int) (h : l.length ≤ 32) (hp : 2 ≤ p ∧ p ≤ 15) (hl : ∀ x ∈ l, -549755813888 ≤ x ∧ x ≤ 549755813888) (d : Nat) : ∀ j : Nat, l.length - j = d → j ≤ l.length →
    Ev (fun k => serinettelaw11_QuantTwice.l0 k l true p ((l.take j).map (2 * ·)) (j : Int)) true := by
  induction d with
  | zero =>
    intro j hd hj
    obtain rfl : j = l.length := by omega
    rw [List.take_length]
    have hA := quantise_is l p (fun x hx => by have := hl x hx; omega)
    have hB := quantise_is (l.map (2 * ·)) p (fun x hx => by
      obtain ⟨y, hy, rfl⟩ := List.mem_map.1 hx
      have := hl y hy; omega)
    refine Ev.step (fun k => by simp only [serinettelaw11_QuantTwice.l0]; rw [if_neg (by omega)]) (Ev.bind hA (Ev.bind hB ?_))
    have hM := models l p h hp
    have hlen : (model l p).2.2.1.length ≤ 100 := by
      unfold model; split
      · simp
      · split
        · simp
        · simp only [qs_length]; omega
    generalize model l p = m at *
    generalize model (l.map (2 * ·)) p = m' at *
    rcases hM with ⟨h1, h2⟩ | ⟨h1, h2, h3⟩ | ⟨h1, h2, h3, h4⟩
    · refine Ev.congr (f := fun _ => some true) (fun k => ?_) (Ev.now _)
      rw [if_neg h1, if_pos trivial, h2]; simp
    · refine Ev.congr (f := fun _ => some true) (fun k => ?_) (Ev.now _)
      rw [if_pos h1, if_pos h2, if_pos trivial, h3]; simp
    · rcases h4 with ⟨h4, h5⟩ | ⟨h4, h5, h6, h7⟩
      · refine Ev.congr (f := fun _ => some true) (fun k => ?_) (Ev.now _)
        rw [if_pos h1, if_neg (by omega), if_pos h3, if_pos trivial, if_pos h4, if_pos h5]
      · refine Ev.congr (f := fun k => (serinetteref01_Ints.f k m'.2.2.1 m.2.2.1).bind fun t148 => some t148) (fun k => ?_) ?_
        · rw [if_pos h1, if_neg (by omega), if_pos h3, if_pos trivial, if_neg h4, if_pos (by rw [wrap_id (by omega) (by omega)]; exact h5)]
        · rw [h7]
          exact Ev.bind (ints_is _ hlen) (Ev.now _)
  | succ d ih =>
    intro j hd hj
    have hlt : j < l.length := by omega
    have hx := hl _ (List.getElem_mem hlt)
    refine Ev.step (fun k => ?_) (ih (j + 1) (by omega) (by omega))
    rw [List.take_succ_eq_append_getElem hlt, List.map_append]
    have hlen : ((l.take j).map (2 * ·)).length = j := by simp; omega
    simp only [serinettelaw11_QuantTwice.l0]
    rw [if_pos (by omega), if_pos (by omega), rd_at l j hlt, if_neg (by omega), if_neg (by omega), if_pos (by omega), wrap_id (n := 2 * l[j]) (by omega) (by omega), wrap_id (n := (j : Int) + 1) (by omega) (by omega)]; rfl
/-- Where one is too far the answer is what was found awake. -/
theorem far_off (l : List Int) (p : Int) (h : l.length ≤ 32) (d : Nat) : ∀ (j : Nat) (out : List Int), l.length - j = d → j ≤ l.length → out.length = j → (∃ i, ∃ h : i < l.length, j ≤ i ∧ ¬ (-549755813888 ≤ l[i] ∧ l[i] ≤ 549755813888)) →
    Ev (fun k => serinettelaw11_QuantTwice.l0 k l true p out (j : Int)) true := by
  induction d with
  | zero =>
    intro j out hd hj ho ⟨i, hi, hji, _⟩
    omega
  | succ d ih =>
    intro j out hd hj ho ⟨i, hi, hji, hbad⟩
    have hlt : j < l.length := by omega
    by_cases h1 : l[j] < -549755813888
    · refine Ev.step (f := fun _ => some true) (fun k => ?_) (Ev.now _)
      simp only [serinettelaw11_QuantTwice.l0]; rw [if_pos (by omega), if_pos (by omega), rd_at l j hlt, if_pos h1]
    · by_cases h2 : l[j] > 549755813888
      · refine Ev.step (f := fun _ => some true) (fun k => ?_) (Ev.now _)
        simp only [serinettelaw11_QuantTwice.l0]; rw [if_pos (by omega), if_pos (by omega), rd_at l j hlt, if_neg h1, if_pos h2]
      · have hne : j ≠ i := by rintro rfl; omega
        refine Ev.step (fun k => ?_) (ih (j + 1) (out ++ [wrap64 (2 * l[j])]) (by omega) (by omega) (by simp [ho]) ⟨i, hi, by omega, hbad⟩)
        simp only [serinettelaw11_QuantTwice.l0]
        rw [if_pos (by omega), if_pos (by omega), rd_at l j hlt, if_neg h1, if_neg h2, if_pos (by omega), wrap_id (n := (j : Int) + 1) (by omega) (by omega)]; rfl
end TwiceAid

/-- YOURS -/
theorem QuantTwice : serinettelaw11_QuantTwice.Pure := by
  intro l0 a1 _ _ _ hw
  have hb : 0 ≤ a1 ∧ a1 ≤ 255 := by
    have e1 : IntKind.u8.min = 0 := by decide
    have e2 : IntKind.u8.max = 255 := by decide
    simp [Lit.wf, e1, e2] at hw; omega
  have h : Ev (fun k => serinettelaw11_QuantTwice.f k l0 a1) true := by
    refine Ev.bind awake_is ?_
    by_cases h0 : (l0.length : Int) > 32
    · exact Ev.congr (fun k => by rw [if_pos h0]) (Ev.now _)
    · have ht0 := Int.tmod_nonneg 14 hb.1
      have ht1 := Int.tmod_lt_of_pos a1 (show (0 : Int) < 14 by omega)
      refine Ev.congr (f := fun k => serinettelaw11_QuantTwice.l0 k l0 true (2 + Int.tmod a1 14) [] 0) (fun k => by rw [if_neg h0, wrap_id (n := Int.tmod a1 14) (by omega) (by omega), wrap_id (n := 2 + Int.tmod a1 14) (by omega) (by omega)]) ?_
      by_cases hfar : ∀ x ∈ l0, -549755813888 ≤ x ∧ x ≤ 549755813888
      · exact TwiceAid.run l0 _ (by omega) (by omega) hfar l0.length 0 (by omega) (by omega)
      · refine TwiceAid.far_off l0 _ (by omega) l0.length 0 [] (by omega) (by omega) rfl ?_
        simp only [Classical.not_forall] at hfar
        obtain ⟨x, hx, hn⟩ := hfar
        obtain ⟨i, hi, rfl⟩ := List.getElem_of_mem hx
        exact ⟨i, hi, by omega, hn⟩
  exact h.rounds

end Go.Proofs.Ythbefpilfceooaa.Pure
