/- The call of QuantTells answers true for every list of numbers and every precision: the factors, or what is wrong, are as the document says. No condition beyond what a Go value can be. -/
import Derived.Test.YthbefpilfceooaaSizedName
import Derived.Test.YthbefpilfceooaaBQuantTells
namespace Go.Proofs.Ythbefpilfceooaa.Pure
open Go.RowKit Go.Proofs.Ythbefpilfceooaa.PQuantTells Go.Proofs.YthbefpilfceooaaW.PrintWords Go.Proofs.YthbefpilfceooaaW.PrintLast Go.Proofs.Ythbefpilfceooaa.QMath Go.Proofs.Ythbefpilfceooaa.BQuantTells
namespace TellsAid

theorem near_loop (l : List Int) (hl : l.length ≤ 9223372036854775806) (d : Nat) : ∀ j : Nat, l.length - j = d → j ≤ l.length →
    ((∀ x ∈ l.drop j, -1099511627776 ≤ x ∧ x ≤ 1099511627776) ∧ Ev (fun k => serinetteref07_Near.l0 k l (j : Int)) true) ∨ Ev (fun k => serinetteref07_Near.l0 k l (j : Int)) false := by
  induction d with
  | zero =>
    intro j hd hj
    obtain rfl : j = l.length := by omega
    refine .inl ⟨by simp, Ev.step (f := fun _ => some true) (fun k => ?_) (Ev.now _)⟩
    simp only [serinetteref07_Near.l0]; rw [if_neg (by omega)]
  | succ d ih =>
    intro j hd hj
    have hlt : j < l.length := by omega
    by_cases h1 : l[j] < -1099511627776
    · refine .inr (Ev.step (f := fun _ => some false) (fun k => ?_) (Ev.now _))
      simp only [serinetteref07_Near.l0]; rw [if_pos (by omega), if_pos (by omega), rd_at l j hlt, if_pos h1]
    · by_cases h2 : l[j] > 1099511627776
      · refine .inr (Ev.step (f := fun _ => some false) (fun k => ?_) (Ev.now _))
        simp only [serinetteref07_Near.l0]; rw [if_pos (by omega), if_pos (by omega), rd_at l j hlt, if_neg h1, if_pos h2]
      · have st : ∀ k, serinetteref07_Near.l0 (k + 1) l (j : Int) = serinetteref07_Near.l0 k l ((j + 1 : Nat) : Int) := fun k => by
          simp only [serinetteref07_Near.l0]; rw [if_pos (by omega), if_pos (by omega), rd_at l j hlt, if_neg h1, if_neg h2, wrap_id (n := (j : Int) + 1) (by omega) (by omega)]; rfl
        rcases ih (j + 1) (by omega) (by omega) with ⟨h3, h4⟩ | h4
        · refine .inl ⟨?_, Ev.step st h4⟩
          rw [List.drop_eq_getElem_cons hlt]
          intro x hx
          rcases List.mem_cons.1 hx with rfl | hx
          · omega
          · exact h3 x hx
        · exact .inr (Ev.step st h4)
theorem near_is (l : List Int) (hl : l.length ≤ 9223372036854775806) : (NearL l ∧ Ev (fun k => serinetteref07_Near.f k l) true) ∨ Ev (fun k => serinetteref07_Near.f k l) false := by
  have := near_loop l hl l.length 0 (by omega) (by omega)
  simpa [serinetteref07_Near.f, NearL] using this

theorem power_loop (n : Int) (hn : n ≤ 15) (d : Nat) : ∀ j : Nat, n - j = d → Ev (fun k => serinetteref06_Power.l0 k n (2 ^ j) (j : Int)) (2 ^ n.toNat) := by
  induction d with
  | zero =>
    intro j hd
    have e : n.toNat = j := by omega
    rw [e]
    refine Ev.step (f := fun _ => some _) (fun k => ?_) (Ev.now _)
    simp only [serinetteref06_Power.l0]; rw [if_neg (by omega)]
  | succ d ih =>
    intro j hd
    have hp := pow_le j (by omega)
    refine Ev.step (fun k => ?_) (ih (j + 1) (by omega))
    simp only [serinetteref06_Power.l0]; rw [if_pos (by omega), wrap_id (n := 2 * 2 ^ j) (by omega) (by omega), wrap_id (n := (j : Int) + 1) (by omega) (by omega), Int.pow_succ, Int.mul_comm]; rfl
theorem power_is (n : Int) (h0 : 0 ≤ n) (hn : n ≤ 15) : Ev (fun k => serinetteref06_Power.f k n) (2 ^ n.toNat) :=
  power_loop n hn n.toNat 0 (by omega)
theorem down_is (w : Int) (h0 : -9223372036854775807 ≤ w) (h1 : w ≤ 9223372036854775807) : serinetteref08_Down.f w 1048576 = some (w / 1048576) := by
  unfold serinetteref08_Down.f
  rw [if_neg (by omega)]
  rcases Int.lt_or_le w 0 with hw | hw
  · have e1 : Int.tdiv w 1048576 = -((-w) / 1048576) := by
      rw [show w = -(-w) by omega, Int.neg_tdiv, Int.tdiv_eq_ediv_of_nonneg (by omega)]; simp
    have e2 : Int.tmod w 1048576 = -((-w) % 1048576) := by
      rw [show w = -(-w) by omega, Int.neg_tmod, Int.tmod_eq_emod_of_nonneg (by omega)]; simp
    rw [e1, e2]
    split
    · rw [wrap_id (n := -(-w / 1048576)) (by omega) (by omega), wrap_id (by omega) (by omega)]; congr 1; omega
    · rw [wrap_id (n := -(-w / 1048576)) (by omega) (by omega)]; congr 1; omega
  · rw [Int.tdiv_eq_ediv_of_nonneg hw, Int.tmod_eq_emod_of_nonneg hw, if_neg (by omega), wrap_id (by omega) (by omega)]

theorem ref_top (l : List Int) (p : Int) (r) (hl : l.length ≤ 40) (hn : NearL l) (hk : Ev (fun k => (serinetteref06_Power.f k (wrap64 (p - 1))).bind fun t135 => (serinetteref11_Quantise.l1 k l p (far l 0) t135 (-1) 0)) r) (d : Nat) : ∀ (j : Nat) (t : Int), l.length - j = d → j ≤ l.length → 0 ≤ t → far (l.drop j) t = far l 0 →
    Ev (fun k => serinetteref11_Quantise.l0 k l p t (j : Int)) r := by
  induction d with
  | zero =>
    intro j t hd hj ht hf
    obtain rfl : j = l.length := by omega
    have e : t = far l 0 := by simpa [far] using hf
    subst e
    exact Ev.step (fun k => by simp only [serinetteref11_Quantise.l0]; rw [if_neg (by omega)]) hk
  | succ d ih =>
    intro j t hd hj ht hf
    have hlt : j < l.length := by omega
    have hx := hn _ (List.getElem_mem hlt)
    rw [List.drop_eq_getElem_cons hlt] at hf; simp only [far] at hf
    have hw : wrap64 (-l[j]) = -l[j] := wrap_id (by omega) (by omega)
    have hm : 0 ≤ mx (mx t l[j]) (-l[j]) := by unfold mx; split <;> split at * <;> omega
    have := ih (j + 1) (mx (mx t l[j]) (-l[j])) (by omega) (by omega) hm hf
    refine Ev.step (fun k => ?_) this
    simp only [serinetteref11_Quantise.l0]
    rw [if_pos (by omega), if_pos (by omega), rd_at l j hlt, hw, wrap_id (n := (j : Int) + 1) (by omega) (by omega)]
    by_cases h1 : l[j] > t
    · rw [if_pos h1, if_neg (by omega)]
      have : mx (mx t l[j]) (-l[j]) = l[j] := by unfold mx; (repeat' split) <;> omega
      rw [this]; rfl
    · rw [if_neg h1]
      by_cases h2 : -l[j] > t
      · rw [if_pos h2]
        have : mx (mx t l[j]) (-l[j]) = -l[j] := by unfold mx; (repeat' split) <;> omega
        rw [this]; rfl
      · rw [if_neg h2]
        have : mx (mx t l[j]) (-l[j]) = t := by unfold mx; (repeat' split) <;> omega
        rw [this]; rfl
theorem ref_shift (l : List Int) (p top half : Int) (r) (h0 : 0 ≤ top) (h1 : top ≤ 1099511627776) (hh : 1 ≤ half) (hh' : half ≤ 16384)
    (hk : Ev (fun k => if sh top (half * 1048576) 16 < 0 then (serinetteref11_Quantise.j3 k l p half (sh top (half * 1048576) 16) true) else (serinetteref11_Quantise.j3 k l p half (sh top (half * 1048576) 16) (top == 0))) r) (d : Nat) : ∀ j : Nat, j + d = 16 →
    Ev (fun k => serinetteref11_Quantise.l1 k l p top half (sh top (half * 1048576) j) (j : Int)) r := by
  induction d with
  | zero =>
    intro j hd
    obtain rfl : j = 16 := by omega
    exact Ev.step (fun k => by simp only [serinetteref11_Quantise.l1]; rw [if_neg (by omega)]) hk
  | succ d ih =>
    intro j hd
    have hp := pow_le j (by omega)
    have a : top * 2 ^ j ≤ top * 32768 := Int.mul_le_mul_of_nonneg_left hp.2 h0
    have b : 0 ≤ top * 2 ^ j := Int.mul_nonneg h0 (by omega)
    have := ih (j + 1) (by omega)
    have hpw := power_is (j : Int) (by omega) (by omega)
    rw [Int.toNat_natCast] at hpw
    refine Ev.step (fun k => by simp only [serinetteref11_Quantise.l1]; rw [if_pos (by omega)]) (Ev.bind hpw ?_)
    rw [wrap_id (n := top * 2 ^ j) (by omega) (by omega), wrap_id (n := half * 1048576) (by omega) (by omega), wrap_id (n := (j : Int) + 1) (by omega) (by omega)]
    by_cases hc : top * 2 ^ j < half * 1048576
    · have e : sh top (half * 1048576) (j + 1) = j := by simp only [sh]; rw [if_pos hc]
      rw [e] at this
      exact Ev.congr (fun k => by rw [if_pos hc]; rfl) this
    · have e : sh top (half * 1048576) (j + 1) = sh top (half * 1048576) j := by simp only [sh]; rw [if_neg hc]
      rw [e] at this
      exact Ev.congr (fun k => by rw [if_neg hc]; rfl) this
theorem ref_fill (l : List Int) (half s p : Int) (hl : l.length ≤ 32) (hs0 : 0 ≤ s) (hs1 : s ≤ 15) (hh : 2 ≤ half) (hh' : half ≤ 16384)
    (hx : ∀ x ∈ l, -17179869184 < x * 2 ^ s.toNat ∧ x * 2 ^ s.toNat < 17179869184) (d : Nat) : ∀ (j : Nat) (c : Int) (out : List Int), l.length - j = d → j ≤ l.length → out.length = j → -(17179869184 * (j + 1)) ≤ c → c ≤ 17179869184 * (j + 1) →
    Ev (fun k => serinetteref11_Quantise.l2 k l half s c (j : Int) s p out) (s, p, out ++ qs half (2 ^ s.toNat) c (l.drop j), 0) := by
  induction d with
  | zero =>
    intro j c out hd hj ho hc0 hc1
    obtain rfl : j = l.length := by omega
    refine Ev.step (f := fun _ => some (s, p, out, 0)) (fun k => ?_) (by simpa [qs] using Ev.now _)
    simp only [serinetteref11_Quantise.l2]; rw [if_neg (by omega)]
  | succ d ih =>
    intro j c out hd hj ho hc0 hc1
    have hlt : j < l.length := by omega
    have hm := hx _ (List.getElem_mem hlt)
    rw [List.drop_eq_getElem_cons hlt]; simp only [qs]
    have hcb := carry_bd (half := half) (w := c + l[j] * 2 ^ s.toNat) (B := 17179869184 * (j + 2)) hh hh' (by omega) (by omega) (by omega)
    have hob := one_bd (half := half) (w := c + l[j] * 2 ^ s.toNat) (by omega)
    have := ih (j + 1) (c + l[j] * 2 ^ s.toNat - one half (c + l[j] * 2 ^ s.toNat) * 1048576) (out ++ [one half (c + l[j] * 2 ^ s.toNat)]) (by omega) (by omega) (by simp [ho]) (by push_cast; omega) (by push_cast; omega)
    rw [List.append_assoc] at this
    have hdn := down_is (c + l[j] * 2 ^ s.toNat + 524288) (by omega) (by omega)
    refine Ev.step (fun k => by simp only [serinetteref11_Quantise.l2]; rw [if_pos (by omega), if_pos (by omega)]) (Ev.bind (power_is s hs0 hs1) ?_)
    rw [rd_at l j hlt, wrap_id (n := l[j] * 2 ^ s.toNat) (by omega) (by omega), wrap_id (n := c + l[j] * 2 ^ s.toNat) (by omega) (by omega), wrap_id (n := c + l[j] * 2 ^ s.toNat + 524288) (by omega) (by omega), wrap_id (n := -half) (by omega) (by omega), wrap_id (n := half - 1) (by omega) (by omega), wrap_id (n := (j : Int) + 1) (by omega) (by omega), hdn]
    simp only [Option.bind_some]
    refine Ev.congr (fun k => ?_) this
    generalize hW : c + l[j] * 2 ^ s.toNat = W at *
    by_cases h1 : (W + 524288) / 1048576 > half - 1
    · have e : one half W = half - 1 := by unfold one mx mn; split <;> split at * <;> omega
      rw [if_pos h1, if_neg (by omega), if_pos (by omega), e, wrap_id (n := (half - 1) * 1048576) (by omega) (by omega), wrap_id (n := W - (half - 1) * 1048576) (by omega) (by omega)]; rfl
    · rw [if_neg h1]
      by_cases h2 : (W + 524288) / 1048576 < -half
      · have e : one half W = -half := by unfold one mx mn; split <;> split at * <;> omega
        rw [if_pos h2, if_pos (by omega), e, wrap_id (n := -half * 1048576) (by omega) (by omega), wrap_id (n := W - -half * 1048576) (by omega) (by omega)]; rfl
      · have e : one half W = (W + 524288) / 1048576 := by unfold one mx mn; split <;> split at * <;> omega
        rw [if_neg h2, if_pos (by omega), e, wrap_id (n := (W + 524288) / 1048576 * 1048576) (by omega) (by omega), wrap_id (n := W - (W + 524288) / 1048576 * 1048576) (by omega) (by omega)]; rfl
theorem ref_is (l : List Int) (p : Int) (hn : NearL l) : Ev (fun k => serinetteref11_Quantise.f k l p) (model l p) := by
  by_cases h : l.length = 0 ∨ 32 < l.length ∨ p < 2 ∨ 15 < p
  · unfold model; rw [if_pos h]
    have hj : Ev (fun k => serinetteref11_Quantise.j0 k l p true) (0, 0, [], 1) := Ev.step (f := fun _ => some (0, 0, [], 1)) (fun k => by simp only [serinetteref11_Quantise.j0]; rw [if_pos trivial]) (Ev.now _)
    refine Ev.congr (fun k => ?_) hj
    unfold serinetteref11_Quantise.f
    by_cases h1 : (l.length : Int) < 1
    · rw [if_pos h1]
    · rw [if_neg h1]
      by_cases h2 : (l.length : Int) > 32
      · rw [if_pos h2]
      · rw [if_neg h2]
        by_cases h3 : p < 2
        · rw [if_pos h3]
        · rw [if_neg h3, show decide (p > 15) = true by simp; omega]
  · have hst : ∀ k, serinetteref11_Quantise.f k l p = serinetteref11_Quantise.j0 k l p false := fun k => by
      unfold serinetteref11_Quantise.f
      rw [if_neg (by omega), if_neg (by omega), if_neg (by omega), show decide (p > 15) = false by simp; omega]
    have hb := half_bd (p := p) (by omega) (by omega)
    have ft := far_ge l 0
    have fl := far_le l 0 1099511627776 (by omega) hn
    have hsl := sh_lt (far l 0) (2 ^ (p - 1).toNat * 1048576) 16
    refine Ev.congr hst (Ev.step (fun k => by simp only [serinetteref11_Quantise.j0]; rw [if_neg (by decide)]; rfl) (ref_top l p _ (by omega) hn ?_ l.length 0 0 (by omega) (by omega) (by omega) (by simp)))
    rw [wrap_id (n := p - 1) (by omega) (by omega)]
    refine Ev.bind (power_is (p - 1) (by omega) (by omega)) (ref_shift l p (far l 0) (2 ^ (p - 1).toNat) _ ft.1 fl (by omega) hb.2 ?_ 16 0 (by omega))
    unfold model; rw [if_neg h]
    have hbad : ∀ t, Ev (fun k => serinetteref11_Quantise.j3 k l p (2 ^ (p - 1).toNat) t true) (0, 0, [], 6) := fun t => Ev.step (f := fun _ => some (0, 0, [], 6)) (fun k => by simp only [serinetteref11_Quantise.j3]; rw [if_pos trivial]) (Ev.now _)
    by_cases h0 : sh (far l 0) (2 ^ (p - 1).toNat * 1048576) 16 < 0
    · simp only [if_pos h0]; rw [if_pos (.inl h0)]; exact hbad _
    · simp only [if_neg h0]
      by_cases h1 : far l 0 = 0
      · rw [if_pos (.inr h1), h1] at *; exact hbad _
      · rw [if_neg (by omega), show (far l 0 == 0) = false by simpa using h1]
        have hfit := sh_fits (far l 0) (2 ^ (p - 1).toNat * 1048576) 16 (by omega)
        have hpw := pow_le (sh (far l 0) (2 ^ (p - 1).toNat * 1048576) 16).toNat (by omega)
        have := ref_fill l (2 ^ (p - 1).toNat) (sh (far l 0) (2 ^ (p - 1).toNat * 1048576) 16) p (by omega) (by omega) (by omega) hb.1 hb.2 (fun x hx => by
          have hx' := ft.2 x hx
          have := mul_bd hpw.1 hx'.2 hx'.1 hfit
          omega) l.length 0 0 [] (by omega) (by omega) rfl (by omega) (by omega)
        exact Ev.step (fun k => by simp only [serinetteref11_Quantise.j3]; rw [if_neg (by decide)]) (by simpa using this)
theorem same_loop (l : List Int) (hl : l.length ≤ 100) (s p : Int) (d : Nat) : ∀ j : Nat, l.length - j = d → j ≤ l.length → Ev (fun k => serinetteref11_Same.l0 k (j : Int) s p l s p l) true := by
  induction d with
  | zero =>
    intro j hd hj
    refine Ev.step (f := fun _ => some true) (fun k => ?_) (Ev.now _)
    simp only [serinetteref11_Same.l0]; rw [if_neg (by omega)]
  | succ d ih =>
    intro j hd hj
    refine Ev.step (fun k => ?_) (ih (j + 1) (by omega) (by omega))
    simp only [serinetteref11_Same.l0]
    rw [if_pos (by omega), if_pos (by omega), if_pos (by omega), if_pos trivial, wrap_id (n := (j : Int) + 1) (by omega) (by omega)]; rfl
theorem same_is (l : List Int) (hl : l.length ≤ 100) (s p : Int) : Ev (fun k => serinetteref11_Same.f k s p l s p l) true := by
  refine Ev.congr (f := fun k => serinetteref11_Same.j0 k false s p l s p l) (fun k => ?_) ?_
  · unfold serinetteref11_Same.f; rw [if_pos rfl, if_pos rfl]; simp
  · exact Ev.step (fun k => by simp only [serinetteref11_Same.j0]; rw [if_neg (by decide)]; rfl) (same_loop l hl s p l.length 0 (by omega) (by omega))
end TellsAid

/-- YOURS -/
theorem QuantTells : serinettelaw11_QuantTells.Pure := by
  intro l0 a1 hlen hl8 hw0 hw
  have h : Ev (fun k => serinettelaw11_QuantTells.f k l0 a1) true := by
    refine Ev.bind awake_is ?_
    have bad : Ev (fun k => serinettelaw11_QuantTells.j0 k l0 a1 true true) true := Ev.step (f := fun _ => some true) (fun k => by simp only [serinettelaw11_QuantTells.j0]; rw [if_pos trivial]) (Ev.now _)
    rcases TellsAid.near_is l0 (by omega) with ⟨hn, hN⟩ | hN
    · refine Ev.bind hN ?_
      by_cases h0 : (l0.length : Int) > 40
      · exact Ev.congr (fun k => by rw [if_pos h0]) bad
      · refine Ev.congr (fun k => by rw [if_neg h0]) (Ev.step (f := fun k => (quant_Quantise.f k l0 a1).bind fun bt159 => ((serinetteref11_Quantise.f k l0 a1).bind fun bt166 => (if true = true then (if bt159.2.2.2 = bt166.2.2.2 then ((serinetteref11_Same.f k bt159.1 bt159.2.1 bt159.2.2.1 bt166.1 bt166.2.1 bt166.2.2.1).bind fun t173 => (some t173)) else (some false)) else (some false)))) (fun k => by simp only [serinettelaw11_QuantTells.j0]; rw [if_neg (by decide)]) ?_)
        refine Ev.bind (quantise_is l0 a1 hn) (Ev.bind (TellsAid.ref_is l0 a1 hn) ?_)
        have hlen : (model l0 a1).2.2.1.length ≤ 100 := by
          unfold model; split
          · simp
          · split
            · simp
            · simp only [qs_length]; omega
        refine Ev.congr (fun k => by rw [if_pos rfl, if_pos rfl]) (Ev.bind (TellsAid.same_is _ hlen _ _) (Ev.now _))
    · refine Ev.bind hN ?_
      by_cases h0 : (l0.length : Int) > 40
      · exact Ev.congr (fun k => by rw [if_pos h0]) bad
      · exact Ev.congr (fun k => by rw [if_neg h0]; rfl) bad
  exact h.rounds

end Go.Proofs.Ythbefpilfceooaa.Pure
