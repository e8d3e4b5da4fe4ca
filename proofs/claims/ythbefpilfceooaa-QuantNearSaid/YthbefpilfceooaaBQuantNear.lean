/- QuantNear: the printed functions of quantising tell what the plain law's model tells; from some number of rounds on. Conditions: each lemma names its own. -/
import Derived.Test.YthbefpilfceooaaGQuantNearx3
import Derived.Test.YthbefpilfceooaaQMath
namespace Go.Proofs.Ythbefpilfceooaa.BQuantNear
open Go.RowKit Go.Proofs.Ythbefpilfceooaa.GQuantNear Go.Proofs.YthbefpilfceooaaW.PrintWords Go.Proofs.YthbefpilfceooaaW.PrintLast Go.Proofs.Ythbefpilfceooaa.QMath

theorem furthest_loop (l : List Int) (hl : l.length ≤ 9223372036854775806) (hn : ∀ x ∈ l, -9223372036854775807 ≤ x ∧ x ≤ 9223372036854775807) (d : Nat) : ∀ (j : Nat) (t : Int), l.length - j = d → j ≤ l.length →
    Ev (fun k => quant_furthest.l0 k t l (l.length : Int) (j : Int)) (far (l.drop j) t) := by
  induction d with
  | zero =>
    intro j t hd hj
    obtain rfl : j = l.length := by omega
    refine Ev.step (f := fun _ => some t) (fun k => ?_) (by simpa [far] using Ev.now t)
    simp only [quant_furthest.l0]; rw [if_neg (by omega)]
  | succ d ih =>
    intro j t hd hj
    have hlt : j < l.length := by omega
    have hx := hn _ (List.getElem_mem hlt)
    rw [List.drop_eq_getElem_cons hlt]; simp only [far]
    refine Ev.step (fun k => ?_) (ih (j + 1) _ (by omega) (by omega))
    simp only [quant_furthest.l0]; rw [if_pos (by omega), if_pos (by omega), if_pos (by omega), rd_at l j hlt, wrap_id (n := -l[j]) (by omega) (by omega), wrap_id (n := (j : Int) + 1) (by omega) (by omega)]; rfl
theorem furthest_is (l : List Int) (hl : l.length ≤ 40) (hn : NearL l) : Ev (fun k => quant_furthest.f k l) (far l 0) := by
  have := furthest_loop l (by omega) (fun x hx => by have := hn x hx; omega) l.length 0 0 (by omega) (by omega)
  simpa [quant_furthest.f] using this
theorem furthest_any_loop (l : List Int) (hl : l.length ≤ 9223372036854775806) (d : Nat) : ∀ (j : Nat) (t : Int), l.length - j = d → j ≤ l.length →
    ∃ r, Ev (fun k => quant_furthest.l0 k t l (l.length : Int) (j : Int)) r := by
  induction d with
  | zero =>
    intro j t hd hj
    obtain rfl : j = l.length := by omega
    refine ⟨t, Ev.step (f := fun _ => some t) (fun k => ?_) (Ev.now t)⟩
    simp only [quant_furthest.l0]; rw [if_neg (by omega)]
  | succ d ih =>
    intro j t hd hj
    have hlt : j < l.length := by omega
    obtain ⟨r, hr⟩ := ih (j + 1) (mx (mx t (rd l j)) (wrap64 (-(rd l j)))) (by omega) (by omega)
    refine ⟨r, Ev.step (fun k => ?_) hr⟩
    simp only [quant_furthest.l0]; rw [if_pos (by omega), if_pos (by omega), if_pos (by omega), wrap_id (n := (j : Int) + 1) (by omega) (by omega)]; rfl
theorem furthest_any (l : List Int) (hl : l.length ≤ 40) : ∃ r, Ev (fun k => quant_furthest.f k l) r := by
  obtain ⟨r, h⟩ := furthest_any_loop l (by omega) l.length 0 0 (by omega) (by omega)
  exact ⟨r, by simpa [quant_furthest.f] using h⟩

theorem shift_loop (top half : Int) (h0 : 0 ≤ top) (h1 : top ≤ 1099511627776) (hh : 1 ≤ half) (hh' : half ≤ 16384) : ∀ n : Nat, n ≤ 16 → Ev (fun k => quant_shift.l0 k top half ((n : Int) - 1)) (sh top (half * 1048576) n)
  | 0, _ => by
    refine Ev.step (f := fun _ => some (-1)) (fun k => ?_) (Ev.now _)
    simp only [quant_shift.l0]; rw [if_neg (by omega)]; rfl
  | n + 1, hn => by
    have hp := pow_le n (by omega)
    have a : top * 2 ^ n ≤ top * 32768 := Int.mul_le_mul_of_nonneg_left hp.2 h0
    have b : 0 ≤ top * 2 ^ n := Int.mul_nonneg h0 (by omega)
    have e : ((n + 1 : Nat) : Int) - 1 = (n : Int) := by omega
    rw [e]
    have hs : shl .i64 top (n : Int) = top * 2 ^ n := by
      rw [shl_id (by omega) (by rw [Int.toNat_natCast]; omega) (by rw [Int.toNat_natCast]; omega), Int.toNat_natCast]
    by_cases hc : top * 2 ^ n < half * 1048576
    · have : sh top (half * 1048576) (n + 1) = n := by simp only [sh]; rw [if_pos hc]
      rw [this]
      refine Ev.step (f := fun _ => some (n : Int)) (fun k => ?_) (Ev.now _)
      simp only [quant_shift.l0]; rw [if_pos (by omega), if_pos (by omega), hs, wrap_id (n := half * 1048576) (by omega) (by omega), if_neg (by omega)]
    · have : sh top (half * 1048576) (n + 1) = sh top (half * 1048576) n := by simp only [sh]; rw [if_neg hc]
      rw [this]
      refine Ev.step (fun k => ?_) (shift_loop top half h0 h1 hh hh' n (by omega))
      simp only [quant_shift.l0]; rw [if_pos (by omega), if_pos (by omega), hs, wrap_id (n := half * 1048576) (by omega) (by omega), if_pos (by omega), wrap_id (n := (n : Int) - 1) (by omega) (by omega)]
theorem shift_is (top half : Int) (h0 : 0 ≤ top) (h1 : top ≤ 1099511627776) (hh : 1 ≤ half) (hh' : half ≤ 16384) : Ev (fun k => quant_shift.f k top half) (sh top (half * 1048576) 16) := by
  simpa [quant_shift.f] using shift_loop top half h0 h1 hh hh' 16 (by omega)
theorem shift_any_loop (top half : Int) : ∀ n : Nat, n ≤ 16 → ∃ r, r ≤ 15 ∧ Ev (fun k => quant_shift.l0 k top half ((n : Int) - 1)) r
  | 0, _ => ⟨-1, by omega, Ev.step (f := fun _ => some (-1)) (fun k => by simp only [quant_shift.l0]; rw [if_neg (by omega)]; rfl) (Ev.now _)⟩
  | n + 1, hn => by
    have e : ((n + 1 : Nat) : Int) - 1 = (n : Int) := by omega
    rw [e]
    obtain ⟨r, hr, h⟩ := shift_any_loop top half n (by omega)
    by_cases hc : shl .i64 top (n : Int) ≥ wrap64 (half * 1048576)
    · refine ⟨r, hr, Ev.step (fun k => ?_) h⟩
      simp only [quant_shift.l0]; rw [if_pos (by omega), if_pos (by omega), if_pos hc, wrap_id (n := (n : Int) - 1) (by omega) (by omega)]
    · refine ⟨n, by omega, Ev.step (f := fun _ => some (n : Int)) (fun k => ?_) (Ev.now _)⟩
      simp only [quant_shift.l0]; rw [if_pos (by omega), if_pos (by omega), if_neg hc]
theorem shift_any (top half : Int) : ∃ r, r ≤ 15 ∧ Ev (fun k => quant_shift.f k top half) r := by
  simpa [quant_shift.f] using shift_any_loop top half 16 (by omega)

theorem fill_loop (l : List Int) (half s p : Int) (hl : l.length ≤ 32) (hs0 : 0 ≤ s) (hs1 : s ≤ 15) (hh : 2 ≤ half) (hh' : half ≤ 16384)
    (hx : ∀ x ∈ l, -17179869184 < x * 2 ^ s.toNat ∧ x * 2 ^ s.toNat < 17179869184) (d : Nat) : ∀ (j : Nat) (c : Int) (out : List Int), l.length - j = d → j ≤ l.length → out.length = j → -(17179869184 * (j + 1)) ≤ c → c ≤ 17179869184 * (j + 1) →
    Ev (fun k => quant_Quantise.l0 k half s c l (l.length : Int) (j : Int) s p out) (s, p, out ++ qs half (2 ^ s.toNat) c (l.drop j), 0) := by
  induction d with
  | zero =>
    intro j c out hd hj ho hc0 hc1
    obtain rfl : j = l.length := by omega
    refine Ev.step (f := fun _ => some (s, p, out, 0)) (fun k => ?_) (by simpa [qs] using Ev.now _)
    simp only [quant_Quantise.l0]; rw [if_neg (by omega)]
  | succ d ih =>
    intro j c out hd hj ho hc0 hc1
    have hlt : j < l.length := by omega
    have hm := hx _ (List.getElem_mem hlt)
    rw [List.drop_eq_getElem_cons hlt]; simp only [qs]
    have hcb := carry_bd (half := half) (w := c + l[j] * 2 ^ s.toNat) (B := 17179869184 * (j + 2)) hh hh' (by omega) (by omega) (by omega)
    have hob := one_bd (half := half) (w := c + l[j] * 2 ^ s.toNat) (by omega)
    have e1 : shl .i64 l[j] s = l[j] * 2 ^ s.toNat := shl_id hs1 (by omega) (by omega)
    have := ih (j + 1) (c + l[j] * 2 ^ s.toNat - one half (c + l[j] * 2 ^ s.toNat) * 1048576) (out ++ [one half (c + l[j] * 2 ^ s.toNat)]) (by omega) (by omega) (by simp [ho]) (by push_cast; omega) (by push_cast; omega)
    rw [List.append_assoc] at this
    refine Ev.step (fun k => ?_) this
    simp only [quant_Quantise.l0]
    rw [if_pos (by omega), if_pos (by omega), if_pos (by omega), if_pos hs0, if_pos (by omega), rd_at l j hlt, e1, wrap_id (n := c + l[j] * 2 ^ s.toNat) (by omega) (by omega), wrap_id (n := c + l[j] * 2 ^ s.toNat + 524288) (by omega) (by omega), wrap_id (n := -half) (by omega) (by omega), wrap_id (n := half - 1) (by omega) (by omega)]
    show quant_Quantise.l0 k half s (wrap64 (c + l[j] * 2 ^ s.toNat - wrap64 (one half (c + l[j] * 2 ^ s.toNat) * 1048576))) l (l.length : Int) (wrap64 ((j : Int) + 1)) s p (out ++ [one half (c + l[j] * 2 ^ s.toNat)]) = _
    rw [wrap_id (n := one half (c + l[j] * 2 ^ s.toNat) * 1048576) (by omega) (by omega), wrap_id (n := c + l[j] * 2 ^ s.toNat - one half (c + l[j] * 2 ^ s.toNat) * 1048576) (by omega) (by omega), wrap_id (n := (j : Int) + 1) (by omega) (by omega)]; rfl
theorem fill_any (l : List Int) (half s p : Int) (hl : l.length ≤ 32) (hs0 : 0 ≤ s) (d : Nat) : ∀ (j : Nat) (c : Int) (out : List Int), l.length - j = d → j ≤ l.length → out.length = j →
    ∃ r, Ev (fun k => quant_Quantise.l0 k half s c l (l.length : Int) (j : Int) s p out) r := by
  induction d with
  | zero =>
    intro j c out hd hj ho
    obtain rfl : j = l.length := by omega
    refine ⟨_, Ev.step (f := fun _ => some (s, p, out, 0)) (fun k => ?_) (Ev.now _)⟩
    simp only [quant_Quantise.l0]; rw [if_neg (by omega)]
  | succ d ih =>
    intro j c out hd hj ho
    have hlt : j < l.length := by omega
    obtain ⟨r, hr⟩ := ih (j + 1) (wrap64 ((wrap64 (c + (shl .i64 (rd l j) s))) - (wrap64 ((mx (wrap64 (-half)) (mn ((wrap64 ((wrap64 (c + (shl .i64 (rd l j) s))) + 524288)) / 1048576) (wrap64 (half - 1)))) * 1048576)))) (out ++ [mx (wrap64 (-half)) (mn ((wrap64 ((wrap64 (c + (shl .i64 (rd l j) s))) + 524288)) / 1048576) (wrap64 (half - 1)))]) (by omega) (by omega) (by simp [ho])
    refine ⟨r, Ev.step (fun k => ?_) hr⟩
    simp only [quant_Quantise.l0]
    rw [if_pos (by omega), if_pos (by omega), if_pos (by omega), if_pos hs0, if_pos (by omega), wrap_id (n := (j : Int) + 1) (by omega) (by omega)]; rfl

theorem quantise_bad (l : List Int) (p : Int) (h : l.length = 0 ∨ 32 < l.length ∨ p < 2 ∨ 15 < p) : Ev (fun k => quant_Quantise.f k l p) (0, 0, [], 1) := by
  have hj : Ev (fun k => quant_Quantise.j0 k l p true) (0, 0, [], 1) := Ev.step (f := fun _ => some (0, 0, [], 1)) (fun k => by simp only [quant_Quantise.j0]; rw [if_pos trivial]) (Ev.now _)
  refine Ev.congr (fun k => ?_) hj
  unfold quant_Quantise.f
  by_cases h1 : (l.length : Int) = 0
  · rw [if_pos h1]
  · rw [if_neg h1]
    by_cases h2 : (l.length : Int) > 32
    · rw [if_pos h2]
    · rw [if_neg h2]
      by_cases h3 : p < 2
      · rw [if_pos h3]
      · rw [if_neg h3, show decide (p > 15) = true by simp; omega]
theorem quantise_start (l : List Int) (p : Int) (h : ¬ (l.length = 0 ∨ 32 < l.length ∨ p < 2 ∨ 15 < p)) (k : Nat) : quant_Quantise.f k l p = quant_Quantise.j0 k l p false := by
  unfold quant_Quantise.f
  rw [if_neg (by omega), if_neg (by omega), if_neg (by omega), show decide (p > 15) = false by simp; omega]
theorem quantise_is (l : List Int) (p : Int) (hn : NearL l) : Ev (fun k => quant_Quantise.f k l p) (model l p) := by
  by_cases h : l.length = 0 ∨ 32 < l.length ∨ p < 2 ∨ 15 < p
  · unfold model; rw [if_pos h]; exact quantise_bad l p h
  · refine Ev.congr (quantise_start l p h) ?_
    have hb := half_bd (p := p) (by omega) (by omega)
    have ho := shl_one (p := p) (by omega) (by omega)
    have ft := far_ge l 0
    have fl := far_le l 0 1099511627776 (by omega) hn
    have hf := furthest_is l (by omega) hn
    have hsf := shift_is (far l 0) (2 ^ (p - 1).toNat) ft.1 fl (by omega) hb.2
    have hsl := sh_lt (far l 0) (2 ^ (p - 1).toNat * 1048576) 16
    unfold model; rw [if_neg h]
    refine Ev.step (f := fun k => (quant_furthest.f k l).bind fun t103 => ((quant_shift.f k t103 (2 ^ (p - 1).toNat)).bind fun t104 => (if t104 < 0 then (quant_Quantise.j1 k l p (2 ^ (p - 1).toNat) t104 true) else (quant_Quantise.j1 k l p (2 ^ (p - 1).toNat) t104 (t103 == 0))))) (fun k => ?_) ?_
    · simp only [quant_Quantise.j0]; rw [if_neg (by decide), ho, if_pos (by rw [wrap_id (by omega) (by omega)]; omega)]
    refine Ev.bind hf (Ev.bind hsf ?_)
    have hbad : ∀ t, Ev (fun k => quant_Quantise.j1 k l p (2 ^ (p - 1).toNat) t true) (0, 0, [], 6) := fun t => Ev.step (f := fun _ => some (0, 0, [], 6)) (fun k => by simp only [quant_Quantise.j1]; rw [if_pos trivial]) (Ev.now _)
    by_cases h0 : sh (far l 0) (2 ^ (p - 1).toNat * 1048576) 16 < 0
    · simp only [if_pos h0]; rw [if_pos (.inl h0)]; exact hbad _
    · simp only [if_neg h0]
      by_cases h1 : far l 0 = 0
      · rw [if_pos (.inr h1), h1] at *; exact hbad _
      · rw [if_neg (by omega), show (far l 0 == 0) = false by simpa using h1]
        refine Ev.step (f := fun k => quant_Quantise.l0 k (2 ^ (p - 1).toNat) (sh (far l 0) (2 ^ (p - 1).toNat * 1048576) 16) 0 l (l.length : Int) ((0 : Nat) : Int) (sh (far l 0) (2 ^ (p - 1).toNat * 1048576) 16) p []) (fun k => by simp only [quant_Quantise.j1]; rw [if_neg (by decide)]; rfl) ?_
        have hfit := sh_fits (far l 0) (2 ^ (p - 1).toNat * 1048576) 16 (by omega)
        have hpw := pow_le (sh (far l 0) (2 ^ (p - 1).toNat * 1048576) 16).toNat (by omega)
        have := fill_loop l (2 ^ (p - 1).toNat) (sh (far l 0) (2 ^ (p - 1).toNat * 1048576) 16) p (by omega) (by omega) (by omega) hb.1 hb.2 (fun x hx => by
          have hx' := ft.2 x hx
          have := mul_bd hpw.1 hx'.2 hx'.1 hfit
          omega) l.length 0 0 [] (by omega) (by omega) rfl (by omega) (by omega)
        simpa using this
theorem quantise_any (l : List Int) (p : Int) : ∃ r, Ev (fun k => quant_Quantise.f k l p) r := by
  by_cases h : l.length = 0 ∨ 32 < l.length ∨ p < 2 ∨ 15 < p
  · exact ⟨_, quantise_bad l p h⟩
  · have ho := shl_one (p := p) (by omega) (by omega)
    obtain ⟨t, hf⟩ := furthest_any l (by omega)
    obtain ⟨s, hs, hsf⟩ := shift_any t (2 ^ (p - 1).toNat)
    have key : ∃ r, Ev (fun k => if s < 0 then (quant_Quantise.j1 k l p (2 ^ (p - 1).toNat) s true) else (quant_Quantise.j1 k l p (2 ^ (p - 1).toNat) s (t == 0))) r := by
      have hbad : Ev (fun k => quant_Quantise.j1 k l p (2 ^ (p - 1).toNat) s true) (0, 0, [], 6) := Ev.step (f := fun _ => some (0, 0, [], 6)) (fun k => by simp only [quant_Quantise.j1]; rw [if_pos trivial]) (Ev.now _)
      by_cases h0 : s < 0
      · simp only [if_pos h0]; exact ⟨_, hbad⟩
      · simp only [if_neg h0]
        cases h1 : (t == 0)
        · obtain ⟨r, hr⟩ := fill_any l (2 ^ (p - 1).toNat) s p (by omega) (by omega) l.length 0 0 [] (by omega) (by omega) rfl
          exact ⟨r, Ev.step (fun k => by simp only [quant_Quantise.j1]; rw [if_neg (by decide)]; rfl) hr⟩
        · exact ⟨_, hbad⟩
    obtain ⟨r, hr⟩ := key
    refine ⟨r, Ev.congr (quantise_start l p h) ?_⟩
    refine Ev.step (f := fun k => (quant_furthest.f k l).bind fun t103 => ((quant_shift.f k t103 (2 ^ (p - 1).toNat)).bind fun t104 => (if t104 < 0 then (quant_Quantise.j1 k l p (2 ^ (p - 1).toNat) t104 true) else (quant_Quantise.j1 k l p (2 ^ (p - 1).toNat) t104 (t103 == 0))))) (fun k => ?_) ?_
    · simp only [quant_Quantise.j0]; rw [if_neg (by decide), ho, if_pos (by rw [wrap_id (by omega) (by omega)]; omega)]
    exact Ev.bind hf (Ev.bind hsf hr)
theorem awake_is : Ev (fun k => serinettelaw11_awake.f k) true := Ev.of (k := 40) serinettelaw11_awake.mono (by decide +kernel)
end Go.Proofs.Ythbefpilfceooaa.BQuantNear
