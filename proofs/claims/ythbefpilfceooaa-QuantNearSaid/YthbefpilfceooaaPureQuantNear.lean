/- The call of QuantNear answers true for every list of numbers and every precision: all factors together are as near as can be to what they were. No condition beyond what a Go value can be. -/
import Derived.Test.YthbefpilfceooaaBQuantNear
namespace Go.Proofs.Ythbefpilfceooaa.Pure
open Go.RowKit Go.Proofs.Ythbefpilfceooaa.GQuantNear Go.Proofs.YthbefpilfceooaaW.PrintWords Go.Proofs.YthbefpilfceooaaW.PrintLast Go.Proofs.Ythbefpilfceooaa.QMath Go.Proofs.Ythbefpilfceooaa.BQuantNear
namespace NearAid
theorem near_loop (l : List Int) (hl : l.length ≤ 9223372036854775806) (d : Nat) : ∀ j : Nat, l.length - j = d → j ≤ l.length →
    ((∀ x ∈ l.drop j, -1099511627776 ≤ x ∧ x ≤ 1099511627776) ∧ Ev (fun k => serinetteref07_Near.l0 k l (j : Int)) true) ∨ Ev (fun k => serinetteref07_Near.l0 k l (j : Int)) false := by
  induction d with
  | zero =>
    intro j hd hj
    obtain rfl : j = l.length := by omega
    refine .inl ⟨by simp, Ev.step (f := fun _ => some true) (fun k => ?_) (Ev.now _)⟩
    simp only [serinetteref07_Near.l0]; rw [if_neg (by omega)]
  | succ d ih =>
    intro j hd hj
    have hlt : j < l.length := by omega
    by_cases h1 : l[j] < -1099511627776
    · refine .inr (Ev.step (f := fun _ => some false) (fun k => ?_) (Ev.now _))
      simp only [serinetteref07_Near.l0]; rw [if_pos (by omega), if_pos (by omega), rd_at l j hlt, if_pos h1]
    · by_cases h2 : l[j] > 1099511627776
      · refine .inr (Ev.step (f := fun _ => some false) (fun k => ?_) (Ev.now _))
        simp only [serinetteref07_Near.l0]; rw [if_pos (by omega), if_pos (by omega), rd_at l j hlt, if_neg h1, if_pos h2]
      · have st : ∀ k, serinetteref07_Near.l0 (k + 1) l (j : Int) = serinetteref07_Near.l0 k l ((j + 1 : Nat) : Int) := fun k => by
          simp only [serinetteref07_Near.l0]; rw [if_pos (by omega), if_pos (by omega), rd_at l j hlt, if_neg h1, if_neg h2, wrap_id (n := (j : Int) + 1) (by omega) (by omega)]; rfl
        rcases ih (j + 1) (by omega) (by omega) with ⟨h3, h4⟩ | h4
        · refine .inl ⟨?_, Ev.step st h4⟩
          rw [List.drop_eq_getElem_cons hlt]
          intro x hx
          rcases List.mem_cons.1 hx with rfl | hx
          · omega
          · exact h3 x hx
        · exact .inr (Ev.step st h4)
theorem near_is (l : List Int) (hl : l.length ≤ 9223372036854775806) : (NearL l ∧ Ev (fun k => serinetteref07_Near.f k l) true) ∨ Ev (fun k => serinetteref07_Near.f k l) false := by
  have := near_loop l hl l.length 0 (by omega) (by omega)
  simpa [serinetteref07_Near.f, NearL] using this
theorem u8_bd {a : Int} (hw : (Lit.int .u8 a).wf = true) : 0 ≤ a ∧ a ≤ 255 := by
  have e1 : IntKind.u8.min = 0 := by decide
  have e2 : IntKind.u8.max = 255 := by decide
  simp [Lit.wf, e1, e2] at hw; omega
theorem one_near {half w : Int} (h : 2 ≤ half) (h1 : one half w ≠ half - 1) (h2 : one half w ≠ -half) : -524288 ≤ w - one half w * 1048576 ∧ w - one half w * 1048576 ≤ 524288 := by
  revert h1 h2
  unfold one mx mn
  split <;> split <;> intro h1 h2 <;> omega
theorem look (l : List Int) (fs : List Int) (s p : Int) (hf : fs.length = l.length) (hl : l.length ≤ 40) (hs0 : 0 ≤ s) (hs1 : s ≤ 15) (hp0 : 2 ≤ p) (hp1 : p ≤ 15)
    (hx : ∀ x ∈ l, -17179869184 < x * 2 ^ s.toNat ∧ x * 2 ^ s.toNat < 17179869184 ∧ -1099511627776 ≤ x ∧ x ≤ 1099511627776) (d : Nat) : ∀ (j : Nat) (c : Int), l.length - j = d → j ≤ l.length → -524288 ≤ c → c ≤ 524288 → fs.drop j = qs (2 ^ (p - 1).toNat) (2 ^ s.toNat) c (l.drop j) →
    Ev (fun k => serinettelaw11_QuantNear.l0 k l true p c (j : Int) s p fs) true := by
  induction d with
  | zero =>
    intro j c hd hj _ _ _
    refine Ev.step (f := fun _ => some true) (fun k => ?_) (Ev.now _)
    simp only [serinettelaw11_QuantNear.l0]; rw [if_neg (by omega)]
  | succ d ih =>
    intro j c hd hj c0 c1 hq
    have hlt : j < l.length := by omega
    have hlt' : j < fs.length := by omega
    have hxj := hx _ (List.getElem_mem hlt)
    have hh := half_bd hp0 hp1
    have hpw := pow_le s.toNat (by omega)
    rw [List.drop_eq_getElem_cons hlt, List.drop_eq_getElem_cons hlt'] at hq
    simp only [qs, List.cons.injEq] at hq
    obtain ⟨hn, hq⟩ := hq
    have hob := one_bd (half := 2 ^ (p - 1).toNat) (w := c + l[j] * 2 ^ s.toNat) (by omega)
    have hnear := one_near (half := 2 ^ (p - 1).toNat) (w := c + l[j] * 2 ^ s.toNat) hh.1
    rw [← hn] at hob hnear hq
    have stop : Ev (fun k => serinettelaw11_QuantNear.j3 k l true p c (j : Int) fs[j] true s p fs) true := Ev.step (f := fun _ => some true) (fun k => by simp only [serinettelaw11_QuantNear.j3]; rw [if_pos trivial]) (Ev.now _)
    have st : ∀ k, serinettelaw11_QuantNear.l0 (k + 1) l true p c (j : Int) s p fs = if fs[j] = 2 ^ (p - 1).toNat - 1 then serinettelaw11_QuantNear.j3 k l true p c (j : Int) fs[j] true s p fs else serinettelaw11_QuantNear.j3 k l true p c (j : Int) fs[j] (fs[j] == -2 ^ (p - 1).toNat) s p fs := fun k => by
      simp only [serinettelaw11_QuantNear.l0]
      rw [if_pos (by omega), if_pos (by omega), if_pos (by omega), shl_one hp0 hp1, if_pos (by rw [wrap_id (by omega) (by omega)]; omega), rd_at fs j hlt', wrap_id (n := -2 ^ (p - 1).toNat) (by omega) (by omega), wrap_id (n := 2 ^ (p - 1).toNat - 1) (by omega) (by omega)]
    refine Ev.step st ?_
    by_cases h1 : fs[j] = 2 ^ (p - 1).toNat - 1
    · exact Ev.congr (fun k => if_pos h1) stop
    · refine Ev.congr (fun k => if_neg h1) ?_
      by_cases h2 : fs[j] = -2 ^ (p - 1).toNat
      · rw [show (fs[j] == -2 ^ (p - 1).toNat) = true from beq_iff_eq.2 h2]; exact stop
      · rw [show (fs[j] == -2 ^ (p - 1).toNat) = false from beq_eq_false_iff_ne.2 h2]
        have hnr := hnear h1 h2
        refine Ev.step (fun k => ?_) (ih (j + 1) (c + l[j] * 2 ^ s.toNat - fs[j] * 1048576) (by omega) (by omega) hnr.1 hnr.2 hq)
        have e1 : shl .i64 1 s = 2 ^ s.toNat := by rw [shl_id hs1 (by omega) (by omega)]; omega
        simp only [serinettelaw11_QuantNear.j3]
        rw [if_neg (by decide), if_pos (by omega), if_pos (by omega), if_pos hs0, rd_at l j hlt, e1, wrap_id (n := l[j] * 2 ^ s.toNat) (by omega) (by omega), wrap_id (n := c + l[j] * 2 ^ s.toNat) (by omega) (by omega), wrap_id (n := fs[j] * 1048576) (by omega) (by omega), wrap_id (n := c + l[j] * 2 ^ s.toNat - fs[j] * 1048576) (by omega) (by omega), if_neg (by omega), if_neg (by omega), wrap_id (n := (j : Int) + 1) (by omega) (by omega)]; rfl
end NearAid

/-- YOURS -/
theorem QuantNear : serinettelaw11_QuantNear.Pure := by
  intro l0 a1 hlen hl8 hw0 hw
  have hb := NearAid.u8_bd hw
  have ht0 := Int.tmod_nonneg 14 hb.1
  have ht1 := Int.tmod_lt_of_pos a1 (show (0 : Int) < 14 by omega)
  have h : Ev (fun k => serinettelaw11_QuantNear.f k l0 a1) true := by
    refine Ev.bind awake_is ?_
    have bad : ∀ p s q fs, Ev (fun k => serinettelaw11_QuantNear.j0 k l0 true p true s q fs) true := fun p s q fs => Ev.step (f := fun _ => some true) (fun k => by simp only [serinettelaw11_QuantNear.j0]; rw [if_pos trivial]) (Ev.now _)
    rcases NearAid.near_is l0 (by omega) with ⟨hn, hN⟩ | hN
    · refine Ev.bind hN ?_
      rw [wrap_id (n := Int.tmod a1 14) (by omega) (by omega), wrap_id (n := 2 + Int.tmod a1 14) (by omega) (by omega)]
      refine Ev.bind (quantise_is l0 (2 + Int.tmod a1 14) hn) ?_
      by_cases h0 : (l0.length : Int) > 32
      · exact Ev.congr (fun k => by rw [if_pos h0]) (bad _ _ _ _)
      · refine Ev.congr (fun k => by rw [if_neg h0, if_pos rfl]) ?_
        generalize hP : 2 + Int.tmod a1 14 = p at *
        have hp0 : 2 ≤ p := by omega
        have hp1 : p ≤ 15 := by omega
        have hh := half_bd hp0 hp1
        by_cases c1 : l0.length = 0 ∨ 32 < l0.length ∨ p < 2 ∨ 15 < p
        · have : model l0 p = (0, 0, [], 1) := by unfold model; rw [if_pos c1]
          rw [this]; exact bad _ _ _ _
        · by_cases c2 : sh (far l0 0) (2 ^ (p - 1).toNat * 1048576) 16 < 0 ∨ far l0 0 = 0
          · have : model l0 p = (0, 0, [], 6) := by unfold model; rw [if_neg c1, if_pos c2]
            rw [this]; exact bad _ _ _ _
          · have : model l0 p = (sh (far l0 0) (2 ^ (p - 1).toNat * 1048576) 16, p, qs (2 ^ (p - 1).toNat) (2 ^ (sh (far l0 0) (2 ^ (p - 1).toNat * 1048576) 16).toNat) 0 l0, 0) := by unfold model; rw [if_neg c1, if_neg c2]
            rw [this]
            have hsl := sh_lt (far l0 0) (2 ^ (p - 1).toNat * 1048576) 16
            have ft := far_ge l0 0
            have hfit := sh_fits (far l0 0) (2 ^ (p - 1).toNat * 1048576) 16 (by omega)
            generalize sh (far l0 0) (2 ^ (p - 1).toNat * 1048576) 16 = s at *
            have hpw := pow_le s.toNat (by omega)
            have hlook := NearAid.look l0 (qs (2 ^ (p - 1).toNat) (2 ^ s.toNat) 0 l0) s p (qs_length _ _ _ _) (by omega) (by omega) (by omega) hp0 hp1 (fun x hx => by
              have hx' := ft.2 x hx
              have hx2 := hn x hx
              have := mul_bd hpw.1 hx'.2 hx'.1 hfit
              omega) l0.length 0 0 (by omega) (by omega) (by omega) (by omega) rfl
            refine Ev.step (f := fun k => serinettelaw11_QuantNear.j1 k l0 true p false s p (qs (2 ^ (p - 1).toNat) (2 ^ s.toNat) 0 l0)) (fun k => ?_) (Ev.step (fun k => ?_) hlook)
            · simp only [serinettelaw11_QuantNear.j0]
              rw [if_neg (by decide), if_pos (by rw [qs_length]), if_neg (by omega), decide_eq_false (by omega)]
            · simp only [serinettelaw11_QuantNear.j1]; rw [if_neg (by decide)]; rfl
    · refine Ev.bind hN ?_
      obtain ⟨r, hr⟩ := quantise_any l0 (wrap64 (2 + (wrap64 (Int.tmod a1 14))))
      refine Ev.bind hr ?_
      by_cases h0 : (l0.length : Int) > 32
      · exact Ev.congr (fun k => by rw [if_pos h0]) (bad _ _ _ _)
      · exact Ev.congr (fun k => by rw [if_neg h0, if_neg (by decide)]) (bad _ _ _ _)
  exact h.rounds

end Go.Proofs.Ythbefpilfceooaa.Pure
