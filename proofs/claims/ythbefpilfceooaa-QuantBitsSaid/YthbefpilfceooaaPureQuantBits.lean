/- The call of QuantBits answers true for every list of numbers and every precision: each factor has no more bits than the precision, and the shift is one that can be. No condition beyond what a Go value can be. -/
import Derived.Test.YthbefpilfceooaaBQuantBits
namespace Go.Proofs.Ythbefpilfceooaa.Pure
open Go.RowKit Go.Proofs.Ythbefpilfceooaa.GQuantBits Go.Proofs.YthbefpilfceooaaW.PrintWords Go.Proofs.YthbefpilfceooaaW.PrintLast Go.Proofs.Ythbefpilfceooaa.QMath Go.Proofs.Ythbefpilfceooaa.BQuantBits
namespace BitsAid
theorem near_loop (l : List Int) (hl : l.length ≤ 9223372036854775806) (d : Nat) : ∀ j : Nat, l.length - j = d → j ≤ l.length →
    ((∀ x ∈ l.drop j, -1099511627776 ≤ x ∧ x ≤ 1099511627776) ∧ Ev (fun k => serinetteref07_Near.l0 k l (j : Int)) true) ∨ Ev (fun k => serinetteref07_Near.l0 k l (j : Int)) false := by
  induction d with
  | zero =>
    intro j hd hj
    obtain rfl : j = l.length := by omega
    refine .inl ⟨by simp, Ev.step (f := fun _ => some true) (fun k => ?_) (Ev.now _)⟩
    simp only [serinetteref07_Near.l0]; rw [if_neg (by omega)]
  | succ d ih =>
    intro j hd hj
    have hlt : j < l.length := by omega
    by_cases h1 : l[j] < -1099511627776
    · refine .inr (Ev.step (f := fun _ => some false) (fun k => ?_) (Ev.now _))
      simp only [serinetteref07_Near.l0]; rw [if_pos (by omega), if_pos (by omega), rd_at l j hlt, if_pos h1]
    · by_cases h2 : l[j] > 1099511627776
      · refine .inr (Ev.step (f := fun _ => some false) (fun k => ?_) (Ev.now _))
        simp only [serinetteref07_Near.l0]; rw [if_pos (by omega), if_pos (by omega), rd_at l j hlt, if_neg h1, if_pos h2]
      · have st : ∀ k, serinetteref07_Near.l0 (k + 1) l (j : Int) = serinetteref07_Near.l0 k l ((j + 1 : Nat) : Int) := fun k => by
          simp only [serinetteref07_Near.l0]; rw [if_pos (by omega), if_pos (by omega), rd_at l j hlt, if_neg h1, if_neg h2, wrap_id (n := (j : Int) + 1) (by omega) (by omega)]; rfl
        rcases ih (j + 1) (by omega) (by omega) with ⟨h3, h4⟩ | h4
        · refine .inl ⟨?_, Ev.step st h4⟩
          rw [List.drop_eq_getElem_cons hlt]
          intro x hx
          rcases List.mem_cons.1 hx with rfl | hx
          · omega
          · exact h3 x hx
        · exact .inr (Ev.step st h4)
theorem near_is (l : List Int) (hl : l.length ≤ 9223372036854775806) : (NearL l ∧ Ev (fun k => serinetteref07_Near.f k l) true) ∨ Ev (fun k => serinetteref07_Near.f k l) false := by
  have := near_loop l hl l.length 0 (by omega) (by omega)
  simpa [serinetteref07_Near.f, NearL] using this
theorem u8_bd {a : Int} (hw : (Lit.int .u8 a).wf = true) : 0 ≤ a ∧ a ≤ 255 := by
  have e1 : IntKind.u8.min = 0 := by decide
  have e2 : IntKind.u8.max = 255 := by decide
  simp [Lit.wf, e1, e2] at hw; omega
theorem look (l fs : List Int) (s p : Int) (hf : fs.length = l.length) (hl : l.length ≤ 40) (hs0 : 0 ≤ s) (hs1 : s ≤ 15) (hp0 : 2 ≤ p) (hp1 : p ≤ 15)
    (hb : ∀ n ∈ fs, -(2 ^ (p - 1).toNat) ≤ n ∧ n ≤ 2 ^ (p - 1).toNat - 1) (d : Nat) : ∀ j : Nat, fs.length - j = d → j ≤ fs.length →
    Ev (fun k => serinettelaw11_QuantBits.l0 k l true p (j : Int) s p fs) true := by
  induction d with
  | zero =>
    intro j hd hj
    refine Ev.step (f := fun _ => some true) (fun k => ?_) (Ev.now _)
    simp only [serinettelaw11_QuantBits.l0]; rw [if_neg (by omega), if_pos trivial, if_pos trivial, if_pos (by omega), if_pos (by omega), hf]; simp
  | succ d ih =>
    intro j hd hj
    have hlt : j < fs.length := by omega
    have hn := hb _ (List.getElem_mem hlt)
    have hh := half_bd hp0 hp1
    refine Ev.step (fun k => ?_) (ih (j + 1) (by omega) (by omega))
    simp only [serinettelaw11_QuantBits.l0]
    rw [if_pos (by omega), if_pos (by omega), shl_one hp0 hp1, if_pos (by rw [wrap_id (by omega) (by omega)]; omega), rd_at fs j hlt, wrap_id (n := -2 ^ (p - 1).toNat) (by omega) (by omega), wrap_id (n := 2 ^ (p - 1).toNat - 1) (by omega) (by omega), if_neg (by omega), if_neg (by omega), wrap_id (n := (j : Int) + 1) (by omega) (by omega)]; rfl
end BitsAid

/-- YOURS -/
theorem QuantBits : serinettelaw11_QuantBits.Pure := by
  intro l0 a1 hlen hl8 hw0 hw
  have hb := BitsAid.u8_bd hw
  have ht0 := Int.tmod_nonneg 14 hb.1
  have ht1 := Int.tmod_lt_of_pos a1 (show (0 : Int) < 14 by omega)
  have h : Ev (fun k => serinettelaw11_QuantBits.f k l0 a1) true := by
    refine Ev.bind awake_is ?_
    have bad : Ev (fun k => serinettelaw11_QuantBits.j0 k l0 a1 true true) true := Ev.step (f := fun _ => some true) (fun k => by simp only [serinettelaw11_QuantBits.j0]; rw [if_pos trivial]) (Ev.now _)
    rcases BitsAid.near_is l0 (by omega) with ⟨hn, hN⟩ | hN
    · refine Ev.bind hN ?_
      by_cases h0 : (l0.length : Int) > 40
      · exact Ev.congr (fun k => by rw [if_pos h0]) bad
      · refine Ev.congr (fun k => by rw [if_neg h0]) (Ev.step (fun k => by simp only [serinettelaw11_QuantBits.j0]; rw [if_neg (by decide), wrap_id (n := Int.tmod a1 14) (by omega) (by omega), wrap_id (n := 2 + Int.tmod a1 14) (by omega) (by omega)]) (Ev.bind (quantise_is l0 (2 + Int.tmod a1 14) hn) ?_))
        generalize hP : 2 + Int.tmod a1 14 = p at *
        have hp0 : 2 ≤ p := by omega
        have hp1 : p ≤ 15 := by omega
        have hh := half_bd hp0 hp1
        by_cases c1 : l0.length = 0 ∨ 32 < l0.length ∨ p < 2 ∨ 15 < p
        · have : model l0 p = (0, 0, [], 1) := by unfold model; rw [if_pos c1]
          rw [this]; exact Ev.congr (f := fun _ => some true) (fun k => rfl) (Ev.now _)
        · by_cases c2 : sh (far l0 0) (2 ^ (p - 1).toNat * 1048576) 16 < 0 ∨ far l0 0 = 0
          · have : model l0 p = (0, 0, [], 6) := by unfold model; rw [if_neg c1, if_pos c2]
            rw [this]; exact Ev.congr (f := fun _ => some true) (fun k => rfl) (Ev.now _)
          · have : model l0 p = (sh (far l0 0) (2 ^ (p - 1).toNat * 1048576) 16, p, qs (2 ^ (p - 1).toNat) (2 ^ (sh (far l0 0) (2 ^ (p - 1).toNat * 1048576) 16).toNat) 0 l0, 0) := by unfold model; rw [if_neg c1, if_neg c2]
            rw [this]
            have hsl := sh_lt (far l0 0) (2 ^ (p - 1).toNat * 1048576) 16
            generalize hS : sh (far l0 0) (2 ^ (p - 1).toNat * 1048576) 16 = s at *
            exact Ev.congr (fun k => if_pos rfl) (BitsAid.look l0 (qs (2 ^ (p - 1).toNat) (2 ^ s.toNat) 0 l0) s p (qs_length _ _ _ _) (by omega) (by omega) (by omega) hp0 hp1 (qs_bd (by omega) l0 0) (qs (2 ^ (p - 1).toNat) (2 ^ s.toNat) 0 l0).length 0 (by omega) (by omega))
    · refine Ev.bind hN ?_
      by_cases h0 : (l0.length : Int) > 40
      · exact Ev.congr (fun k => by rw [if_pos h0]) bad
      · exact Ev.congr (fun k => by rw [if_neg h0]; rfl) bad
  exact h.rounds

end Go.Proofs.Ythbefpilfceooaa.Pure
