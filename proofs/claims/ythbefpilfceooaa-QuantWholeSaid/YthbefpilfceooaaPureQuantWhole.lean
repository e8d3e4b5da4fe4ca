/- The call of QuantWhole answers true for every list of numbers of 8 bits: what has few bits is told as it is. No condition beyond what a Go value can be. -/
import Derived.Test.YthbefpilfceooaaSizedName
import Derived.Test.YthbefpilfceooaaBQuantWhole
namespace Go.Proofs.Ythbefpilfceooaa.Pure
open Go.RowKit Go.Proofs.Ythbefpilfceooaa.PQuantWhole Go.Proofs.YthbefpilfceooaaW.PrintWords Go.Proofs.YthbefpilfceooaaW.PrintLast Go.Proofs.Ythbefpilfceooaa.QMath Go.Proofs.Ythbefpilfceooaa.BQuantWhole
namespace WholeAid

/-- The wholes that the statement makes out of a number. -/
def up (x : Int) : Int := Int.tmod x 101 * 1048576
theorem tmod_bd (x : Int) : -100 ≤ Int.tmod x 101 ∧ Int.tmod x 101 ≤ 100 := by
  have h1 := Int.tmod_lt_of_pos x (show (0 : Int) < 101 by omega)
  have h2 := Int.lt_tmod_of_pos x (show (0 : Int) < 101 by omega)
  omega
/-- Wholes stay as they are. -/
theorem qs_whole (P : Int) : ∀ (l : List Int), (∀ x ∈ l, ∃ n, x = n * 1048576 ∧ -16384 < n * P ∧ n * P < 16384) → ∀ j (h : j < l.length), (qs 16384 P 0 l).getD j 0 * 1048576 = l[j] * P := by
  intro l
  induction l with
  | nil => intro _ j h; simp at h
  | cons x l ih =>
    intro hl j h
    obtain ⟨n, rfl, h0, h1⟩ := hl x (by simp)
    have e : n * 1048576 * P = n * P * 1048576 := by rw [Int.mul_assoc, Int.mul_comm 1048576 P, ← Int.mul_assoc]
    have e1 : one 16384 (0 + n * 1048576 * P) = n * P := by
      rw [e, Int.zero_add]; unfold one mx mn; split <;> split at * <;> omega
    have e2 : (0 : Int) + n * 1048576 * P - one 16384 (0 + n * 1048576 * P) * 1048576 = 0 := by rw [e1, e]; omega
    simp only [qs]
    rw [e2]
    cases j with
    | zero => simp only [List.getD_cons_zero, List.getElem_cons_zero]; rw [e1, e]
    | succ j =>
      simp only [List.getD_cons_succ, List.getElem_cons_succ]
      exact ih (fun x hx => hl x (by simp [hx])) j (by simpa using h)
/-- The last loop: each factor is looked at. -/
theorem look (l fs : List Int) (s p : Int) (hl : l.length ≤ 32) (hf : fs.length = l.length) (hs0 : 0 ≤ s) (hs1 : s ≤ 15)
    (hx : ∀ x ∈ l, -104857600 ≤ x ∧ x ≤ 104857600) (hb : ∀ n ∈ fs, -16384 ≤ n ∧ n ≤ 16384)
    (h : ∀ j (h : j < l.length), fs.getD j 0 * 1048576 = l[j] * 2 ^ s.toNat) (d : Nat) : ∀ j : Nat, l.length - j = d → j ≤ l.length →
    Ev (fun k => serinettelaw11_QuantWhole.l1 k true l (j : Int) s p fs) true := by
  induction d with
  | zero =>
    intro j hd hj
    refine Ev.step (f := fun _ => some true) (fun k => ?_) (Ev.now _)
    simp only [serinettelaw11_QuantWhole.l1]; rw [if_neg (by omega)]
  | succ d ih =>
    intro j hd hj
    have hlt : j < l.length := by omega
    have hlt' : j < fs.length := by omega
    refine Ev.step (fun k => ?_) (ih (j + 1) (by omega) (by omega))
    have hxj := hx _ (List.getElem_mem hlt)
    have hbj := hb _ (List.getElem_mem hlt')
    have hj2 := h j hlt
    rw [getD_at _ _ hlt'] at hj2
    have hp := pow_le s.toNat (by omega)
    have e1 : shl .i64 1 s = 2 ^ s.toNat := by rw [shl_id hs1 (by omega) (by omega)]; omega
    simp only [serinettelaw11_QuantWhole.l1]
    rw [if_pos (by omega), if_pos (by omega), if_pos (by omega), if_pos hs0, rd_at fs j hlt', rd_at l j hlt, e1, ← hj2, if_pos rfl, wrap_id (n := (j : Int) + 1) (by omega) (by omega)]; rfl
theorem any_zero (l : List Int) : (l.any fun x => Int.tmod x 101 != 0) = false → far (l.map up) 0 = 0 := by
  intro h
  have h1 := far_ge (l.map up) 0
  have h2 := far_le (l.map up) 0 0 (by omega) (fun x hx => by
    obtain ⟨y, hy, rfl⟩ := List.mem_map.1 hx
    have := (List.any_eq_false.1 h) y hy
    simp at this
    simp [up, this])
  omega
theorem any_one (l : List Int) : (l.any fun x => Int.tmod x 101 != 0) = true → 0 < far (l.map up) 0 := by
  intro h
  obtain ⟨y, hy, hn⟩ := List.any_eq_true.1 h
  have h1 := (far_ge (l.map up) 0).2 (up y) (List.mem_map.2 ⟨y, hy, rfl⟩)
  simp at hn
  unfold up at h1 ⊢
  omega
/-- The first loop, and what is behind it. -/
theorem fill (l0 : List Int) (h0 : l0.length ≠ 0) (h1 : l0.length ≤ 32) (hw : ∀ x ∈ l0, (Lit.int .i8 x).wf = true) (d : Nat) : ∀ (j : Nat), l0.length - j = d → j ≤ l0.length →
    Ev (fun k => serinettelaw11_QuantWhole.l0 k l0 true ((l0.take j).map up) ((l0.take j).any fun x => Int.tmod x 101 != 0) (j : Int)) true := by
  induction d with
  | zero =>
    intro j hd hj
    obtain rfl : j = l0.length := by omega
    rw [List.take_length]
    have hnear : NearL (l0.map up) := by
      intro x hx
      obtain ⟨y, _, rfl⟩ := List.mem_map.1 hx
      have := tmod_bd y
      unfold up; omega
    have hlen : (l0.map up).length = l0.length := by simp
    have hbig := far_le (l0.map up) 0 104857600 (by omega) (fun x hx => by
      obtain ⟨y, _, rfl⟩ := List.mem_map.1 hx
      have := tmod_bd y
      unfold up; omega)
    have hQ := quantise_is (l0.map up) 15 hnear
    refine Ev.step (f := fun k => (quant_Quantise.f k (l0.map up) 15).bind fun bt134 => (if (l0.any fun x => Int.tmod x 101 != 0) = true then (if bt134.2.2.2 = 0 then (if (bt134.2.2.1.length : Int) = ((l0.map up).length : Int) then (serinettelaw11_QuantWhole.j2 k true (l0.map up) (decide (bt134.1 < 7)) bt134.1 bt134.2.1 bt134.2.2.1) else (serinettelaw11_QuantWhole.j2 k true (l0.map up) true bt134.1 bt134.2.1 bt134.2.2.1)) else (serinettelaw11_QuantWhole.j2 k true (l0.map up) true bt134.1 bt134.2.1 bt134.2.2.1)) else (if true = true then (some (bt134.2.2.2 == 6)) else (some false)))) (fun k => ?_) (Ev.bind hQ ?_)
    · simp only [serinettelaw11_QuantWhole.l0]; rw [if_neg (by omega)]
    · have hm : ¬ ((l0.map up).length = 0 ∨ 32 < (l0.map up).length ∨ (15 : Int) < 2 ∨ (15 : Int) < 15) := by omega
      cases ha : (l0.any fun x => Int.tmod x 101 != 0) with
      | false =>
        have hz := any_zero l0 ha
        have : model (l0.map up) 15 = (0, 0, [], 6) := by unfold model; rw [if_neg hm, if_pos (.inr hz)]
        rw [this]
        exact Ev.congr (f := fun _ => some true) (fun k => rfl) (Ev.now _)
      | true =>
        have hp := any_one l0 ha
        have hpow : ((2 : Int) ^ ((15 : Int) - 1).toNat) = 16384 := by decide
        have hs7 : 7 ≤ sh (far (l0.map up) 0) (16384 * 1048576) 16 := by
          simp only [sh]
          repeat' split
          all_goals first | omega | (exfalso; simp only [Int.reducePow] at *; omega)
        have hsl := sh_lt (far (l0.map up) 0) (16384 * 1048576) 16
        have hfit := sh_fits (far (l0.map up) 0) (16384 * 1048576) 16 (by omega)
        have hm1 : model (l0.map up) 15 = (sh (far (l0.map up) 0) (16384 * 1048576) 16, 15, qs 16384 (2 ^ (sh (far (l0.map up) 0) (16384 * 1048576) 16).toNat) 0 (l0.map up), 0) := by
          unfold model; rw [if_neg hm, hpow, if_neg (by omega)]
        rw [hm1]
        generalize hS : sh (far (l0.map up) 0) (16384 * 1048576) 16 = S at *
        have hpw := pow_le S.toNat (by omega)
        have hlook := look (l0.map up) (qs 16384 (2 ^ S.toNat) 0 (l0.map up)) S 15 (by omega) (qs_length _ _ _ _) (by omega) (by omega) (fun x hx => by
            obtain ⟨y, _, rfl⟩ := List.mem_map.1 hx
            have := tmod_bd y
            unfold up; omega) (fun n hn => by have := qs_bd (half := 16384) (by omega) _ _ n hn; omega)
          (qs_whole (2 ^ S.toNat) (l0.map up) (fun x hx => by
            obtain ⟨y, hy, rfl⟩ := List.mem_map.1 hx
            refine ⟨Int.tmod y 101, rfl, ?_⟩
            have hf := (far_ge (l0.map up) 0).2 _ hx
            have := mul_bd hpw.1 hf.2 hf.1 hfit
            unfold up at this
            have e : Int.tmod y 101 * 1048576 * 2 ^ S.toNat = Int.tmod y 101 * 2 ^ S.toNat * 1048576 := by rw [Int.mul_assoc, Int.mul_comm 1048576, ← Int.mul_assoc]
            omega)) (l0.map up).length 0 (by omega) (by omega)
        simp only [if_true]
        refine Ev.congr (fun k => if_pos (by rw [qs_length])) ?_
        rw [show decide (S < 7) = false by simp; omega]
        refine Ev.step (fun k => ?_) hlook
        simp only [serinettelaw11_QuantWhole.j2]; rw [if_neg (by decide)]; rfl
  | succ d ih =>
    intro j hd hj
    have hlt : j < l0.length := by omega
    have hx := hw _ (List.getElem_mem hlt)
    have hb : -128 ≤ l0[j] ∧ l0[j] ≤ 127 := by
      have e1 : IntKind.i8.min = -128 := by decide
      have e2 : IntKind.i8.max = 127 := by decide
      simp [Lit.wf, e1, e2] at hx; omega
    have ht := tmod_bd l0[j]
    refine Ev.step (fun k => ?_) (ih (j + 1) (by omega) (by omega))
    rw [List.take_succ_eq_append_getElem hlt, List.map_append, List.any_append]
    have hlen : ((l0.take j).map up).length = j := by simp; omega
    simp only [serinettelaw11_QuantWhole.l0]
    rw [if_pos (by omega), if_pos (by omega), rd_at l0 j hlt, wrap_id (n := l0[j]) (by omega) (by omega), wrap_id (n := Int.tmod l0[j] 101 * 1048576) (by omega) (by omega), wrap_id (n := (j : Int) + 1) (by omega) (by omega)]
    cases ha : (l0.take j).any fun x => Int.tmod x 101 != 0
    · rw [if_neg (by decide), if_pos (by omega)]
      simp [up]
    · rw [if_pos rfl, if_pos (by omega)]
      simp [up]
end WholeAid

/-- YOURS -/
theorem QuantWhole : serinettelaw11_QuantWhole.Pure := by
  intro l0 _ _ hw
  have h : Ev (fun k => serinettelaw11_QuantWhole.f k l0) true := by
    refine Ev.bind awake_is ?_
    have bad : Ev (fun k => serinettelaw11_QuantWhole.j0 k l0 true true) true := Ev.step (f := fun _ => some true) (fun k => by simp only [serinettelaw11_QuantWhole.j0]; rw [if_pos trivial]) (Ev.now _)
    by_cases h0 : (l0.length : Int) = 0
    · exact Ev.congr (fun k => by rw [if_pos h0]) bad
    · by_cases h1 : (l0.length : Int) > 32
      · exact Ev.congr (fun k => by rw [if_neg h0, show decide ((l0.length : Int) > 32) = true by simp; omega]) bad
      · refine Ev.congr (fun k => by rw [if_neg h0, show decide ((l0.length : Int) > 32) = false by simp; omega]) ?_
        have := WholeAid.fill l0 (by omega) (by omega) hw l0.length 0 (by omega) (by omega)
        exact Ev.step (fun k => by simp only [serinettelaw11_QuantWhole.j0]; rw [if_neg (by decide)]; rfl) this
  exact h.rounds

end Go.Proofs.Ythbefpilfceooaa.Pure
