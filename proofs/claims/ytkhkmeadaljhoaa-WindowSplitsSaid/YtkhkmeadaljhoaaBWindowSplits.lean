/- WindowSplits: the texts' small functions tell what the plain law tells, from some number of rounds on. Conditions: each lemma names its own. -/
import Derived.Test.YtkhkmeadaljhoaaGWindowSplitsx2
import Derived.Test.YtkhkmeadaljhoaaWMath
namespace Go.Proofs.Ytkhkmeadaljhoaa.BWindowSplits
open Go.RowKit Go.Proofs.Ytkhkmeadaljhoaa.GWindowSplits Go.Proofs.YtkhkmeadaljhoaaW.PrintWords Go.Proofs.YtkhkmeadaljhoaaW.PrintLast Go.Proofs.Ytkhkmeadaljhoaa.Win Go.Proofs.Ytkhkmeadaljhoaa.WMath
theorem ints_same (l : List Int) (hl : l.length ≤ 70000) (d : Nat) : ∀ j : Nat, l.length - j = d → j ≤ l.length → Ev (fun k => serinetteref01_Ints.l0 k l l (j : Int)) true := by
  induction d with
  | zero =>
    intro j hd hj
    refine Ev.step (f := fun _ => some true) (fun k => ?_) (Ev.now _)
    simp only [serinetteref01_Ints.l0]; rw [if_neg (by omega)]
  | succ d ih =>
    intro j hd hj
    refine Ev.step (fun k => ?_) (ih (j + 1) (by omega) (by omega))
    simp only [serinetteref01_Ints.l0]
    rw [if_pos (by omega), if_pos (by omega), if_pos (by omega), if_pos trivial, wrap_id (n := (j : Int) + 1) (by omega) (by omega)]; rfl
theorem ints_is (l : List Int) (hl : l.length ≤ 70000) : Ev (fun k => serinetteref01_Ints.f k l l) true :=
  Ev.congr (fun k => by unfold serinetteref01_Ints.f; rw [if_pos rfl]; rfl) (ints_same l hl l.length 0 (by omega) (by omega))
theorem awake_is : Ev (fun k => serinettelaw08_awake.f k) true := Ev.of (k := 40) serinettelaw08_awake.mono (by decide +kernel)
theorem near_loop (l : List Int) (hl : l.length ≤ 9223372036854775806) (d : Nat) : ∀ j : Nat, l.length - j = d → j ≤ l.length →
    ((∀ x ∈ l.drop j, -1099511627776 ≤ x ∧ x ≤ 1099511627776) ∧ Ev (fun k => serinetteref07_Near.l0 k l (j : Int)) true) ∨ Ev (fun k => serinetteref07_Near.l0 k l (j : Int)) false := by
  induction d with
  | zero =>
    intro j hd hj
    obtain rfl : j = l.length := by omega
    refine .inl ⟨by simp, Ev.step (f := fun _ => some true) (fun k => ?_) (Ev.now _)⟩
    simp only [serinetteref07_Near.l0]; rw [if_neg (by omega)]
  | succ d ih =>
    intro j hd hj
    have hlt : j < l.length := by omega
    by_cases h1 : l[j] < -1099511627776
    · refine .inr (Ev.step (f := fun _ => some false) (fun k => ?_) (Ev.now _))
      simp only [serinetteref07_Near.l0]; rw [if_pos (by omega), if_pos (by omega), rd_at l j hlt, if_pos h1]
    · by_cases h2 : l[j] > 1099511627776
      · refine .inr (Ev.step (f := fun _ => some false) (fun k => ?_) (Ev.now _))
        simp only [serinetteref07_Near.l0]; rw [if_pos (by omega), if_pos (by omega), rd_at l j hlt, if_neg h1, if_pos h2]
      · have st : ∀ k, serinetteref07_Near.l0 (k + 1) l (j : Int) = serinetteref07_Near.l0 k l ((j + 1 : Nat) : Int) := fun k => by
          simp only [serinetteref07_Near.l0]; rw [if_pos (by omega), if_pos (by omega), rd_at l j hlt, if_neg h1, if_neg h2, wrap_id (n := (j : Int) + 1) (by omega) (by omega)]; rfl
        rcases ih (j + 1) (by omega) (by omega) with ⟨h3, h4⟩ | h4
        · refine .inl ⟨?_, Ev.step st h4⟩
          rw [List.drop_eq_getElem_cons hlt]
          intro x hx
          rcases List.mem_cons.1 hx with rfl | hx
          · omega
          · exact h3 x hx
        · exact .inr (Ev.step st h4)
theorem near_is (l : List Int) (hl : l.length ≤ 9223372036854775806) : (NearL l ∧ Ev (fun k => serinetteref07_Near.f k l) true) ∨ Ev (fun k => serinetteref07_Near.f k l) false := by
  have := near_loop l hl l.length 0 (by omega) (by omega)
  simpa [serinetteref07_Near.f, NearL] using this
theorem apply_loop (x w : List Int) (hl : x.length = w.length) (hx : x.length ≤ 100) (hn : NearL x) (hw : ∀ v ∈ w, 0 ≤ v ∧ v ≤ 32768) (d : Nat) : ∀ j : Nat, x.length - j = d → j ≤ x.length →
    Ev (fun k => window_Apply.l0 k x (made (x.take j) (w.take j) ++ List.replicate (x.length - j) 0) w (w.length : Int) (j : Int)) (made x w, 0) := by
  induction d with
  | zero =>
    intro j hd hj
    obtain rfl : j = x.length := by omega
    rw [List.take_length, Nat.sub_self, List.replicate_zero, List.append_nil, hl, List.take_length]
    exact Ev.step (f := fun _ => some (made x w, 0)) (fun k => by simp only [window_Apply.l0]; rw [if_neg (by omega)]) (Ev.now _)
  | succ d ih =>
    intro j hd hj
    have hlt : j < x.length := by omega
    have hlt' : j < w.length := by omega
    have hm := mul_bd (hn _ (List.getElem_mem hlt)).1 (hn _ (List.getElem_mem hlt)).2 (hw _ (List.getElem_mem hlt')).1 (hw _ (List.getElem_mem hlt')).2
    have hbl : (made (x.take j) (w.take j)).length = j := by simp [made]; omega
    obtain ⟨m, hm'⟩ : ∃ m, x.length - j = m + 1 := ⟨x.length - j - 1, by omega⟩
    have e : (made (x.take j) (w.take j) ++ List.replicate (x.length - j) 0).set j (x[j] * w[j] / 32768) = made (x.take (j + 1)) (w.take (j + 1)) ++ List.replicate (x.length - (j + 1)) 0 := by
      rw [List.set_append_right _ _ (by omega), hbl, Nat.sub_self, hm', List.replicate_succ, List.set_cons_zero, List.take_succ_eq_append_getElem hlt, List.take_succ_eq_append_getElem hlt', show x.length - (j + 1) = m by omega]
      unfold made
      rw [List.zipWith_append (by simp; omega)]
      simp
    have := ih (j + 1) (by omega) (by omega)
    rw [← e] at this
    refine Ev.step (fun k => ?_) this
    simp only [window_Apply.l0]
    rw [if_pos (by omega), if_pos (by omega), if_pos (by omega), if_pos (by omega), if_pos (by simp [hbl]; omega), rd_at x j hlt, rd_at w j hlt', wrap_id (n := x[j] * w[j]) (by omega) (by omega), wrap_id (n := (j : Int) + 1) (by omega) (by omega), Int.toNat_natCast]; rfl
theorem apply_is (x w : List Int) (hl : x.length = w.length) (hx : x.length ≤ 100) (hn : NearL x) (hw : ∀ v ∈ w, 0 ≤ v ∧ v ≤ 32768) : Ev (fun k => window_Apply.f k x w) (made x w, 0) := by
  refine Ev.congr (fun k => ?_) (apply_loop x w hl hx hn hw x.length 0 (by omega) (by omega))
  unfold window_Apply.f
  rw [if_pos (by omega), if_pos (by omega), if_pos (by omega), Int.toNat_natCast]
  simp [made]
end Go.Proofs.Ytkhkmeadaljhoaa.BWindowSplits
