/- The call of WindowApplies answers true: what any weights make of any numbers, or what is wrong, is as the document says. No condition beyond what a Go value can be. -/
import Derived.Test.YtkhkmeadaljhoaaBWindowApplies
namespace Go.Proofs.Ytkhkmeadaljhoaa.Pure
open Go.RowKit Go.Proofs.Ytkhkmeadaljhoaa.GWindowApplies Go.Proofs.YtkhkmeadaljhoaaW.PrintWords Go.Proofs.YtkhkmeadaljhoaaW.PrintLast Go.Proofs.Ytkhkmeadaljhoaa.Win Go.Proofs.Ytkhkmeadaljhoaa.WMath Go.Proofs.Ytkhkmeadaljhoaa.BWindowApplies
namespace WindowAppliesAid
theorem u8_bd {a : Int} (hw : (Lit.int .u8 a).wf = true) : 0 ≤ a ∧ a ≤ 255 := by
  have e1 : IntKind.u8.min = 0 := by decide
  have e2 : IntKind.u8.max = 255 := by decide
  simp [Lit.wf, e1, e2] at hw; omega
theorem u16_bd {a : Int} (hw : (Lit.int .u16 a).wf = true) : 0 ≤ a ∧ a ≤ 65535 := by
  have e1 : IntKind.u16.min = 0 := by decide
  have e2 : IntKind.u16.max = 65535 := by decide
  simp [Lit.wf, e1, e2] at hw; omega
theorem i64_bd {a : Int} (hw : (Lit.int .i64 a).wf = true) : -9223372036854775808 ≤ a ∧ a ≤ 9223372036854775807 := by
  have e1 : IntKind.i64.min = -9223372036854775808 := by decide
  have e2 : IntKind.i64.max = 9223372036854775807 := by decide
  simp [Lit.wf, e1, e2] at hw; omega
theorem mod3 {a : Int} (h : 0 ≤ a ∧ a ≤ 255) : 0 ≤ Int.tmod a 3 ∧ Int.tmod a 3 ≤ 2 ∧ wrap64 (Int.tmod a 3) = Int.tmod a 3 := by
  have h0 := Int.tmod_nonneg 3 h.1
  have h1 := Int.tmod_lt_of_pos a (show (0 : Int) < 3 by omega)
  exact ⟨h0, by omega, wrap_id (by omega) (by omega)⟩
theorem down_is (w : Int) (h0 : -9223372036854775807 ≤ w) (h1 : w ≤ 9223372036854775807) : serinetteref08_Down.f w 32768 = some (w / 32768) := by
  unfold serinetteref08_Down.f
  rw [if_neg (by omega)]
  rcases Int.lt_or_le w 0 with hw | hw
  · have e1 : Int.tdiv w 32768 = -((-w) / 32768) := by
      rw [show w = -(-w) by omega, Int.neg_tdiv, Int.tdiv_eq_ediv_of_nonneg (by omega)]; simp
    have e2 : Int.tmod w 32768 = -((-w) % 32768) := by
      rw [show w = -(-w) by omega, Int.neg_tmod, Int.tmod_eq_emod_of_nonneg (by omega)]; simp
    rw [e1, e2]
    split
    · rw [wrap_id (n := -(-w / 32768)) (by omega) (by omega), wrap_id (by omega) (by omega)]; congr 1; omega
    · rw [wrap_id (n := -(-w / 32768)) (by omega) (by omega)]; congr 1; omega
  · rw [Int.tdiv_eq_ediv_of_nonneg hw, Int.tmod_eq_emod_of_nonneg hw, if_neg (by omega), wrap_id (by omega) (by omega)]
theorem ref_loop (x w : List Int) (hl : x.length = w.length) (hx : x.length ≤ 100) (hn : NearL x) (hw : ∀ v ∈ w, 0 ≤ v ∧ v ≤ 32768) (d : Nat) : ∀ j : Nat, x.length - j = d → j ≤ x.length →
    Ev (fun k => serinetteref08_Apply.l0 k x w (made (x.take j) (w.take j)) (j : Int)) (made x w, 0) := by
  induction d with
  | zero =>
    intro j hd hj
    obtain rfl : j = x.length := by omega
    rw [List.take_length, hl, List.take_length]
    exact Ev.step (f := fun _ => some (made x w, 0)) (fun k => by simp only [serinetteref08_Apply.l0]; rw [if_neg (by omega)]) (Ev.now _)
  | succ d ih =>
    intro j hd hj
    have hlt : j < x.length := by omega
    have hlt' : j < w.length := by omega
    have hm := mul_bd (hn _ (List.getElem_mem hlt)).1 (hn _ (List.getElem_mem hlt)).2 (hw _ (List.getElem_mem hlt')).1 (hw _ (List.getElem_mem hlt')).2
    have hbl : (made (x.take j) (w.take j)).length = j := by simp [made]; omega
    have := ih (j + 1) (by omega) (by omega)
    have e : made (x.take (j + 1)) (w.take (j + 1)) = made (x.take j) (w.take j) ++ [x[j] * w[j] / 32768] := by
      rw [List.take_succ_eq_append_getElem hlt, List.take_succ_eq_append_getElem hlt']
      unfold made
      rw [List.zipWith_append (by simp; omega)]
      simp
    rw [e] at this
    refine Ev.step (fun k => ?_) this
    simp only [serinetteref08_Apply.l0]
    rw [if_pos (by omega), if_pos (by omega), if_pos (by omega), rd_at x j hlt, rd_at w j hlt', wrap_id (n := x[j] * w[j]) (by omega) (by omega), down_is _ (by omega) (by omega)]
    simp only [Option.bind_some]
    rw [if_pos (by omega), wrap_id (n := (j : Int) + 1) (by omega) (by omega)]; rfl
theorem ref_is (x w : List Int) (hl : x.length = w.length) (hx : x.length ≤ 100) (hn : NearL x) (hw : ∀ v ∈ w, 0 ≤ v ∧ v ≤ 32768) : Ev (fun k => serinetteref08_Apply.f k x w) (made x w, 0) :=
  Ev.congr (fun k => by unfold serinetteref08_Apply.f; rw [if_pos (by omega)]; rfl) (ref_loop x w hl hx hn hw x.length 0 (by omega) (by omega))
/-- The weights that the statement makes. -/
def few (w : List Int) : List Int := w.map fun v => Int.tmod v 32769
theorem few_bd (w : List Int) (h : ∀ v ∈ w, 0 ≤ v) : ∀ v ∈ few w, 0 ≤ v ∧ v ≤ 32768 := by
  intro v hv
  obtain ⟨u, hu, rfl⟩ := List.mem_map.1 hv
  have h0 := Int.tmod_nonneg 32769 (h u hu)
  have h1 := Int.tmod_lt_of_pos u (show (0 : Int) < 32769 by omega)
  omega
theorem last (x w : List Int) (hx : x.length ≤ 100) (hn : NearL x) (hb : ∀ v ∈ w, 0 ≤ v) :
    Ev (fun k => (window_Apply.f k x (few w)).bind fun bt139 => ((serinetteref08_Apply.f k x (few w)).bind fun bt143 => (if true = true then (if bt139.2 = bt143.2 then ((serinetteref01_Ints.f k bt139.1 bt143.1).bind fun t147 => (some t147)) else (some false)) else (some false)))) true := by
  have hf : (few w).length = w.length := by simp [few]
  by_cases hl : x.length = (few w).length
  · refine Ev.bind (apply_is x _ hl hx hn (few_bd w hb)) (Ev.bind (ref_is x _ hl hx hn (few_bd w hb)) ?_)
    exact Ev.congr (fun k => by rw [if_pos rfl, if_pos rfl]) (Ev.bind (ints_is _ (by rw [made_len _ _ hl]; omega)) (Ev.now _))
  · refine Ev.bind (a := ([], 1)) (Ev.congr (f := fun _ => some ([], 1)) (fun k => by unfold window_Apply.f; rw [if_neg (by omega)]) (Ev.now _)) (Ev.bind (a := ([], 1)) (Ev.congr (f := fun _ => some ([], 1)) (fun k => by unfold serinetteref08_Apply.f; rw [if_neg (by omega)]) (Ev.now _)) ?_)
    exact Ev.congr (fun k => by rw [if_pos rfl, if_pos rfl]) (Ev.bind (ints_is [] (by simp)) (Ev.now _))
theorem fill (x w : List Int) (hx : x.length ≤ 100) (hw : w.length ≤ 100) (hn : NearL x) (hb : ∀ v ∈ w, 0 ≤ v ∧ v ≤ 65535) (d : Nat) : ∀ j : Nat, w.length - j = d → j ≤ w.length →
    Ev (fun k => serinettelaw08_WindowApplies.l0 k x w true (few (w.take j)) (j : Int)) true := by
  induction d with
  | zero =>
    intro j hd hj
    obtain rfl : j = w.length := by omega
    rw [List.take_length]
    exact Ev.step (fun k => by simp only [serinettelaw08_WindowApplies.l0]; rw [if_neg (by omega)]) (last x w hx hn (fun v hv => (hb v hv).1))
  | succ d ih =>
    intro j hd hj
    have hlt : j < w.length := by omega
    have hv := hb _ (List.getElem_mem hlt)
    have h0 := Int.tmod_nonneg 32769 hv.1
    have h1 := Int.tmod_lt_of_pos w[j] (show (0 : Int) < 32769 by omega)
    have := ih (j + 1) (by omega) (by omega)
    have e : few (w.take (j + 1)) = few (w.take j) ++ [Int.tmod w[j] 32769] := by
      unfold few; rw [List.take_succ_eq_append_getElem hlt, List.map_append]; rfl
    rw [e] at this
    refine Ev.step (fun k => ?_) this
    simp only [serinettelaw08_WindowApplies.l0]
    rw [if_pos (by omega), if_pos (by omega), if_pos (by simp [few]; omega), rd_at w j hlt, wrap_id (n := Int.tmod w[j] 32769) (by omega) (by omega), wrap_id (n := (j : Int) + 1) (by omega) (by omega)]; rfl
end WindowAppliesAid
open WindowAppliesAid
/-- YOURS -/
theorem WindowApplies : serinettelaw08_WindowApplies.Pure := by
  intro l0 l1 hm h8 hw0 _ _ hw1
  have h : Ev (fun k => serinettelaw08_WindowApplies.f k l0 l1) true := by
    refine Ev.bind awake_is ?_
    have bad : Ev (fun k => serinettelaw08_WindowApplies.j0 k l0 l1 true true) true := Ev.step (f := fun _ => some true) (fun k => by simp only [serinettelaw08_WindowApplies.j0]; rw [if_pos trivial]) (Ev.now _)
    rcases near_is l0 (by omega) with ⟨hn, hN⟩ | hN
    · refine Ev.bind hN ?_
      by_cases c1 : (l0.length : Int) > 100
      · exact Ev.congr (fun k => by rw [if_pos c1]) bad
      · by_cases c2 : (l1.length : Int) > 100
        · exact Ev.congr (fun k => by rw [if_neg c1, if_pos c2]) bad
        · refine Ev.congr (fun k => by rw [if_neg c1, if_neg c2]) (Ev.step (fun k => by simp only [serinettelaw08_WindowApplies.j0]; rw [if_neg (by decide)]; rfl) (fill l0 l1 (by omega) (by omega) hn (fun v hv => u16_bd (hw1 v hv)) l1.length 0 (by omega) (by omega)))
    · refine Ev.bind hN ?_
      by_cases c1 : (l0.length : Int) > 100
      · exact Ev.congr (fun k => by rw [if_pos c1]) bad
      · by_cases c2 : (l1.length : Int) > 100
        · exact Ev.congr (fun k => by rw [if_neg c1, if_pos c2]) bad
        · exact Ev.congr (fun k => by rw [if_neg c1, if_neg c2]; rfl) bad
  exact h.rounds

end Go.Proofs.Ytkhkmeadaljhoaa.Pure
