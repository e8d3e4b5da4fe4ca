-- WRITTEN BY giv.py, a program of this session (wip/giv.py), over the kit's printer: not a printed text
import Derived.Test.YtafnlnmhjgnddaaGChecksBurstsx0
namespace Go.Proofs.Ytafnlnmhjgnddaa.GChecksBursts
open Go.RowKit Go.Proofs.YtafnlnmhjgnddaaW.PrintWords Go.Proofs.YtafnlnmhjgnddaaW.PrintLast Go.Proofs.YtafnlnmhjgnddaaW.PrintMore
attribute [local go_sem] max2_int min2_int max_two min_two max_three min_three max_four min_four   -- for this text's walks alone
set_option linter.unusedVariables false
set_option linter.unusedSimpArgs false

/-! ### serinettelaw04_ChecksBursts: function 6 -/
mutual
def serinettelaw04_ChecksBursts.j0 : Nat → List Int → Int → Int → Bool → Bool → Option (Bool)
  | 0, _, _, _, _, _ => none
  | k + 1, x0, x1, x2, x7, x23 => if x23 = true then (some x7) else ((some (([] : List Int) : List Int)).bind fun y102 => (if y102.length + x0.length < 140737488355328 then ((some (([] : List Int) : List Int)).bind fun y108 => (if y108.length + x0.length < 140737488355328 then (if (wrap64 (8 * (x0.length : Int))) = 0 then (none) else (serinettelaw04_ChecksBursts.l0 k x0 x2 x7 (y102 ++ x0) (y108 ++ x0) (Int.tmod (wrap64 (x1)) (wrap64 (8 * (x0.length : Int)))) false false 0)) else (none))) else (none)))
def serinettelaw04_ChecksBursts.l0 : Nat → List Int → Int → Bool → List Int → List Int → Int → Bool → Bool → Int → Option (Bool)
  | 0, _, _, _, _, _, _, _, _, _ => none
  | k + 1, x0, x2, x7, x8, x9, x10, x11, x12, x13 => if x13 < 16 then (serinettelaw04_ChecksBursts.j2 k x0 x2 x7 x8 x9 x10 x11 x12 x13 (decide ((wrap64 (x10 + x13)) < (wrap64 (8 * (x0.length : Int)))))) else (serinettelaw04_ChecksBursts.j2 k x0 x2 x7 x8 x9 x10 x11 x12 x13 false)
def serinettelaw04_ChecksBursts.j2 : Nat → List Int → Int → Bool → List Int → List Int → Int → Bool → Bool → Int → Bool → Option (Bool)
  | 0, _, _, _, _, _, _, _, _, _, _ => none
  | k + 1, x0, x2, x7, x8, x9, x10, x11, x12, x13, x47 => if x47 = true then (if (Int.tmod x2 2) = 1 then (if 0 ≤ (Int.tmod (wrap64 (x10 + x13)) 8) then (if 0 ≤ (wrap64 (Int.tdiv (wrap64 (x10 + x13)) 8)) then (if (wrap64 (Int.tdiv (wrap64 (x10 + x13)) 8)) < (x9.length : Int) then ((some (x9.set ((wrap64 (Int.tdiv (wrap64 (x10 + x13)) 8)) : Int).toNat (Go.bits .xor .u8 (rd x9 (wrap64 (Int.tdiv (wrap64 (x10 + x13)) 8))) (shr .u8 128 (Int.tmod (wrap64 (x10 + x13)) 8))) : List Int)).bind fun y115 => (if x13 < 8 then (if (wrap64 (Int.tdiv (wrap64 (x10 + x13)) 8)) < (x8.length : Int) then (serinettelaw04_ChecksBursts.l0 k x0 (IntKind.u16.wrap (Int.tdiv x2 2)) x7 (x8.set ((wrap64 (Int.tdiv (wrap64 (x10 + x13)) 8)) : Int).toNat (Go.bits .xor .u8 (rd x8 (wrap64 (Int.tdiv (wrap64 (x10 + x13)) 8))) (shr .u8 128 (Int.tmod (wrap64 (x10 + x13)) 8)))) y115 x10 true true (wrap64 (x13 + 1))) else (none)) else (serinettelaw04_ChecksBursts.l0 k x0 (IntKind.u16.wrap (Int.tdiv x2 2)) x7 x8 y115 x10 x11 true (wrap64 (x13 + 1))))) else (none)) else (none)) else (none)) else (serinettelaw04_ChecksBursts.l0 k x0 (IntKind.u16.wrap (Int.tdiv x2 2)) x7 x8 x9 x10 x11 x12 (wrap64 (x13 + 1)))) else (if x7 = true then ((Given.checks_Eight.f x8).bind fun t118 => ((Given.checks_Eight.f x0).bind fun t119 => (if ((t118 != t119) == x11) = true then ((Given.checks_Sixteen.f x9).bind fun t120 => ((Given.checks_Sixteen.f x0).bind fun t121 => (some ((t120 != t121) == x12)))) else (some false)))) else (some false))
end
def serinettelaw04_ChecksBursts.f (k : Nat) (l0 : List Int) (a1 : Int) (a2 : Int) : Option (Bool) := (Given.awake.f).bind fun t101 => (if (l0.length : Int) = 0 then (serinettelaw04_ChecksBursts.j0 k l0 a1 a2 t101 true) else (serinettelaw04_ChecksBursts.j0 k l0 a1 a2 t101 (decide ((l0.length : Int) > 200))))
theorem serinettelaw04_ChecksBursts.mono_l : ∀ k, (∀ y0 y1 y2 y3 y4, LeO (serinettelaw04_ChecksBursts.j0 k y0 y1 y2 y3 y4) (serinettelaw04_ChecksBursts.j0 (k + 1) y0 y1 y2 y3 y4)) ∧ (∀ y0 y1 y2 y3 y4 y5 y6 y7 y8, LeO (serinettelaw04_ChecksBursts.l0 k y0 y1 y2 y3 y4 y5 y6 y7 y8) (serinettelaw04_ChecksBursts.l0 (k + 1) y0 y1 y2 y3 y4 y5 y6 y7 y8)) ∧ (∀ y0 y1 y2 y3 y4 y5 y6 y7 y8 y9, LeO (serinettelaw04_ChecksBursts.j2 k y0 y1 y2 y3 y4 y5 y6 y7 y8 y9) (serinettelaw04_ChecksBursts.j2 (k + 1) y0 y1 y2 y3 y4 y5 y6 y7 y8 y9))
  | 0 => ⟨fun _ _ _ _ _ r h => by simp [serinettelaw04_ChecksBursts.j0] at h, fun _ _ _ _ _ _ _ _ _ r h => by simp [serinettelaw04_ChecksBursts.l0] at h, fun _ _ _ _ _ _ _ _ _ _ r h => by simp [serinettelaw04_ChecksBursts.j2] at h⟩
  | k + 1 => by
    obtain ⟨ih0, ih1, ih2⟩ := serinettelaw04_ChecksBursts.mono_l k
    refine ⟨?_, ?_, ?_⟩
    · intro y0 y1 y2 y3 y4
      unfold serinettelaw04_ChecksBursts.j0
      repeat' first
      | (with_reducible exact ih0 _ _ _ _ _)
      | (with_reducible exact ih1 _ _ _ _ _ _ _ _ _)
      | (with_reducible exact ih2 _ _ _ _ _ _ _ _ _ _)
      | (with_reducible exact LeO.refl _)
      | (with_reducible exact LeO.none _)
      | (with_reducible refine LeO.ite ?_ ?_)
      | (with_reducible refine LeO.bind ?_ (fun _ => ?_))
      | exact ih0 _ _ _ _ _
      | exact ih1 _ _ _ _ _ _ _ _ _
      | exact ih2 _ _ _ _ _ _ _ _ _ _
      | exact LeO.none _
      | refine LeO.ite ?_ ?_
      | refine LeO.bind ?_ (fun _ => ?_)
    · intro y0 y1 y2 y3 y4 y5 y6 y7 y8
      unfold serinettelaw04_ChecksBursts.l0
      repeat' first
      | (with_reducible exact ih0 _ _ _ _ _)
      | (with_reducible exact ih1 _ _ _ _ _ _ _ _ _)
      | (with_reducible exact ih2 _ _ _ _ _ _ _ _ _ _)
      | (with_reducible exact LeO.refl _)
      | (with_reducible exact LeO.none _)
      | (with_reducible refine LeO.ite ?_ ?_)
      | (with_reducible refine LeO.bind ?_ (fun _ => ?_))
      | exact ih0 _ _ _ _ _
      | exact ih1 _ _ _ _ _ _ _ _ _
      | exact ih2 _ _ _ _ _ _ _ _ _ _
      | exact LeO.none _
      | refine LeO.ite ?_ ?_
      | refine LeO.bind ?_ (fun _ => ?_)
    · intro y0 y1 y2 y3 y4 y5 y6 y7 y8 y9
      unfold serinettelaw04_ChecksBursts.j2
      repeat' first
      | (with_reducible exact ih0 _ _ _ _ _)
      | (with_reducible exact ih1 _ _ _ _ _ _ _ _ _)
      | (with_reducible exact ih2 _ _ _ _ _ _ _ _ _ _)
      | (with_reducible exact LeO.refl _)
      | (with_reducible exact LeO.none _)
      | (with_reducible refine LeO.ite ?_ ?_)
      | (with_reducible refine LeO.bind ?_ (fun _ => ?_))
      | exact ih0 _ _ _ _ _
      | exact ih1 _ _ _ _ _ _ _ _ _
      | exact ih2 _ _ _ _ _ _ _ _ _ _
      | exact LeO.none _
      | refine LeO.ite ?_ ?_
      | refine LeO.bind ?_ (fun _ => ?_)
theorem serinettelaw04_ChecksBursts.mono : ∀ a0 a1 a2 k, LeO (serinettelaw04_ChecksBursts.f k a0 a1 a2) (serinettelaw04_ChecksBursts.f (k + 1) a0 a1 a2) := by
  intro a0 a1 a2 k
  obtain ⟨ih0, ih1, ih2⟩ := serinettelaw04_ChecksBursts.mono_l k
  unfold serinettelaw04_ChecksBursts.f
  repeat' first
      | (with_reducible exact ih0 _ _ _ _ _)
      | (with_reducible exact ih1 _ _ _ _ _ _ _ _ _)
      | (with_reducible exact ih2 _ _ _ _ _ _ _ _ _ _)
      | (with_reducible exact LeO.refl _)
      | (with_reducible exact LeO.none _)
      | (with_reducible refine LeO.ite ?_ ?_)
      | (with_reducible refine LeO.bind ?_ (fun _ => ?_))
      | exact ih0 _ _ _ _ _
      | exact ih1 _ _ _ _ _ _ _ _ _
      | exact ih2 _ _ _ _ _ _ _ _ _ _
      | exact LeO.none _
      | refine LeO.ite ?_ ?_
      | refine LeO.bind ?_ (fun _ => ?_)
set_option maxHeartbeats 8000000 in
set_option maxRecDepth 100000 in
theorem serinettelaw04_ChecksBursts.calls (k : Nat) (A0 : Option Addr) (c0 : Nat) (l0 : List Int) (a1 : Int) (a2 : Int) (r : Bool) (w : World) (hr0 : Kd.C (Kd.int .u8) w A0 l0.length l0) (hc0 : l0.length ≤ c0) (h : serinettelaw04_ChecksBursts.f k l0 a1 a2 = some r) :
    Calls Try.prog 6 #[.slice A0 l0.length c0, .int .u16 a1, .int .u16 a2] w fun e w' => e = .returned (.bool r) ∧ Below w.heap.size w w' := by
  have HR0 := Aside0.mk hr0
  have HC0 := Aside0.mk hc0
  clear hr0 hc0
  have HB := Aside0.mk (Below.refl w.heap.size w)
  have H : ((Given.awake.f).bind fun t101 => (if (l0.length : Int) = 0 then (serinettelaw04_ChecksBursts.j0 k l0 a1 a2 t101 true) else (serinettelaw04_ChecksBursts.j0 k l0 a1 a2 t101 (decide ((l0.length : Int) > 200))))) = some r := h
  clear h
  replace H := Option.bind_eq_some_iff.mp H
  obtain ⟨t101, A40, H⟩ := H
  replace H : (if (l0.length : Int) = 0 then (serinettelaw04_ChecksBursts.j0 k l0 a1 a2 t101 true) else (serinettelaw04_ChecksBursts.j0 k l0 a1 a2 t101 (decide ((l0.length : Int) > 200)))) = some r := H
  have A4 := Aside0.mk A40
  clear A40
  have HC5 := Aside0.mk H
  clear H
  go_enter Try.func6, Try.ntmps6
  go_upto_region 2 with (first | ((with_reducible refine gate_callee (f := 9) rfl ?_); refine goesL_ (some 15) rfl rfl Try.func9 (by kernel_rfl) rfl #[] rfl (by (try simp only [List.map_toArray, List.map_cons, List.map_nil]); first | done | rfl | (simp only [List.length_drop, List.length_take]; rfl)) ?_; (with_reducible refine (Given.awake.calls  t101 _ A4.out).mono ?_); rintro e w6 ⟨rfl, hb⟩; refine ⟨_, rfl, ?_⟩; have n0_ := Aside0.mk (below_step (by repeat (first | (with_reducible first | exact HB.out | apply below_alloc | apply pw_below_drewN | apply below_drew1) | exact HB.out)) hb); clear HB; have HB := n0_; clear n0_; (try clear hb); (try clear hb2); (try clear hk); (try clear hi)))
  (try simp only [Act.put, List.setIfInBounds_toArray, List.set_cons_zero, List.set_cons_succ])
  go_cut [23] (fun v23 wc => ∃ (kq : Nat) (x23_4 : Bool), v23 = .bool x23_4 ∧ Aside0 (serinettelaw04_ChecksBursts.j0 kq l0 a1 a2 t101 x23_4 = some r) ∧ Aside0 (kq ≤ k) ∧ Aside0 (Below w.heap.size w wc))
  case first =>
    have H := HC5.out
    clear HC5
    by_cases c7 : (l0.length : Int) = 0
    · rw [if_pos c7] at H
      have c7b0 : ((l0.length : Int) == 0) = true := beq_iff_eq.mpr c7
      have c7b1 : ((l0.length : Int) != 0) = false := bne_eq_false_iff_eq.mpr c7
      clear c7
      (first | rw [c7b0] | (simp only [i64_w, i32_w]; rw [c7b0]) | skip)
      have H' := Aside0.mk H
      clear H
      go_wp2
      go_meet
      case rel => exact ⟨_, (true), (by first | rfl | (simp; done) | (simp [*]; done)), H', ⟨by first | omega | exact Nat.le_refl _⟩, ⟨by repeat (first | (with_reducible first | exact HB.out | apply below_alloc | apply pw_below_drewN | apply below_drew1) | exact HB.out)⟩⟩
    · rw [if_neg c7] at H
      have c7b0 : ((l0.length : Int) == 0) = false := beq_eq_false_iff_ne.mpr c7
      have c7b1 : ((l0.length : Int) != 0) = true := bne_iff_ne.mpr c7
      have c7b2 : ¬ (l0 = []) := fun h_ => c7 (by rw [h_]; rfl)
      (first | rw [c7b0] | (simp only [i64_w, i32_w]; rw [c7b0]) | skip)
      have H' := Aside0.mk H
      clear H
      go_wp2
      go_meet
      case rel => exact ⟨_, (decide ((l0.length : Int) > 200)), (by first | rfl | (simp; done) | (simp [*]; done)), H', ⟨by first | omega | exact Nat.le_refl _⟩, ⟨by repeat (first | (with_reducible first | exact HB.out | apply below_alloc | apply pw_below_drewN | apply below_drew1) | exact HB.out)⟩⟩
  case rest =>
    clear HC5
    try clear p2
    try clear c6
    try clear c7
    try clear c7b0
    try clear c7b1
    try clear c7b2
    obtain ⟨kq, x23_4, rfl, HA, HJ4, HB⟩ := hcut
    cases kq with
    | zero => exact absurd HA.out (by simp [serinettelaw04_ChecksBursts.j0])
    | succ kj4 =>
      have H := HA.out
      clear HA
      simp only [serinettelaw04_ChecksBursts.j0] at H
      by_cases c8 : x23_4 = true
      · subst c8
        have H1 : (some t101) = some r := by rw [if_pos rfl] at H; exact H
        clear H
        have H := H1
        clear H1
        obtain rfl := Option.some.inj H
        go_wp2
        go_ret
        exact ⟨by first | rfl | (simp [errW_none, errW_some] <;> rfl) | (simp [*, errW_none, errW_some] <;> rfl), by repeat (first | (with_reducible first | exact HB.out | apply below_alloc | apply pw_below_drewN | apply below_drew1) | exact HB.out)⟩
      · replace c8 := Bool.eq_false_iff.mpr c8
        subst c8
        have H1 : ((some (([] : List Int) : List Int)).bind fun y102 => (if y102.length + l0.length < 140737488355328 then ((some (([] : List Int) : List Int)).bind fun y108 => (if y108.length + l0.length < 140737488355328 then (if (wrap64 (8 * (l0.length : Int))) = 0 then (none) else (serinettelaw04_ChecksBursts.l0 kj4 l0 a2 t101 (y102 ++ l0) (y108 ++ l0) (Int.tmod (wrap64 (a1)) (wrap64 (8 * (l0.length : Int)))) false false 0)) else (none))) else (none))) = some r := by rw [if_neg (show ¬ (false = true) by decide)] at H; exact H
        clear H
        have H := H1
        clear H1
        obtain ⟨y102, hy102⟩ : ∃ y_ : List Int, y_ = (([] : List Int)) := ⟨_, rfl⟩
        replace H : (if y102.length + l0.length < 140737488355328 then ((some (([] : List Int) : List Int)).bind fun y108 => (if y108.length + l0.length < 140737488355328 then (if (wrap64 (8 * (l0.length : Int))) = 0 then (none) else (serinettelaw04_ChecksBursts.l0 kj4 l0 a2 t101 (y102 ++ l0) (y108 ++ l0) (Int.tmod (wrap64 (a1)) (wrap64 (8 * (l0.length : Int)))) false false 0)) else (none))) else (none)) = some r := by first | (rw [hy102]; with_reducible exact H) | (have H2_ := (Option.bind_some _ _).symm.trans H; rw [hy102]; with_reducible exact H2_) | (have H2_ := (Option.bind_some _ _).symm.trans H; with_reducible exact H2_) | with_reducible exact H | (rw [hy102]; exact H) | exact H
        have Ny102 := Aside0.mk hy102
        clear hy102
        by_cases c9 : y102.length + l0.length < 140737488355328
        · rw [if_pos c9] at H
          have LMc9 := Aside0.mk c9
          clear c9
          obtain ⟨y105, hy105⟩ : ∃ y_ : List Int, y_ = (y102 ++ l0) := ⟨_, rfl⟩
          replace H : ((some (([] : List Int) : List Int)).bind fun y108 => (if y108.length + l0.length < 140737488355328 then (if (wrap64 (8 * (l0.length : Int))) = 0 then (none) else (serinettelaw04_ChecksBursts.l0 kj4 l0 a2 t101 y105 (y108 ++ l0) (Int.tmod (wrap64 (a1)) (wrap64 (8 * (l0.length : Int)))) false false 0)) else (none))) = some r := by first | (rw [hy105]; with_reducible exact H) | (have H2_ := (Option.bind_some _ _).symm.trans H; rw [hy105]; with_reducible exact H2_) | (have H2_ := (Option.bind_some _ _).symm.trans H; with_reducible exact H2_) | with_reducible exact H | (rw [hy105]; exact H) | exact H
          have Ny105 := Aside0.mk hy105
          clear hy105
          obtain ⟨y108, hy108⟩ : ∃ y_ : List Int, y_ = (([] : List Int)) := ⟨_, rfl⟩
          replace H : (if y108.length + l0.length < 140737488355328 then (if (wrap64 (8 * (l0.length : Int))) = 0 then (none) else (serinettelaw04_ChecksBursts.l0 kj4 l0 a2 t101 y105 (y108 ++ l0) (Int.tmod (wrap64 (a1)) (wrap64 (8 * (l0.length : Int)))) false false 0)) else (none)) = some r := by first | (rw [hy108]; with_reducible exact H) | (have H2_ := (Option.bind_some _ _).symm.trans H; rw [hy108]; with_reducible exact H2_) | (have H2_ := (Option.bind_some _ _).symm.trans H; with_reducible exact H2_) | with_reducible exact H | (rw [hy108]; exact H) | exact H
          have Ny108 := Aside0.mk hy108
          clear hy108
          by_cases c10 : y108.length + l0.length < 140737488355328
          · rw [if_pos c10] at H
            have LMc10 := Aside0.mk c10
            clear c10
            obtain ⟨y111, hy111⟩ : ∃ y_ : List Int, y_ = (y108 ++ l0) := ⟨_, rfl⟩
            replace H : (if (wrap64 (8 * (l0.length : Int))) = 0 then (none) else (serinettelaw04_ChecksBursts.l0 kj4 l0 a2 t101 y105 y111 (Int.tmod (wrap64 (a1)) (wrap64 (8 * (l0.length : Int)))) false false 0)) = some r := by first | (rw [hy111]; with_reducible exact H) | (have H2_ := (Option.bind_some _ _).symm.trans H; rw [hy111]; with_reducible exact H2_) | (have H2_ := (Option.bind_some _ _).symm.trans H; with_reducible exact H2_) | with_reducible exact H | (rw [hy111]; exact H) | exact H
            have Ny111 := Aside0.mk hy111
            clear hy111
            by_cases c11 : (wrap64 (8 * (l0.length : Int))) = 0
            · rw [if_pos c11] at H
              exact absurd H (by simp)
            · rw [if_neg c11] at H
              have c11b0 : ((wrap64 (8 * (l0.length : Int))) == 0) = false := beq_eq_false_iff_ne.mpr c11
              have c11b1 : ((wrap64 (8 * (l0.length : Int))) != 0) = true := bne_iff_ne.mpr c11
              have H' := Aside0.mk H
              clear H
              go_wp2_with (first | ((with_reducible refine gate_dst (N := 25) rfl ?_); (try (refine gate_guard (by rfl) ?_; dsimp only)); refine Kd.R_lit (Kd.int .u8) _ 5 ?hg (N := 25) ?hd (xs := ([] : List Int)) (inner := []) (ok := fun _ => True) (okp := fun _ => True) ?hr ?hp (fun _ hk => hk) trivial (Below.refl _ _) (Nat.le_refl _) (by simp) ?_; (case hd => rfl); (case hg => rfl); (case hr => first | (go_simp; done) | (go_simp; rfl)); (case hp => exact (Reps.none _ _)); intro v103 w12 ho13 hb hg_ hnew_; clear hg_ hnew_; (first | rw [← Ny102.out] at ho13 | (simp only [Int.reduceToNat] at ho13; rw [← Ny102.out] at ho13)); have n0_ := Aside0.mk (Kd.R_lower ho13 (below_size (by repeat (first | (with_reducible first | exact HB.out | apply below_alloc | apply pw_below_drewN | apply below_drew1) | exact HB.out)))); have n1_ := Aside0.mk (below_step (by repeat (first | (with_reducible first | exact HB.out | apply below_alloc | apply pw_below_drewN | apply below_drew1) | exact HB.out)) hb); clear HB; have HO104 := n0_; have HB := n1_; clear n0_ n1_; clear hb ho13) | ((with_reducible refine gate_builtin (b := .append) (xs := #[.tmp 25, .tmp 26]) rfl ?_); (try (refine gate_guard (by rfl) ?_; dsimp only)); at_builtin; refine Kd.R_append_rows (Kd.int .u8) (w0 := w) w.heap.size rfl (.tmp 25) (.tmp 26) 22 5 (.int .u8 0) 1 rfl Try.underlying22 info5 rfl (by decide) (by omega) v103 y102 l0 _ _ _ (fun _ => True) (fun _ => False) rfl rfl ?aO ?aR (fun _ _ h => h) (fun _ h => h.elim) ?aF ?aB ?aS ?aL ?_; (case aR => repeat (first | exact (Kd.C_below HR0.out HB.out) | (with_reducible refine Kd.C_alloc ?_ _) | (with_reducible refine Kd.C_drewN ?_ _) | (with_reducible refine Kd.C_drew ?_))); (case aB => exact (by repeat (first | (with_reducible first | exact HB.out | apply below_alloc | apply pw_below_drewN | apply below_drew1) | exact HB.out))); (case aF => exact (fun _ _ => trivial)); (case aO => exact (by (with_reducible repeat (first | apply Kd.R_alloc | apply Kd.R_drewN | apply Kd.R_drew)); exact HO104.out)); (case aS => exact (below_size (by repeat (first | (with_reducible first | exact HB.out | apply below_alloc | apply pw_below_drewN | apply below_drew1) | exact HB.out)))); (case aL => have := LMc9.out; omega); intro v106 w14 ho hb hg hat; rw [← Ny105.out] at ho; have n0_ := Aside0.mk (hb); have n1_ := Aside0.mk (ho); clear HB; clear HO104; have HB := n0_; have HO107 := n1_; clear n0_ n1_; clear ho hb hg hat) | ((with_reducible refine gate_dst (N := 28) rfl ?_); (try (refine gate_guard (by rfl) ?_; dsimp only)); refine Kd.R_lit (Kd.int .u8) _ 5 ?hg (N := 28) ?hd (xs := ([] : List Int)) (inner := []) (ok := fun _ => True) (okp := fun _ => True) ?hr ?hp (fun _ hk => hk) trivial (Below.refl _ _) (Nat.le_refl _) (by simp) ?_; (case hd => rfl); (case hg => rfl); (case hr => first | (go_simp; done) | (go_simp; rfl)); (case hp => exact (Reps.none _ _)); intro v109 w15 ho16 hb hg_ hnew_; clear hg_ hnew_; (first | rw [← Ny108.out] at ho16 | (simp only [Int.reduceToNat] at ho16; rw [← Ny108.out] at ho16)); have n0_ := Aside0.mk (Kd.R_elder' (by (with_reducible repeat (first | apply Kd.R_alloc | apply Kd.R_drewN | apply Kd.R_drew)); exact HO107.out) (Kd.R_base ho16) hb); have n1_ := Aside0.mk (Kd.R_lower (Kd.R_new' ho16 (Kd.R_lt (by (with_reducible repeat (first | apply Kd.R_alloc | apply Kd.R_drewN | apply Kd.R_drew)); exact HO107.out))) (below_size (by repeat (first | (with_reducible first | exact HB.out | apply below_alloc | apply pw_below_drewN | apply below_drew1) | exact HB.out)))); have n2_ := Aside0.mk (below_step (by repeat (first | (with_reducible first | exact HB.out | apply below_alloc | apply pw_below_drewN | apply below_drew1) | exact HB.out)) hb); clear HO107; clear HB; have HO107 := n0_; have HO110 := n1_; have HB := n2_; clear n0_ n1_ n2_; clear hb ho16) | ((with_reducible refine gate_builtin (b := .append) (xs := #[.tmp 28, .tmp 29]) rfl ?_); (try (refine gate_guard (by rfl) ?_; dsimp only)); at_builtin; refine Kd.R_append_rows (Kd.int .u8) (w0 := w) w.heap.size rfl (.tmp 28) (.tmp 29) 22 5 (.int .u8 0) 1 rfl Try.underlying22 info5 rfl (by decide) (by omega) v109 y108 l0 _ _ _ (fun k_ => some k_ ≠ (v106 : Value).ownBlock) (fun _ => False) rfl rfl ?aO ?aR (fun _ _ h => h) (fun _ h => h.elim) ?aF ?aB ?aS ?aL ?_; (case aR => repeat (first | exact (Kd.C_below HR0.out HB.out) | (with_reducible refine Kd.C_alloc ?_ _) | (with_reducible refine Kd.C_drewN ?_ _) | (with_reducible refine Kd.C_drew ?_))); (case aB => exact (by repeat (first | (with_reducible first | exact HB.out | apply below_alloc | apply pw_below_drewN | apply below_drew1) | exact HB.out))); (case aF => exact (fun k_ hk => Kd.fresh' (Kd.R_lt (by (with_reducible repeat (first | apply Kd.R_alloc | apply Kd.R_drewN | apply Kd.R_drew)); exact HO107.out)) k_ hk)); (case aO => exact (by (with_reducible repeat (first | apply Kd.R_alloc | apply Kd.R_drewN | apply Kd.R_drew)); exact Kd.R_mono HO110.out (fun _ hk => hk.2))); (case aS => exact (below_size (by repeat (first | (with_reducible first | exact HB.out | apply below_alloc | apply pw_below_drewN | apply below_drew1) | exact HB.out)))); (case aL => have := LMc10.out; omega); intro v112 w17 ho hb hg hat; rw [← Ny111.out] at ho; have n0_ := Aside0.mk (Kd.R_after (ok := (fun _ => True)) (by (with_reducible repeat (first | apply Kd.R_alloc | apply Kd.R_drewN | apply Kd.R_drew)); exact HO107.out) hg hat); have n1_ := Aside0.mk (hb); have n2_ := Aside0.mk (ho); clear HO107; clear HB; clear HO110; have HO107 := n0_; have HB := n1_; have HO113 := n2_; clear n0_ n1_ n2_; clear ho hb hg hat))
              go_loopg [2, 11, 12, 13] kj4 (fun kq v2 v11 v12 v13 w' => ∃ (x2_2 : Int) (x8_2 : List Int) (x9_2 : List Int) (x11_2 : Bool) (x12_2 : Bool) (x13_2 : Int), v2 = .int .u16 x2_2 ∧ v11 = .bool x11_2 ∧ v12 = .bool x12_2 ∧ v13 = .int .i64 x13_2 ∧ Aside0 (serinettelaw04_ChecksBursts.l0 kq l0 x2_2 t101 x8_2 x9_2 (Int.tmod (wrap64 (a1)) (wrap64 (8 * (l0.length : Int)))) x11_2 x12_2 x13_2 = some r) ∧ Aside0 (kq ≤ kj4) ∧ Aside0 (Kd.R (Kd.int .u8) 5 w' w.heap.size (fun k_ => some k_ ≠ (v112 : Value).ownBlock) v106 x8_2) ∧ Aside0 (Kd.R (Kd.int .u8) 5 w' w.heap.size (fun k_ => some k_ ≠ (v106 : Value).ownBlock) v112 x9_2) ∧ Aside0 (Below w.heap.size w w'))
              case atStart => exact ⟨(a2), (y105), (y111), (false), (false), (0), (by first | rfl | (simp; done) | (simp [*]; done)), (by first | rfl | (simp; done) | (simp [*]; done)), (by first | rfl | (simp; done) | (simp [*]; done)), (by first | rfl | (simp; done) | (simp [*]; done)), H', ⟨Nat.le_refl _⟩, ⟨by (with_reducible repeat (first | apply Kd.R_alloc | apply Kd.R_drewN | apply Kd.R_drew)); exact Kd.R_mono HO107.out (fun _ hk => hk.2)⟩, ⟨by (with_reducible repeat (first | apply Kd.R_alloc | apply Kd.R_drewN | apply Kd.R_drew)); exact HO113.out⟩, ⟨by repeat (first | (with_reducible first | exact HB.out | apply below_alloc | apply pw_below_drewN | apply below_drew1) | exact HB.out)⟩⟩
              case round =>
                clear H'
                try clear c1
                try clear p2
                try clear c6
                try clear p6
                try clear c7
                try clear c7b0
                try clear c7b1
                try clear c7b2
                try clear c8
                try clear c9
                try clear c10
                try clear c11
                try clear c11b0
                try clear c11b1
                try clear p2
                obtain ⟨x2_2, x8_2, x9_2, x11_2, x12_2, x13_2, rfl, rfl, rfl, rfl, HA, HK2, HO_8, HO_9, HB⟩ := hrel
                cases gk with
                | zero => exact absurd HA.out (by simp [serinettelaw04_ChecksBursts.l0])
                | succ k2 =>
                  have H := HA.out
                  clear HA
                  simp only [serinettelaw04_ChecksBursts.l0] at H
                  have HC18 := Aside0.mk H
                  clear H
                  go_upto_region 10 with (fail)
                  go_cut [47] (fun v47 wc => ∃ (kq : Nat) (x47_17 : Bool), v47 = .bool x47_17 ∧ Aside0 (serinettelaw04_ChecksBursts.j2 kq l0 x2_2 t101 x8_2 x9_2 (Int.tmod (wrap64 (a1)) (wrap64 (8 * (l0.length : Int)))) x11_2 x12_2 x13_2 x47_17 = some r) ∧ Aside0 (kq ≤ k2) ∧ Aside0 (Kd.R (Kd.int .u8) 5 wc w.heap.size (fun k_ => some k_ ≠ (v112 : Value).ownBlock) v106 x8_2) ∧ Aside0 (Kd.R (Kd.int .u8) 5 wc w.heap.size (fun k_ => some k_ ≠ (v106 : Value).ownBlock) v112 x9_2) ∧ Aside0 (Below w.heap.size w wc))
                  case first =>
                    have H := HC18.out
                    clear HC18
                    by_cases c19 : x13_2 < 16
                    · rw [if_pos c19] at H
                      have c19b0 : decide (x13_2 < 16) = true := decide_eq_true c19
                      clear c19
                      (first | rw [c19b0] | (simp only [i64_w, i32_w]; rw [c19b0]) | skip)
                      have H' := Aside0.mk H
                      clear H
                      go_wp2
                      go_meet
                      case rel => exact ⟨_, (decide ((wrap64 ((Int.tmod (wrap64 (a1)) (wrap64 (8 * (l0.length : Int)))) + x13_2)) < (wrap64 (8 * (l0.length : Int))))), (by first | rfl | (simp; done) | (simp [*]; done)), H', ⟨by have := HJ4.out; have := HK2.out; first | omega | exact Nat.le_refl _⟩, ⟨by (with_reducible repeat (first | apply Kd.R_alloc | apply Kd.R_drewN | apply Kd.R_drew)); exact HO_8.out⟩, ⟨by (with_reducible repeat (first | apply Kd.R_alloc | apply Kd.R_drewN | apply Kd.R_drew)); exact HO_9.out⟩, ⟨by repeat (first | (with_reducible first | exact HB.out | apply below_alloc | apply pw_below_drewN | apply below_drew1) | exact HB.out)⟩⟩
                    · rw [if_neg c19] at H
                      have c19b0 : decide (x13_2 < 16) = false := decide_eq_false c19
                      clear c19
                      (first | rw [c19b0] | (simp only [i64_w, i32_w]; rw [c19b0]) | skip)
                      have H' := Aside0.mk H
                      clear H
                      go_wp2
                      go_meet
                      case rel => exact ⟨_, (false), (by first | rfl | (simp; done) | (simp [*]; done)), H', ⟨by have := HJ4.out; have := HK2.out; first | omega | exact Nat.le_refl _⟩, ⟨by (with_reducible repeat (first | apply Kd.R_alloc | apply Kd.R_drewN | apply Kd.R_drew)); exact HO_8.out⟩, ⟨by (with_reducible repeat (first | apply Kd.R_alloc | apply Kd.R_drewN | apply Kd.R_drew)); exact HO_9.out⟩, ⟨by repeat (first | (with_reducible first | exact HB.out | apply below_alloc | apply pw_below_drewN | apply below_drew1) | exact HB.out)⟩⟩
                  case rest =>
                    clear HC18
                    try clear c1
                    try clear p2
                    try clear c6
                    try clear p6
                    try clear c7
                    try clear c7b0
                    try clear c7b1
                    try clear c7b2
                    try clear c8
                    try clear c9
                    try clear c10
                    try clear c11
                    try clear c11b0
                    try clear c11b1
                    try clear c19
                    try clear c19b0
                    try clear p2
                    try clear p6
                    obtain ⟨kq, x47_17, rfl, HA, HJ17, HO_8, HO_9, HB⟩ := hcut
                    cases kq with
                    | zero => exact absurd HA.out (by simp [serinettelaw04_ChecksBursts.j2])
                    | succ kj17 =>
                      have H := HA.out
                      clear HA
                      simp only [serinettelaw04_ChecksBursts.j2] at H
                      by_cases c20 : x47_17 = true
                      · subst c20
                        have H1 : (if (Int.tmod x2_2 2) = 1 then (if 0 ≤ (Int.tmod (wrap64 ((Int.tmod (wrap64 (a1)) (wrap64 (8 * (l0.length : Int)))) + x13_2)) 8) then (if 0 ≤ (wrap64 (Int.tdiv (wrap64 ((Int.tmod (wrap64 (a1)) (wrap64 (8 * (l0.length : Int)))) + x13_2)) 8)) then (if (wrap64 (Int.tdiv (wrap64 ((Int.tmod (wrap64 (a1)) (wrap64 (8 * (l0.length : Int)))) + x13_2)) 8)) < (x9_2.length : Int) then ((some (x9_2.set ((wrap64 (Int.tdiv (wrap64 ((Int.tmod (wrap64 (a1)) (wrap64 (8 * (l0.length : Int)))) + x13_2)) 8)) : Int).toNat (Go.bits .xor .u8 (rd x9_2 (wrap64 (Int.tdiv (wrap64 ((Int.tmod (wrap64 (a1)) (wrap64 (8 * (l0.length : Int)))) + x13_2)) 8))) (shr .u8 128 (Int.tmod (wrap64 ((Int.tmod (wrap64 (a1)) (wrap64 (8 * (l0.length : Int)))) + x13_2)) 8))) : List Int)).bind fun y115 => (if x13_2 < 8 then (if (wrap64 (Int.tdiv (wrap64 ((Int.tmod (wrap64 (a1)) (wrap64 (8 * (l0.length : Int)))) + x13_2)) 8)) < (x8_2.length : Int) then (serinettelaw04_ChecksBursts.l0 kj17 l0 (IntKind.u16.wrap (Int.tdiv x2_2 2)) t101 (x8_2.set ((wrap64 (Int.tdiv (wrap64 ((Int.tmod (wrap64 (a1)) (wrap64 (8 * (l0.length : Int)))) + x13_2)) 8)) : Int).toNat (Go.bits .xor .u8 (rd x8_2 (wrap64 (Int.tdiv (wrap64 ((Int.tmod (wrap64 (a1)) (wrap64 (8 * (l0.length : Int)))) + x13_2)) 8))) (shr .u8 128 (Int.tmod (wrap64 ((Int.tmod (wrap64 (a1)) (wrap64 (8 * (l0.length : Int)))) + x13_2)) 8)))) y115 (Int.tmod (wrap64 (a1)) (wrap64 (8 * (l0.length : Int)))) true true (wrap64 (x13_2 + 1))) else (none)) else (serinettelaw04_ChecksBursts.l0 kj17 l0 (IntKind.u16.wrap (Int.tdiv x2_2 2)) t101 x8_2 y115 (Int.tmod (wrap64 (a1)) (wrap64 (8 * (l0.length : Int)))) x11_2 true (wrap64 (x13_2 + 1))))) else (none)) else (none)) else (none)) else (serinettelaw04_ChecksBursts.l0 kj17 l0 (IntKind.u16.wrap (Int.tdiv x2_2 2)) t101 x8_2 x9_2 (Int.tmod (wrap64 (a1)) (wrap64 (8 * (l0.length : Int)))) x11_2 x12_2 (wrap64 (x13_2 + 1)))) = some r := by rw [if_pos rfl] at H; exact H
                        clear H
                        have H := H1
                        clear H1
                        by_cases c21 : (Int.tmod x2_2 2) = 1
                        · rw [if_pos c21] at H
                          have c21b0 : ((Int.tmod x2_2 2) == 1) = true := beq_iff_eq.mpr c21
                          have c21b1 : ((Int.tmod x2_2 2) != 1) = false := bne_eq_false_iff_eq.mpr c21
                          clear c21
                          obtain ⟨ji22, hji22⟩ : ∃ j_ : Int, (Int.tmod (wrap64 ((Int.tmod (wrap64 (a1)) (wrap64 (8 * (l0.length : Int)))) + x13_2)) 8) = j_ := ⟨_, rfl⟩
                          replace H : (if 0 ≤ (ji22) then (if 0 ≤ (wrap64 (Int.tdiv (wrap64 ((Int.tmod (wrap64 (a1)) (wrap64 (8 * (l0.length : Int)))) + x13_2)) 8)) then (if (wrap64 (Int.tdiv (wrap64 ((Int.tmod (wrap64 (a1)) (wrap64 (8 * (l0.length : Int)))) + x13_2)) 8)) < (x9_2.length : Int) then ((some (x9_2.set ((wrap64 (Int.tdiv (wrap64 ((Int.tmod (wrap64 (a1)) (wrap64 (8 * (l0.length : Int)))) + x13_2)) 8)) : Int).toNat (Go.bits .xor .u8 (rd x9_2 (wrap64 (Int.tdiv (wrap64 ((Int.tmod (wrap64 (a1)) (wrap64 (8 * (l0.length : Int)))) + x13_2)) 8))) (shr .u8 128 (ji22))) : List Int)).bind fun y115 => (if x13_2 < 8 then (if (wrap64 (Int.tdiv (wrap64 ((Int.tmod (wrap64 (a1)) (wrap64 (8 * (l0.length : Int)))) + x13_2)) 8)) < (x8_2.length : Int) then (serinettelaw04_ChecksBursts.l0 kj17 l0 (IntKind.u16.wrap (Int.tdiv x2_2 2)) t101 (x8_2.set ((wrap64 (Int.tdiv (wrap64 ((Int.tmod (wrap64 (a1)) (wrap64 (8 * (l0.length : Int)))) + x13_2)) 8)) : Int).toNat (Go.bits .xor .u8 (rd x8_2 (wrap64 (Int.tdiv (wrap64 ((Int.tmod (wrap64 (a1)) (wrap64 (8 * (l0.length : Int)))) + x13_2)) 8))) (shr .u8 128 (ji22)))) y115 (Int.tmod (wrap64 (a1)) (wrap64 (8 * (l0.length : Int)))) true true (wrap64 (x13_2 + 1))) else (none)) else (serinettelaw04_ChecksBursts.l0 kj17 l0 (IntKind.u16.wrap (Int.tdiv x2_2 2)) t101 x8_2 y115 (Int.tmod (wrap64 (a1)) (wrap64 (8 * (l0.length : Int)))) x11_2 true (wrap64 (x13_2 + 1))))) else (none)) else (none)) else (none)) = some r := by first | (rw [hji22] at H; exact H) | (simp only [hji22] at H ⊢; exact H)
                          by_cases c23 : 0 ≤ (ji22)
                          · rw [if_pos c23] at H
                            have c23b0 := eq_true c23
                            have c23b1 : decide (0 ≤ (ji22)) = true := decide_eq_true c23
                            clear c23
                            obtain ⟨ji24, hji24⟩ : ∃ j_ : Int, (shr .u8 128 (ji22)) = j_ := ⟨_, rfl⟩
                            replace H : (if 0 ≤ (wrap64 (Int.tdiv (wrap64 ((Int.tmod (wrap64 (a1)) (wrap64 (8 * (l0.length : Int)))) + x13_2)) 8)) then (if (wrap64 (Int.tdiv (wrap64 ((Int.tmod (wrap64 (a1)) (wrap64 (8 * (l0.length : Int)))) + x13_2)) 8)) < (x9_2.length : Int) then ((some (x9_2.set ((wrap64 (Int.tdiv (wrap64 ((Int.tmod (wrap64 (a1)) (wrap64 (8 * (l0.length : Int)))) + x13_2)) 8)) : Int).toNat (Go.bits .xor .u8 (rd x9_2 (wrap64 (Int.tdiv (wrap64 ((Int.tmod (wrap64 (a1)) (wrap64 (8 * (l0.length : Int)))) + x13_2)) 8))) (ji24)) : List Int)).bind fun y115 => (if x13_2 < 8 then (if (wrap64 (Int.tdiv (wrap64 ((Int.tmod (wrap64 (a1)) (wrap64 (8 * (l0.length : Int)))) + x13_2)) 8)) < (x8_2.length : Int) then (serinettelaw04_ChecksBursts.l0 kj17 l0 (IntKind.u16.wrap (Int.tdiv x2_2 2)) t101 (x8_2.set ((wrap64 (Int.tdiv (wrap64 ((Int.tmod (wrap64 (a1)) (wrap64 (8 * (l0.length : Int)))) + x13_2)) 8)) : Int).toNat (Go.bits .xor .u8 (rd x8_2 (wrap64 (Int.tdiv (wrap64 ((Int.tmod (wrap64 (a1)) (wrap64 (8 * (l0.length : Int)))) + x13_2)) 8))) (ji24))) y115 (Int.tmod (wrap64 (a1)) (wrap64 (8 * (l0.length : Int)))) true true (wrap64 (x13_2 + 1))) else (none)) else (serinettelaw04_ChecksBursts.l0 kj17 l0 (IntKind.u16.wrap (Int.tdiv x2_2 2)) t101 x8_2 y115 (Int.tmod (wrap64 (a1)) (wrap64 (8 * (l0.length : Int)))) x11_2 true (wrap64 (x13_2 + 1))))) else (none)) else (none)) = some r := by first | (rw [hji24] at H; exact H) | (simp only [hji24] at H ⊢; exact H)
                            have hji24_ : (128 / 2 ^ min (ji22).toNat 8) = ji24 := hji24
                            have hji24z : (ji22) ≤ 8 → (128 / 2 ^ (ji22).toNat) = ji24 := shr_small hji24
                            obtain ⟨ji25, hji25⟩ : ∃ j_ : Int, (wrap64 (Int.tdiv (wrap64 ((Int.tmod (wrap64 (a1)) (wrap64 (8 * (l0.length : Int)))) + x13_2)) 8)) = j_ := ⟨_, rfl⟩
                            replace H : (if 0 ≤ (ji25) then (if (ji25) < (x9_2.length : Int) then ((some (x9_2.set ((ji25) : Int).toNat (Go.bits .xor .u8 (rd x9_2 (ji25)) (ji24)) : List Int)).bind fun y115 => (if x13_2 < 8 then (if (ji25) < (x8_2.length : Int) then (serinettelaw04_ChecksBursts.l0 kj17 l0 (IntKind.u16.wrap (Int.tdiv x2_2 2)) t101 (x8_2.set ((ji25) : Int).toNat (Go.bits .xor .u8 (rd x8_2 (ji25)) (ji24))) y115 (Int.tmod (wrap64 (a1)) (wrap64 (8 * (l0.length : Int)))) true true (wrap64 (x13_2 + 1))) else (none)) else (serinettelaw04_ChecksBursts.l0 kj17 l0 (IntKind.u16.wrap (Int.tdiv x2_2 2)) t101 x8_2 y115 (Int.tmod (wrap64 (a1)) (wrap64 (8 * (l0.length : Int)))) x11_2 true (wrap64 (x13_2 + 1))))) else (none)) else (none)) = some r := by first | (rw [hji25] at H; exact H) | (simp only [hji25] at H ⊢; exact H)
                            have hji25w : (IntKind.i64.wrap (Int.tdiv (wrap64 ((Int.tmod (wrap64 (a1)) (wrap64 (8 * (l0.length : Int)))) + x13_2)) 8)) = ji25 := (i64_w _).trans hji25
                            by_cases c26 : 0 ≤ (ji25)
                            · rw [if_pos c26] at H
                              have c26b0 : decide (0 ≤ (ji25)) = true := decide_eq_true c26
                              clear c26
                              by_cases c27 : (ji25) < (x9_2.length : Int)
                              · rw [if_pos c27] at H
                                have c27b0 : decide ((ji25) < (x9_2.length : Int)) = true := decide_eq_true c27
                                clear c27
                                obtain ⟨y115, hy115⟩ : ∃ y_ : List Int, y_ = (x9_2.set ((ji25) : Int).toNat (Go.bits .xor .u8 (rd x9_2 (ji25)) (ji24))) := ⟨_, rfl⟩
                                replace H : (if x13_2 < 8 then (if (ji25) < (x8_2.length : Int) then (serinettelaw04_ChecksBursts.l0 kj17 l0 (IntKind.u16.wrap (Int.tdiv x2_2 2)) t101 (x8_2.set ((ji25) : Int).toNat (Go.bits .xor .u8 (rd x8_2 (ji25)) (ji24))) y115 (Int.tmod (wrap64 (a1)) (wrap64 (8 * (l0.length : Int)))) true true (wrap64 (x13_2 + 1))) else (none)) else (serinettelaw04_ChecksBursts.l0 kj17 l0 (IntKind.u16.wrap (Int.tdiv x2_2 2)) t101 x8_2 y115 (Int.tmod (wrap64 (a1)) (wrap64 (8 * (l0.length : Int)))) x11_2 true (wrap64 (x13_2 + 1)))) = some r := by first | (rw [hy115]; with_reducible exact H) | (have H2_ := (Option.bind_some _ _).symm.trans H; rw [hy115]; with_reducible exact H2_) | (have H2_ := (Option.bind_some _ _).symm.trans H; with_reducible exact H2_) | with_reducible exact H | (rw [hy115]; exact H) | exact H
                                have Ny115 := Aside0.mk hy115
                                clear hy115
                                by_cases c29 : x13_2 < 8
                                · rw [if_pos c29] at H
                                  have c29b0 : decide (x13_2 < 8) = true := decide_eq_true c29
                                  clear c29
                                  by_cases c30 : (ji25) < (x8_2.length : Int)
                                  · rw [if_pos c30] at H
                                    have c30b0 : decide ((ji25) < (x8_2.length : Int)) = true := decide_eq_true c30
                                    clear c30
                                    obtain ⟨y117, hy117⟩ : ∃ y_ : List Int, y_ = (x8_2.set ((ji25) : Int).toNat (Go.bits .xor .u8 (rd x8_2 (ji25)) (ji24))) := ⟨_, rfl⟩
                                    replace H : (serinettelaw04_ChecksBursts.l0 kj17 l0 (IntKind.u16.wrap (Int.tdiv x2_2 2)) t101 y117 y115 (Int.tmod (wrap64 (a1)) (wrap64 (8 * (l0.length : Int)))) true true (wrap64 (x13_2 + 1))) = some r := by first | (rw [hy117]; with_reducible exact H) | (have H2_ := (Option.bind_some _ _).symm.trans H; rw [hy117]; with_reducible exact H2_) | (have H2_ := (Option.bind_some _ _).symm.trans H; with_reducible exact H2_) | with_reducible exact H | (rw [hy117]; exact H) | exact H
                                    have Ny117 := Aside0.mk hy117
                                    clear hy117
                                    have H' := Aside0.mk H
                                    clear H
                                    obtain ⟨Ao32, co32, eo32⟩ := Kd.R_slice HO_9.out
                                    subst eo32
                                    have p114 : 0 ≤ ((ji25) : Int) := of_decide_eq_true (by first | (with_reducible assumption) | assumption)
                                    have q114 : (ji25) < (x9_2.length : Int) := of_decide_eq_true (by first | (with_reducible assumption) | assumption)
                                    obtain ⟨ad114, e114, hx114_0⟩ := Kd.at_int (Kd.R_reads' HO_9.out).2.2 (ji25) p114 q114
                                    cases e114
                                    replace p114 := eq_true p114
                                    replace q114 := eq_true q114
                                    have p28 : 0 ≤ ((ji25) : Int) := of_decide_eq_true (by first | (with_reducible assumption) | assumption)
                                    have q28 : ((ji25) : Int) < ((x9_2.length : Int) : Int) := of_decide_eq_true (by first | (with_reducible assumption) | assumption)
                                    obtain ⟨go28, co28, eo28, gb28, gl28, cl28, HG28⟩ := Kd.R_form HO_9.out (by omega)
                                    (first | cases eo28 | (injection eo28 with ea_ en_ ec_; (first | subst ea_ | (injection ea_ with ea_; subst ea_)); subst ec_; clear en_))
                                    have GB28 := Aside0.mk gb28
                                    have GG28 := Aside0.mk HG28
                                    clear gb28 gl28 HG28
                                    (first | simp only [add_plain] at hx114_0 | skip)
                                    obtain ⟨hx28_0, hf28_0⟩ := Kd.R_celln 0 HO_9.out ((ji25) : Int) p28 q28
                                    replace p28 := eq_true p28
                                    replace q28 := eq_true q28
                                    have HP33 := Kd.R_putg HO_9.out ((ji25) : Int) (Go.bits .xor .u8 (rd x9_2 (ji25)) (ji24))
                                    go_wp2_with (first | ((with_reducible refine gate_store (t := 5) (p := 72) rfl ?_); refine store_event (t := 5) (p := 72) (v := ?vo_w34) (w1 := (wc.setCell ⟨go28, ((ji25) : Int).toNat, none⟩ (.int .u8 (Go.bits .xor .u8 (rd x9_2 (ji25)) (ji24))))) ?hg ?ho ?hn ?hr ?_; (case ho => rfl); (case hg => rfl); (case hn => rfl); (case hr => first | (go_simp; done) | (go_simp; rfl)); intro w34 hw; have hg : wc.grownBy w34 (some go28) := (by rw [hw]; exact HP33.2); have hp_ : Kd.R (Kd.int .u8) 5 w34 w.heap.size (fun k_ => some k_ ≠ (v106 : Value).ownBlock) (.slice (some ⟨go28, 0, none⟩) x9_2.length co32) y115 := (by rw [hw, Ny115.out]; exact HP33.1); clear HP33; have n0_ := Aside0.mk (Kd.R_after (v := (.slice (some ⟨go28, 0, none⟩) x9_2.length co32)) (v1 := (.slice (some ⟨go28, 0, none⟩) x9_2.length co32)) (ok := (fun _ => True)) (by (with_reducible repeat (first | apply Kd.R_alloc | apply Kd.R_drewN | apply Kd.R_drew)); exact Kd.R_mono HO_8.out (fun _ hk => ⟨trivial, hk⟩)) hg (.inl rfl)); have n1_ := Aside0.mk (hp_); have n2_ := Aside0.mk ((by rw [hw]; exact below_set (HB.out) GB28.out : Below w.heap.size w w34)); clear HO_8; clear HO_9; clear HB; have HO_8 := n0_; have HO_9 := n1_; have HB := n2_; clear n0_ n1_ n2_; clear hg hw hp_; obtain ⟨Ao35, co35, eo35⟩ := Kd.R_slice HO_8.out; subst eo35; have p116 : 0 ≤ ((ji25) : Int) := of_decide_eq_true (by first | (with_reducible assumption) | assumption); have q116 : (ji25) < (x8_2.length : Int) := of_decide_eq_true (by first | (with_reducible assumption) | assumption); obtain ⟨ad116, e116, hx116_0⟩ := Kd.at_int (Kd.R_reads' HO_8.out).2.2 (ji25) p116 q116; cases e116; replace p116 := eq_true p116; replace q116 := eq_true q116; have p31 : 0 ≤ ((ji25) : Int) := of_decide_eq_true (by first | (with_reducible assumption) | assumption); have q31 : ((ji25) : Int) < ((x8_2.length : Int) : Int) := of_decide_eq_true (by first | (with_reducible assumption) | assumption); obtain ⟨go31, co31, eo31, gb31, gl31, cl31, HG31⟩ := Kd.R_form HO_8.out (by omega); (first | cases eo31 | (injection eo31 with ea_ en_ ec_; (first | subst ea_ | (injection ea_ with ea_; subst ea_)); subst ec_; clear en_)); have GB31 := Aside0.mk gb31; have GG31 := Aside0.mk HG31; clear gb31 gl31 HG31; (first | simp only [add_plain] at hx116_0 | skip); obtain ⟨hx31_0, hf31_0⟩ := Kd.R_celln 0 HO_8.out ((ji25) : Int) p31 q31; replace p31 := eq_true p31; replace q31 := eq_true q31; have n_ := Aside0.mk (Kd.R_mono (ok' := (fun k_ => some k_ ≠ (.slice (some ⟨go28, 0, none⟩) x9_2.length co32 : Value).ownBlock)) HO_8.out (fun k_ hk => hk.2)); clear HO_8; have HO_8 := n_; clear n_; obtain ⟨hy36_, hz36_⟩ := Kd.R_celln 0 HO_8.out ((ji25) : Int) (of_decide_eq_true (by first | (with_reducible assumption) | assumption)) (of_decide_eq_true (by first | (with_reducible assumption) | assumption)); have HP36 := Kd.R_putg HO_8.out ((ji25) : Int) (Go.bits .xor .u8 (rd x8_2 (ji25)) (ji24))) | ((with_reducible refine gate_store (t := 5) (p := 89) rfl ?_); refine store_event (t := 5) (p := 89) (v := ?vo_w37) (w1 := (w34.setCell ⟨go31, ((ji25) : Int).toNat, none⟩ (.int .u8 (Go.bits .xor .u8 (rd x8_2 (ji25)) (ji24))))) ?hg ?ho ?hn ?hr ?_; (case ho => rfl); (case hg => rfl); (case hn => rfl); (case hr => first | (go_simp; done) | (go_simp; rfl)); intro w37 hw; have hg : w34.grownBy w37 (some go31) := (by rw [hw]; exact HP36.2); have hp_ : Kd.R (Kd.int .u8) 5 w37 w.heap.size (fun k_ => some k_ ≠ (.slice (some ⟨go28, 0, none⟩) x9_2.length co32 : Value).ownBlock) (.slice (some ⟨go31, 0, none⟩) x8_2.length co35) y117 := (by rw [hw, Ny117.out]; exact HP36.1); clear HP36; have n0_ := Aside0.mk (hp_); have n1_ := Aside0.mk (Kd.R_after (v := (.slice (some ⟨go31, 0, none⟩) x8_2.length co35)) (v1 := (.slice (some ⟨go31, 0, none⟩) x8_2.length co35)) (ok := (fun _ => True)) (by (with_reducible repeat (first | apply Kd.R_alloc | apply Kd.R_drewN | apply Kd.R_drew)); exact Kd.R_mono HO_9.out (fun _ hk => ⟨trivial, hk⟩)) hg (.inl rfl)); have n2_ := Aside0.mk ((by rw [hw]; exact below_set (HB.out) GB31.out : Below w.heap.size w w37)); clear HO_8; clear HO_9; clear HB; have HO_8 := n0_; have HO_9 := n1_; have HB := n2_; clear n0_ n1_ n2_; clear hg hw hp_))
                                    go_roundg kj17
                                    case measure => have := HJ4.out; have := HK2.out; have := HJ17.out; omega
                                    case rel => exact ⟨(IntKind.u16.wrap (Int.tdiv x2_2 2)), (y117), (y115), (true), (true), (wrap64 (x13_2 + 1)), (by first | rfl | (simp; done) | (simp [*]; done)), (by first | rfl | (simp; done) | (simp [*]; done)), (by first | rfl | (simp; done) | (simp [*]; done)), (by first | rfl | (simp; done) | (simp [*]; done)), H', ⟨by have := HJ4.out; have := HK2.out; have := HJ17.out; omega⟩, ⟨by (with_reducible repeat (first | apply Kd.R_alloc | apply Kd.R_drewN | apply Kd.R_drew)); exact HO_8.out⟩, ⟨by (with_reducible repeat (first | apply Kd.R_alloc | apply Kd.R_drewN | apply Kd.R_drew)); exact Kd.R_mono HO_9.out (fun _ hk => hk.2)⟩, ⟨by repeat (first | (with_reducible first | exact HB.out | apply below_alloc | apply pw_below_drewN | apply below_drew1) | exact HB.out)⟩⟩
                                  · rw [if_neg c30] at H
                                    exact absurd H (by simp)
                                · rw [if_neg c29] at H
                                  have c29b0 : decide (x13_2 < 8) = false := decide_eq_false c29
                                  clear c29
                                  have H' := Aside0.mk H
                                  clear H
                                  obtain ⟨Ao38, co38, eo38⟩ := Kd.R_slice HO_9.out
                                  subst eo38
                                  have p114 : 0 ≤ ((ji25) : Int) := of_decide_eq_true (by first | (with_reducible assumption) | assumption)
                                  have q114 : (ji25) < (x9_2.length : Int) := of_decide_eq_true (by first | (with_reducible assumption) | assumption)
                                  obtain ⟨ad114, e114, hx114_0⟩ := Kd.at_int (Kd.R_reads' HO_9.out).2.2 (ji25) p114 q114
                                  cases e114
                                  replace p114 := eq_true p114
                                  replace q114 := eq_true q114
                                  have p28 : 0 ≤ ((ji25) : Int) := of_decide_eq_true (by first | (with_reducible assumption) | assumption)
                                  have q28 : ((ji25) : Int) < ((x9_2.length : Int) : Int) := of_decide_eq_true (by first | (with_reducible assumption) | assumption)
                                  obtain ⟨go28, co28, eo28, gb28, gl28, cl28, HG28⟩ := Kd.R_form HO_9.out (by omega)
                                  (first | cases eo28 | (injection eo28 with ea_ en_ ec_; (first | subst ea_ | (injection ea_ with ea_; subst ea_)); subst ec_; clear en_))
                                  have GB28 := Aside0.mk gb28
                                  have GG28 := Aside0.mk HG28
                                  clear gb28 gl28 HG28
                                  (first | simp only [add_plain] at hx114_0 | skip)
                                  obtain ⟨hx28_0, hf28_0⟩ := Kd.R_celln 0 HO_9.out ((ji25) : Int) p28 q28
                                  replace p28 := eq_true p28
                                  replace q28 := eq_true q28
                                  have HP39 := Kd.R_putg HO_9.out ((ji25) : Int) (Go.bits .xor .u8 (rd x9_2 (ji25)) (ji24))
                                  go_wp2_with (first | ((with_reducible refine gate_store (t := 5) (p := 72) rfl ?_); refine store_event (t := 5) (p := 72) (v := ?vo_w40) (w1 := (wc.setCell ⟨go28, ((ji25) : Int).toNat, none⟩ (.int .u8 (Go.bits .xor .u8 (rd x9_2 (ji25)) (ji24))))) ?hg ?ho ?hn ?hr ?_; (case ho => rfl); (case hg => rfl); (case hn => rfl); (case hr => first | (go_simp; done) | (go_simp; rfl)); intro w40 hw; have hg : wc.grownBy w40 (some go28) := (by rw [hw]; exact HP39.2); have hp_ : Kd.R (Kd.int .u8) 5 w40 w.heap.size (fun k_ => some k_ ≠ (v106 : Value).ownBlock) (.slice (some ⟨go28, 0, none⟩) x9_2.length co38) y115 := (by rw [hw, Ny115.out]; exact HP39.1); clear HP39; have n0_ := Aside0.mk (Kd.R_after (v := (.slice (some ⟨go28, 0, none⟩) x9_2.length co38)) (v1 := (.slice (some ⟨go28, 0, none⟩) x9_2.length co38)) (ok := (fun _ => True)) (by (with_reducible repeat (first | apply Kd.R_alloc | apply Kd.R_drewN | apply Kd.R_drew)); exact Kd.R_mono HO_8.out (fun _ hk => ⟨trivial, hk⟩)) hg (.inl rfl)); have n1_ := Aside0.mk (hp_); have n2_ := Aside0.mk ((by rw [hw]; exact below_set (HB.out) GB28.out : Below w.heap.size w w40)); clear HO_8; clear HO_9; clear HB; have HO_8 := n0_; have HO_9 := n1_; have HB := n2_; clear n0_ n1_ n2_; clear hg hw hp_))
                                  go_roundg kj17
                                  case measure => have := HJ4.out; have := HK2.out; have := HJ17.out; omega
                                  case rel => exact ⟨(IntKind.u16.wrap (Int.tdiv x2_2 2)), (x8_2), (y115), (x11_2), (true), (wrap64 (x13_2 + 1)), (by first | rfl | (simp; done) | (simp [*]; done)), (by first | rfl | (simp; done) | (simp [*]; done)), (by first | rfl | (simp; done) | (simp [*]; done)), (by first | rfl | (simp; done) | (simp [*]; done)), H', ⟨by have := HJ4.out; have := HK2.out; have := HJ17.out; omega⟩, ⟨by (with_reducible repeat (first | apply Kd.R_alloc | apply Kd.R_drewN | apply Kd.R_drew)); exact Kd.R_mono HO_8.out (fun _ hk => hk.2)⟩, ⟨by (with_reducible repeat (first | apply Kd.R_alloc | apply Kd.R_drewN | apply Kd.R_drew)); exact HO_9.out⟩, ⟨by repeat (first | (with_reducible first | exact HB.out | apply below_alloc | apply pw_below_drewN | apply below_drew1) | exact HB.out)⟩⟩
                              · rw [if_neg c27] at H
                                exact absurd H (by simp)
                            · rw [if_neg c26] at H
                              exact absurd H (by simp)
                          · rw [if_neg c23] at H
                            exact absurd H (by simp)
                        · rw [if_neg c21] at H
                          have c21b0 : ((Int.tmod x2_2 2) == 1) = false := beq_eq_false_iff_ne.mpr c21
                          have c21b1 : ((Int.tmod x2_2 2) != 1) = true := bne_iff_ne.mpr c21
                          have H' := Aside0.mk H
                          clear H
                          go_wp2
                          go_roundg kj17
                          case measure => have := HJ4.out; have := HK2.out; have := HJ17.out; omega
                          case rel => exact ⟨(IntKind.u16.wrap (Int.tdiv x2_2 2)), (x8_2), (x9_2), (x11_2), (x12_2), (wrap64 (x13_2 + 1)), (by first | rfl | (simp; done) | (simp [*]; done)), (by first | rfl | (simp; done) | (simp [*]; done)), (by first | rfl | (simp; done) | (simp [*]; done)), (by first | rfl | (simp; done) | (simp [*]; done)), H', ⟨by have := HJ4.out; have := HK2.out; have := HJ17.out; omega⟩, ⟨by (with_reducible repeat (first | apply Kd.R_alloc | apply Kd.R_drewN | apply Kd.R_drew)); exact HO_8.out⟩, ⟨by (with_reducible repeat (first | apply Kd.R_alloc | apply Kd.R_drewN | apply Kd.R_drew)); exact HO_9.out⟩, ⟨by repeat (first | (with_reducible first | exact HB.out | apply below_alloc | apply pw_below_drewN | apply below_drew1) | exact HB.out)⟩⟩
                      · replace c20 := Bool.eq_false_iff.mpr c20
                        subst c20
                        have H1 : (if t101 = true then ((Given.checks_Eight.f x8_2).bind fun t118 => ((Given.checks_Eight.f l0).bind fun t119 => (if ((t118 != t119) == x11_2) = true then ((Given.checks_Sixteen.f x9_2).bind fun t120 => ((Given.checks_Sixteen.f l0).bind fun t121 => (some ((t120 != t121) == x12_2)))) else (some false)))) else (some false)) = some r := by rw [if_neg (show ¬ (false = true) by decide)] at H; exact H
                        clear H
                        have H := H1
                        clear H1
                        by_cases c41 : t101 = true
                        · subst c41
                          have H1 : ((Given.checks_Eight.f x8_2).bind fun t118 => ((Given.checks_Eight.f l0).bind fun t119 => (if ((t118 != t119) == x11_2) = true then ((Given.checks_Sixteen.f x9_2).bind fun t120 => ((Given.checks_Sixteen.f l0).bind fun t121 => (some ((t120 != t121) == x12_2)))) else (some false)))) = some r := by rw [if_pos rfl] at H; exact H
                          clear H
                          have H := H1
                          clear H1
                          replace H := Option.bind_eq_some_iff.mp H
                          obtain ⟨t118, A420, H⟩ := H
                          replace H : ((Given.checks_Eight.f l0).bind fun t119 => (if ((t118 != t119) == x11_2) = true then ((Given.checks_Sixteen.f x9_2).bind fun t120 => ((Given.checks_Sixteen.f l0).bind fun t121 => (some ((t120 != t121) == x12_2)))) else (some false))) = some r := H
                          have A42 := Aside0.mk A420
                          clear A420
                          replace H := Option.bind_eq_some_iff.mp H
                          obtain ⟨t119, A430, H⟩ := H
                          replace H : (if ((t118 != t119) == x11_2) = true then ((Given.checks_Sixteen.f x9_2).bind fun t120 => ((Given.checks_Sixteen.f l0).bind fun t121 => (some ((t120 != t121) == x12_2)))) else (some false)) = some r := H
                          have A43 := Aside0.mk A430
                          clear A430
                          by_cases c44 : ((t118 != t119) == x11_2) = true
                          · rw [if_pos c44] at H
                            have c44b0 : ((t118 != t119) == x11_2) = true := c44
                            (try (have c44b1 : decide ((t118 != t119) = x11_2) = true := by simpa using c44))
                            (try (have c44b2 : ((t118 != t119) == x11_2) = true := by simpa using c44))
                            clear c44
                            replace H := Option.bind_eq_some_iff.mp H
                            obtain ⟨t120, A450, H⟩ := H
                            replace H : ((Given.checks_Sixteen.f l0).bind fun t121 => (some ((t120 != t121) == x12_2))) = some r := H
                            have A45 := Aside0.mk A450
                            clear A450
                            replace H := Option.bind_eq_some_iff.mp H
                            obtain ⟨t121, A460, H⟩ := H
                            replace H : (some ((t120 != t121) == x12_2)) = some r := H
                            have A46 := Aside0.mk A460
                            clear A460
                            obtain rfl := Option.some.inj H
                            obtain ⟨Ao47, co47, eo47⟩ := Kd.R_slice HO_8.out
                            subst eo47
                            go_wp2_with (first | (go_at_call 15; (with_reducible refine (Given.checks_Eight.calls _ _ x8_2 t118 _ ?side1 ?side2 A42.out).mono ?_); (case side1 => repeat (first | exact (Kd.R_reads' HO_8.out).2.2 | (with_reducible refine Kd.C_alloc ?_ _) | (with_reducible refine Kd.C_drewN ?_ _) | (with_reducible refine Kd.C_drew ?_))); (case side2 => exact (Kd.R_reads' HO_8.out).2.1); rintro e w48 ⟨rfl, hb⟩; have n0_ := Aside0.mk (Kd.R_below (by (with_reducible repeat (first | apply Kd.R_alloc | apply Kd.R_drewN | apply Kd.R_drew)); exact HO_8.out) hb); have n1_ := Aside0.mk (Kd.R_below (by (with_reducible repeat (first | apply Kd.R_alloc | apply Kd.R_drewN | apply Kd.R_drew)); exact HO_9.out) hb); have n2_ := Aside0.mk (below_step (by repeat (first | (with_reducible first | exact HB.out | apply below_alloc | apply pw_below_drewN | apply below_drew1) | exact HB.out)) hb); clear HO_8; clear HO_9; clear HB; have HO_8 := n0_; have HO_9 := n1_; have HB := n2_; clear n0_ n1_ n2_; (try clear hb); (try clear hb2); (try clear hk); (try clear hi)) | (go_at_call 15; (with_reducible refine (Given.checks_Eight.calls _ _ l0 t119 _ ?side1 ?side2 A43.out).mono ?_); (case side1 => repeat (first | exact (Kd.C_below HR0.out HB.out) | (with_reducible refine Kd.C_alloc ?_ _) | (with_reducible refine Kd.C_drewN ?_ _) | (with_reducible refine Kd.C_drew ?_))); (case side2 => exact HC0.out); rintro e w49 ⟨rfl, hb⟩; have n0_ := Aside0.mk (Kd.R_below (by (with_reducible repeat (first | apply Kd.R_alloc | apply Kd.R_drewN | apply Kd.R_drew)); exact HO_8.out) hb); have n1_ := Aside0.mk (Kd.R_below (by (with_reducible repeat (first | apply Kd.R_alloc | apply Kd.R_drewN | apply Kd.R_drew)); exact HO_9.out) hb); have n2_ := Aside0.mk (below_step (by repeat (first | (with_reducible first | exact HB.out | apply below_alloc | apply pw_below_drewN | apply below_drew1) | exact HB.out)) hb); clear HO_8; clear HO_9; clear HB; have HO_8 := n0_; have HO_9 := n1_; have HB := n2_; clear n0_ n1_ n2_; (try clear hb); (try clear hb2); (try clear hk); (try clear hi); obtain ⟨Ao50, co50, eo50⟩ := Kd.R_slice HO_9.out; subst eo50) | (go_at_call 16; (with_reducible refine (Given.checks_Sixteen.calls _ _ x9_2 t120 _ ?side1 ?side2 A45.out).mono ?_); (case side1 => repeat (first | exact (Kd.R_reads' HO_9.out).2.2 | (with_reducible refine Kd.C_alloc ?_ _) | (with_reducible refine Kd.C_drewN ?_ _) | (with_reducible refine Kd.C_drew ?_))); (case side2 => exact (Kd.R_reads' HO_9.out).2.1); rintro e w51 ⟨rfl, hb⟩; have n0_ := Aside0.mk (Kd.R_below (by (with_reducible repeat (first | apply Kd.R_alloc | apply Kd.R_drewN | apply Kd.R_drew)); exact HO_8.out) hb); have n1_ := Aside0.mk (Kd.R_below (by (with_reducible repeat (first | apply Kd.R_alloc | apply Kd.R_drewN | apply Kd.R_drew)); exact HO_9.out) hb); have n2_ := Aside0.mk (below_step (by repeat (first | (with_reducible first | exact HB.out | apply below_alloc | apply pw_below_drewN | apply below_drew1) | exact HB.out)) hb); clear HO_8; clear HO_9; clear HB; have HO_8 := n0_; have HO_9 := n1_; have HB := n2_; clear n0_ n1_ n2_; (try clear hb); (try clear hb2); (try clear hk); (try clear hi)) | (go_at_call 16; (with_reducible refine (Given.checks_Sixteen.calls _ _ l0 t121 _ ?side1 ?side2 A46.out).mono ?_); (case side1 => repeat (first | exact (Kd.C_below HR0.out HB.out) | (with_reducible refine Kd.C_alloc ?_ _) | (with_reducible refine Kd.C_drewN ?_ _) | (with_reducible refine Kd.C_drew ?_))); (case side2 => exact HC0.out); rintro e w52 ⟨rfl, hb⟩; have n0_ := Aside0.mk (Kd.R_below (by (with_reducible repeat (first | apply Kd.R_alloc | apply Kd.R_drewN | apply Kd.R_drew)); exact HO_8.out) hb); have n1_ := Aside0.mk (Kd.R_below (by (with_reducible repeat (first | apply Kd.R_alloc | apply Kd.R_drewN | apply Kd.R_drew)); exact HO_9.out) hb); have n2_ := Aside0.mk (below_step (by repeat (first | (with_reducible first | exact HB.out | apply below_alloc | apply pw_below_drewN | apply below_drew1) | exact HB.out)) hb); clear HO_8; clear HO_9; clear HB; have HO_8 := n0_; have HO_9 := n1_; have HB := n2_; clear n0_ n1_ n2_; (try clear hb); (try clear hb2); (try clear hk); (try clear hi)))
                            go_ret
                            exact ⟨by first | rfl | (simp [errW_none, errW_some] <;> rfl) | (simp [*, errW_none, errW_some] <;> rfl), by repeat (first | (with_reducible first | exact HB.out | apply below_alloc | apply pw_below_drewN | apply below_drew1) | exact HB.out)⟩
                          · rw [if_neg c44] at H
                            have c44b0 : ((t118 != t119) == x11_2) = false := by simpa using c44
                            (try (have c44b1 : decide ((t118 != t119) = x11_2) = false := by simpa using c44))
                            (try (have c44b2 : ((t118 != t119) == x11_2) = false := by simpa using c44))
                            (try (have c44b3 : ¬ ((t118 != t119) = x11_2) := by simpa using c44))
                            clear c44
                            obtain rfl := Option.some.inj H
                            obtain ⟨Ao53, co53, eo53⟩ := Kd.R_slice HO_8.out
                            subst eo53
                            go_wp2_with (first | (go_at_call 15; (with_reducible refine (Given.checks_Eight.calls _ _ x8_2 t118 _ ?side1 ?side2 A42.out).mono ?_); (case side1 => repeat (first | exact (Kd.R_reads' HO_8.out).2.2 | (with_reducible refine Kd.C_alloc ?_ _) | (with_reducible refine Kd.C_drewN ?_ _) | (with_reducible refine Kd.C_drew ?_))); (case side2 => exact (Kd.R_reads' HO_8.out).2.1); rintro e w54 ⟨rfl, hb⟩; have n0_ := Aside0.mk (Kd.R_below (by (with_reducible repeat (first | apply Kd.R_alloc | apply Kd.R_drewN | apply Kd.R_drew)); exact HO_8.out) hb); have n1_ := Aside0.mk (Kd.R_below (by (with_reducible repeat (first | apply Kd.R_alloc | apply Kd.R_drewN | apply Kd.R_drew)); exact HO_9.out) hb); have n2_ := Aside0.mk (below_step (by repeat (first | (with_reducible first | exact HB.out | apply below_alloc | apply pw_below_drewN | apply below_drew1) | exact HB.out)) hb); clear HO_8; clear HO_9; clear HB; have HO_8 := n0_; have HO_9 := n1_; have HB := n2_; clear n0_ n1_ n2_; (try clear hb); (try clear hb2); (try clear hk); (try clear hi)) | (go_at_call 15; (with_reducible refine (Given.checks_Eight.calls _ _ l0 t119 _ ?side1 ?side2 A43.out).mono ?_); (case side1 => repeat (first | exact (Kd.C_below HR0.out HB.out) | (with_reducible refine Kd.C_alloc ?_ _) | (with_reducible refine Kd.C_drewN ?_ _) | (with_reducible refine Kd.C_drew ?_))); (case side2 => exact HC0.out); rintro e w55 ⟨rfl, hb⟩; have n0_ := Aside0.mk (Kd.R_below (by (with_reducible repeat (first | apply Kd.R_alloc | apply Kd.R_drewN | apply Kd.R_drew)); exact HO_8.out) hb); have n1_ := Aside0.mk (Kd.R_below (by (with_reducible repeat (first | apply Kd.R_alloc | apply Kd.R_drewN | apply Kd.R_drew)); exact HO_9.out) hb); have n2_ := Aside0.mk (below_step (by repeat (first | (with_reducible first | exact HB.out | apply below_alloc | apply pw_below_drewN | apply below_drew1) | exact HB.out)) hb); clear HO_8; clear HO_9; clear HB; have HO_8 := n0_; have HO_9 := n1_; have HB := n2_; clear n0_ n1_ n2_; (try clear hb); (try clear hb2); (try clear hk); (try clear hi)))
                            go_ret
                            exact ⟨by first | rfl | (simp [errW_none, errW_some] <;> rfl) | (simp [*, errW_none, errW_some] <;> rfl), by repeat (first | (with_reducible first | exact HB.out | apply below_alloc | apply pw_below_drewN | apply below_drew1) | exact HB.out)⟩
                        · replace c41 := Bool.eq_false_iff.mpr c41
                          subst c41
                          have H1 : (some false) = some r := by rw [if_neg (show ¬ (false = true) by decide)] at H; exact H
                          clear H
                          have H := H1
                          clear H1
                          obtain rfl := Option.some.inj H
                          go_wp2
                          go_ret
                          exact ⟨by first | rfl | (simp [errW_none, errW_some] <;> rfl) | (simp [*, errW_none, errW_some] <;> rfl), by repeat (first | (with_reducible first | exact HB.out | apply below_alloc | apply pw_below_drewN | apply below_drew1) | exact HB.out)⟩
          · rw [if_neg c10] at H
            exact absurd H (by simp)
        · rw [if_neg c9] at H
          exact absurd H (by simp)

/-- THE ONE PURE STATEMENT of serinettelaw04_ChecksBursts: yours. -/
def serinettelaw04_ChecksBursts.Pure : Prop := ∀ (l0 : List Int) (a1 : Int) (a2 : Int), l0.length ≤ maxLen → l0.length * 1 ≤ 140737488351232 → (∀ x ∈ l0, (Lit.int .u8 x).wf = true) → (Lit.int .u16 a1).wf = true → (Lit.int .u16 a2).wf = true → ∃ k, serinettelaw04_ChecksBursts.f k l0 a1 a2 = some true
theorem serinettelaw04_ChecksBursts.walk (P : serinettelaw04_ChecksBursts.Pure) (a0 : Option Addr) (len0 cap0 : Nat) (z0 : List Int) (a1 : Int) (a2 : Int) (w : World) (w0 : (a0 = none ∧ len0 = 0 ∧ cap0 = 0 ∧ z0 = []) ∨ ∃ x, a0 = some x ∧ len0 ≤ cap0 ∧ cap0 ≤ maxLen ∧ z0.length = cap0 ∧ (∀ i, i < z0.length → w.cell? (x.add i) = some (.int .u8 (z0.getD i 0))) ∧ ∀ n ∈ z0, (Lit.int .u8 n).wf = true) (y0 : len0 * 1 ≤ 140737488351232) (w1 : (Lit.int .u16 a1).wf = true) (w2 : (Lit.int .u16 a2).wf = true) :
    Calls Try.prog 6 #[.slice a0 len0 cap0, .int .u16 a1, .int .u16 a2] w fun e w' => e = .returned (.bool true) ∧ Below w.heap.size w w' := by
  obtain ⟨l0, rfl, hr0, hm0, hw0, hc0⟩ := ReadsInt.ofRowC w0
  obtain ⟨k, h⟩ := P l0 a1 a2 hm0 y0 hw0 w1 w2
  refine (serinettelaw04_ChecksBursts.calls k _ _ l0 a1 a2 true w (Kd.C_of_reads (d := (0 : Int)) (h1 := fun _ => rfl) hr0) hc0 h).mono ?_
  rintro e w' ⟨rfl, hd⟩
  exact ⟨rfl, hd⟩

end Go.Proofs.Ytafnlnmhjgnddaa.GChecksBursts
