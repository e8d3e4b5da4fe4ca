-- WRITTEN BY giv.py, a program of this session (wip/giv.py), over the kit's printer: not a printed text
import Derived.Test.YtldeigekagpekaaDoorGDigx0
namespace Go.Proofs.YtldeigekagpekaaDoor.GDig
open Go.RowKit Go.Proofs.YtldeigekagpekaaDoorW.PrintWords Go.Proofs.YtldeigekagpekaaDoorW.PrintLast Go.Proofs.YtldeigekagpekaaDoorW.PrintMore
attribute [local go_sem] max2_int min2_int max_two min_two max_three min_three max_four min_four   -- for this text's walks alone
set_option linter.unusedVariables false
set_option linter.unusedSimpArgs false

-- NOT PRINTED: function 12 (digest_New)

-- NOT PRINTED: function 23 (digest_kinds)

/-! ### digest_word: function 24 -/
def digest_word.l0 : Nat → Int → List Int → Int → Int → Option (Int)
  | 0, _, _, _, _ => none
  | k + 1, x3, x6, x7, x8 => if x8 < x7 then (if 0 ≤ x8 then (if x8 < (x6.length : Int) then (if 0 ≤ (wrap64 (8 * x8)) then (digest_word.l0 k (Go.bits .or .u32 x3 (shl .u32 ((rd x6 x8) % 4294967296) (wrap64 (8 * x8)))) x6 x7 (wrap64 (x8 + 1))) else (none)) else (none)) else (none)) else (some x3)
def digest_word.f (k : Nat) (l0 : List Int) : Option (Int) := digest_word.l0 k 0 l0 (l0.length : Int) 0
theorem digest_word.mono_l : ∀ k, (∀ y0 y1 y2 y3, LeO (digest_word.l0 k y0 y1 y2 y3) (digest_word.l0 (k + 1) y0 y1 y2 y3))
  | 0 => fun _ _ _ _ r h => by simp [digest_word.l0] at h
  | k + 1 => by
    have ih0 := digest_word.mono_l k
    · intro y0 y1 y2 y3
      unfold digest_word.l0
      repeat' first
      | (with_reducible exact ih0 _ _ _ _)
      | (with_reducible exact LeO.refl _)
      | (with_reducible exact LeO.none _)
      | (with_reducible refine LeO.ite ?_ ?_)
      | (with_reducible refine LeO.bind ?_ (fun _ => ?_))
      | exact ih0 _ _ _ _
      | exact LeO.none _
      | refine LeO.ite ?_ ?_
      | refine LeO.bind ?_ (fun _ => ?_)
theorem digest_word.mono : ∀ a0 k, LeO (digest_word.f k a0) (digest_word.f (k + 1) a0) := by
  intro a0 k
  have ih0 := digest_word.mono_l k
  unfold digest_word.f
  repeat' first
      | (with_reducible exact ih0 _ _ _ _)
      | (with_reducible exact LeO.refl _)
      | (with_reducible exact LeO.none _)
      | (with_reducible refine LeO.ite ?_ ?_)
      | (with_reducible refine LeO.bind ?_ (fun _ => ?_))
      | exact ih0 _ _ _ _
      | exact LeO.none _
      | refine LeO.ite ?_ ?_
      | refine LeO.bind ?_ (fun _ => ?_)
set_option maxHeartbeats 8000000 in
set_option maxRecDepth 100000 in
theorem digest_word.calls (k : Nat) (A0 : Option Addr) (c0 : Nat) (l0 : List Int) (r : Int) (w : World) (hr0 : Kd.C (Kd.int .u8) w A0 l0.length l0) (hc0 : l0.length ≤ c0) (h : digest_word.f k l0 = some r) :
    Calls Tryd.prog 24 #[.slice A0 l0.length c0] w fun e w' => e = .returned (.int .u32 r) ∧ Drawn0 w w' := by
  have HR0 := Aside0.mk hr0
  have HC0 := Aside0.mk hc0
  clear hr0 hc0
  have H : (digest_word.l0 k 0 l0 (l0.length : Int) 0) = some r := h
  clear h
  have H' := Aside0.mk H
  clear H
  go_enter Tryd.func24, Tryd.ntmps24
  go_wp2
  go_loopg [3, 8] k (fun kq v3 v8 w' => ∃ (x3_1 : Int) (x8_1 : Int), v3 = .int .u32 x3_1 ∧ v8 = .int .i64 x8_1 ∧ Aside0 (digest_word.l0 kq x3_1 l0 (l0.length : Int) x8_1 = some r) ∧ Aside0 (kq ≤ k) ∧ Drawn0 w w')
  case atStart => exact ⟨(0), (0), (by first | rfl | (simp; done) | (simp [*]; done)), (by first | rfl | (simp; done) | (simp [*]; done)), H', ⟨Nat.le_refl _⟩, by repeat (first | exact Drawn0.refl _ | apply Drawn0.step)⟩
  case round =>
    clear H'
    obtain ⟨x3_1, x8_1, rfl, rfl, HA, HK1, ⟨m1, rfl⟩⟩ := hrel
    cases gk with
    | zero => exact absurd HA.out (by simp [digest_word.l0])
    | succ k1 =>
      have H := HA.out
      clear HA
      simp only [digest_word.l0] at H
      by_cases c2 : x8_1 < (l0.length : Int)
      · rw [if_pos c2] at H
        have c2b0 : decide (x8_1 < (l0.length : Int)) = true := decide_eq_true c2
        clear c2
        by_cases c3 : 0 ≤ x8_1
        · rw [if_pos c3] at H
          have c3b0 : decide (0 ≤ x8_1) = true := decide_eq_true c3
          clear c3
          by_cases c4 : x8_1 < (l0.length : Int)
          · rw [if_pos c4] at H
            have c4b0 : decide (x8_1 < (l0.length : Int)) = true := decide_eq_true c4
            clear c4
            obtain ⟨ji5, hji5⟩ : ∃ j_ : Int, (wrap64 (8 * x8_1)) = j_ := ⟨_, rfl⟩
            replace H : (if 0 ≤ (ji5) then (digest_word.l0 k1 (Go.bits .or .u32 x3_1 (shl .u32 ((rd l0 x8_1) % 4294967296) (ji5))) l0 (l0.length : Int) (wrap64 (x8_1 + 1))) else (none)) = some r := by first | (rw [hji5] at H; exact H) | (simp only [hji5] at H ⊢; exact H)
            have hji5w : (IntKind.i64.wrap (8 * x8_1)) = ji5 := (i64_w _).trans hji5
            by_cases c6 : 0 ≤ (ji5)
            · rw [if_pos c6] at H
              have c6b0 := eq_true c6
              have c6b1 : decide (0 ≤ (ji5)) = true := decide_eq_true c6
              clear c6
              obtain ⟨ji7, hji7⟩ : ∃ j_ : Int, (shl .u32 ((rd l0 x8_1) % 4294967296) (ji5)) = j_ := ⟨_, rfl⟩
              replace H : (digest_word.l0 k1 (Go.bits .or .u32 x3_1 (ji7)) l0 (l0.length : Int) (wrap64 (x8_1 + 1))) = some r := by first | (rw [hji7] at H; exact H) | (simp only [hji7] at H ⊢; exact H)
              have hji7_ : (IntKind.u32.wrap (((rd l0 x8_1) % 4294967296) * 2 ^ min (ji5).toNat 32)) = ji7 := hji7
              have hji7z : (ji5) ≤ 32 → (IntKind.u32.wrap (((rd l0 x8_1) % 4294967296) * 2 ^ (ji5).toNat)) = ji7 := shl_small hji7
              have H' := Aside0.mk H
              clear H
              have p101 : 0 ≤ (x8_1 : Int) := of_decide_eq_true (by first | (with_reducible assumption) | assumption)
              have q101 : x8_1 < (l0.length : Int) := of_decide_eq_true (by first | (with_reducible assumption) | assumption)
              obtain ⟨ad101, e101, hx101_0⟩ := Kd.at_int HR0.out x8_1 p101 q101
              cases e101
              replace p101 := eq_true p101
              replace q101 := eq_true q101
              go_wp2
              go_roundg k1
              case measure => have := HK1.out; omega
              case rel => exact ⟨(Go.bits .or .u32 x3_1 (ji7)), (wrap64 (x8_1 + 1)), (by first | rfl | (simp; done) | (simp only [← hji7] <;> (first | rfl | simp)) | (simp [*]; done)), (by first | rfl | (simp; done) | (simp [*]; done)), H', ⟨by have := HK1.out; omega⟩, by repeat (first | exact Drawn0.refl _ | apply Drawn0.step)⟩
            · rw [if_neg c6] at H
              exact absurd H (by simp)
          · rw [if_neg c4] at H
            exact absurd H (by simp)
        · rw [if_neg c3] at H
          exact absurd H (by simp)
      · rw [if_neg c2] at H
        have c2b0 : decide (x8_1 < (l0.length : Int)) = false := decide_eq_false c2
        clear c2
        obtain rfl := Option.some.inj H
        go_wp2
        go_ret
        exact ⟨by first | rfl | (simp; done) | (simp [*]; done), by repeat (first | exact Drawn0.refl _ | apply Drawn0.step)⟩

-- NOT PRINTED: function 21 (digest_State_eat)

-- NOT PRINTED: function 13 (digest_State_Add)

-- NOT PRINTED: function 14 (digest_State_Sum)

-- NOT PRINTED: function 10 (digest_Of)

-- NOT PRINTED: function 9 (serinettelaw05_awake)

/-! ### serinetteref05_Fill: function 16 -/
mutual
def serinetteref05_Fill.l0 : Nat → List Int → List Int → Option (List Int)
  | 0, _, _ => none
  | k + 1, x0, x3 => if ((x3.length : Int) % 64) = 56 then (serinetteref05_Fill.l1 k x3 (wrap64 (8 * (x0.length : Int))) 0) else (if x3.length < 140737488355328 then (serinetteref05_Fill.l0 k x0 (x3 ++ [0])) else (none))
def serinetteref05_Fill.l1 : Nat → List Int → Int → Int → Option (List Int)
  | 0, _, _, _ => none
  | k + 1, x3, x4, x5 => if x5 < 8 then (if x3.length < 140737488355328 then (serinetteref05_Fill.l1 k (x3 ++ [(Int.tmod x4 256) % 256]) (wrap64 (Int.tdiv x4 256)) (wrap64 (x5 + 1))) else (none)) else (some x3)
end
def serinetteref05_Fill.f (k : Nat) (l0 : List Int) : Option (List Int) := (some (([] : List Int) : List Int)).bind fun y102 => (if y102.length + l0.length < 140737488355328 then ((some (y102 ++ l0 : List Int)).bind fun y105 => (if y105.length < 140737488355328 then (serinetteref05_Fill.l0 k l0 (y105 ++ [128])) else (none))) else (none))
theorem serinetteref05_Fill.mono_l : ∀ k, (∀ y0 y1, LeO (serinetteref05_Fill.l0 k y0 y1) (serinetteref05_Fill.l0 (k + 1) y0 y1)) ∧ (∀ y0 y1 y2, LeO (serinetteref05_Fill.l1 k y0 y1 y2) (serinetteref05_Fill.l1 (k + 1) y0 y1 y2))
  | 0 => ⟨fun _ _ r h => by simp [serinetteref05_Fill.l0] at h, fun _ _ _ r h => by simp [serinetteref05_Fill.l1] at h⟩
  | k + 1 => by
    obtain ⟨ih0, ih1⟩ := serinetteref05_Fill.mono_l k
    refine ⟨?_, ?_⟩
    · intro y0 y1
      unfold serinetteref05_Fill.l0
      repeat' first
      | (with_reducible exact ih0 _ _)
      | (with_reducible exact ih1 _ _ _)
      | (with_reducible exact LeO.refl _)
      | (with_reducible exact LeO.none _)
      | (with_reducible refine LeO.ite ?_ ?_)
      | (with_reducible refine LeO.bind ?_ (fun _ => ?_))
      | exact ih0 _ _
      | exact ih1 _ _ _
      | exact LeO.none _
      | refine LeO.ite ?_ ?_
      | refine LeO.bind ?_ (fun _ => ?_)
    · intro y0 y1 y2
      unfold serinetteref05_Fill.l1
      repeat' first
      | (with_reducible exact ih0 _ _)
      | (with_reducible exact ih1 _ _ _)
      | (with_reducible exact LeO.refl _)
      | (with_reducible exact LeO.none _)
      | (with_reducible refine LeO.ite ?_ ?_)
      | (with_reducible refine LeO.bind ?_ (fun _ => ?_))
      | exact ih0 _ _
      | exact ih1 _ _ _
      | exact LeO.none _
      | refine LeO.ite ?_ ?_
      | refine LeO.bind ?_ (fun _ => ?_)
theorem serinetteref05_Fill.mono : ∀ a0 k, LeO (serinetteref05_Fill.f k a0) (serinetteref05_Fill.f (k + 1) a0) := by
  intro a0 k
  obtain ⟨ih0, ih1⟩ := serinetteref05_Fill.mono_l k
  unfold serinetteref05_Fill.f
  repeat' first
      | (with_reducible exact ih0 _ _)
      | (with_reducible exact ih1 _ _ _)
      | (with_reducible exact LeO.refl _)
      | (with_reducible exact LeO.none _)
      | (with_reducible refine LeO.ite ?_ ?_)
      | (with_reducible refine LeO.bind ?_ (fun _ => ?_))
      | exact ih0 _ _
      | exact ih1 _ _ _
      | exact LeO.none _
      | refine LeO.ite ?_ ?_
      | refine LeO.bind ?_ (fun _ => ?_)
set_option maxHeartbeats 8000000 in
set_option maxRecDepth 100000 in
theorem serinetteref05_Fill.calls (k : Nat) (A0 : Option Addr) (c0 : Nat) (l0 : List Int) (r : List Int) (w : World) (hr0 : Kd.C (Kd.int .u8) w A0 l0.length l0) (hc0 : l0.length ≤ c0) (h : serinetteref05_Fill.f k l0 = some r) :
    Calls Tryd.prog 16 #[.slice A0 l0.length c0] w fun e w' => ∃ v0_ : Value, e = .returned (v0_) ∧ Kd.R (Kd.int .u8) 5 w' w.heap.size (fun _ => True) v0_ r ∧ Below w.heap.size w w' := by
  have HR0 := Aside0.mk hr0
  have HC0 := Aside0.mk hc0
  clear hr0 hc0
  have HB := Aside0.mk (Below.refl w.heap.size w)
  have H : ((some (([] : List Int) : List Int)).bind fun y102 => (if y102.length + l0.length < 140737488355328 then ((some (y102 ++ l0 : List Int)).bind fun y105 => (if y105.length < 140737488355328 then (serinetteref05_Fill.l0 k l0 (y105 ++ [128])) else (none))) else (none))) = some r := h
  clear h
  obtain ⟨y102, hy102⟩ : ∃ y_ : List Int, y_ = (([] : List Int)) := ⟨_, rfl⟩
  replace H : (if y102.length + l0.length < 140737488355328 then ((some (y102 ++ l0 : List Int)).bind fun y105 => (if y105.length < 140737488355328 then (serinetteref05_Fill.l0 k l0 (y105 ++ [128])) else (none))) else (none)) = some r := by first | (rw [hy102]; with_reducible exact H) | (have H2_ := (Option.bind_some _ _).symm.trans H; rw [hy102]; with_reducible exact H2_) | (have H2_ := (Option.bind_some _ _).symm.trans H; with_reducible exact H2_) | with_reducible exact H | (rw [hy102]; exact H) | exact H
  have Ny102 := Aside0.mk hy102
  clear hy102
  by_cases c2 : y102.length + l0.length < 140737488355328
  · rw [if_pos c2] at H
    have LMc2 := Aside0.mk c2
    clear c2
    obtain ⟨y105, hy105⟩ : ∃ y_ : List Int, y_ = (y102 ++ l0) := ⟨_, rfl⟩
    replace H : (if y105.length < 140737488355328 then (serinetteref05_Fill.l0 k l0 (y105 ++ [128])) else (none)) = some r := by first | (rw [hy105]; with_reducible exact H) | (have H2_ := (Option.bind_some _ _).symm.trans H; rw [hy105]; with_reducible exact H2_) | (have H2_ := (Option.bind_some _ _).symm.trans H; with_reducible exact H2_) | with_reducible exact H | (rw [hy105]; exact H) | exact H
    have Ny105 := Aside0.mk hy105
    clear hy105
    by_cases c3 : y105.length < 140737488355328
    · rw [if_pos c3] at H
      have LMc3 := Aside0.mk c3
      clear c3
      obtain ⟨y108, hy108⟩ : ∃ y_ : List Int, y_ = (y105 ++ [128]) := ⟨_, rfl⟩
      replace H : (serinetteref05_Fill.l0 k l0 y108) = some r := by first | (rw [hy108]; with_reducible exact H) | (have H2_ := (Option.bind_some _ _).symm.trans H; rw [hy108]; with_reducible exact H2_) | (have H2_ := (Option.bind_some _ _).symm.trans H; with_reducible exact H2_) | with_reducible exact H | (rw [hy108]; exact H) | exact H
      have Ny108 := Aside0.mk hy108
      clear hy108
      have H' := Aside0.mk H
      clear H
      go_enter Tryd.func16, Tryd.ntmps16
      go_wp2_with (first | ((with_reducible refine gate_dst (N := 6) rfl ?_); refine Kd.R_lit (Kd.int .u8) _ 5 ?hg (N := 6) ?hd (xs := ([] : List Int)) (inner := []) (ok := fun _ => True) (okp := fun _ => True) ?hr ?hp (fun _ hk => hk) trivial (Below.refl _ _) (Nat.le_refl _) (by simp) ?_; (case hd => rfl); (case hg => rfl); (case hr => first | (go_simp; done) | (go_simp; rfl)); (case hp => exact (Reps.none _ _)); intro v103 w4 ho5 hb hg_ hnew_; clear hg_ hnew_; (first | rw [← Ny102.out] at ho5 | (simp only [Int.reduceToNat] at ho5; rw [← Ny102.out] at ho5)); have n0_ := Aside0.mk (Kd.R_lower ho5 (below_size (by repeat (first | (with_reducible first | exact HB.out | apply below_alloc | apply pw_below_drewN | apply below_drew1) | exact HB.out)))); have n1_ := Aside0.mk (below_step (by repeat (first | (with_reducible first | exact HB.out | apply below_alloc | apply pw_below_drewN | apply below_drew1) | exact HB.out)) hb); clear HB; have HO104 := n0_; have HB := n1_; clear n0_ n1_; clear hb ho5) | ((with_reducible refine gate_builtin (b := .append) (xs := #[.tmp 6, .tmp 7]) rfl ?_); at_builtin; refine Kd.R_append_rows (Kd.int .u8) (w0 := w) w.heap.size rfl (.tmp 6) (.tmp 7) 22 5 (.int .u8 0) 1 rfl Tryd.underlying22 info5 rfl (by decide) (by omega) v103 y102 l0 _ _ _ (fun _ => True) (fun _ => False) rfl rfl ?aO ?aR (fun _ _ h => h) (fun _ h => h.elim) ?aF ?aB ?aS ?aL ?_; (case aR => repeat (first | exact (Kd.C_below HR0.out HB.out) | (with_reducible refine Kd.C_alloc ?_ _) | (with_reducible refine Kd.C_drewN ?_ _) | (with_reducible refine Kd.C_drew ?_))); (case aB => exact (by repeat (first | (with_reducible first | exact HB.out | apply below_alloc | apply pw_below_drewN | apply below_drew1) | exact HB.out))); (case aF => exact (fun _ _ => trivial)); (case aO => exact (by (with_reducible repeat (first | apply Kd.R_alloc | apply Kd.R_drewN | apply Kd.R_drew)); exact HO104.out)); (case aS => exact (below_size (by repeat (first | (with_reducible first | exact HB.out | apply below_alloc | apply pw_below_drewN | apply below_drew1) | exact HB.out)))); (case aL => have := LMc2.out; omega); intro v106 w6 ho hb hg hat; rw [← Ny105.out] at ho; have n0_ := Aside0.mk (hb); have n1_ := Aside0.mk (ho); clear HB; clear HO104; have HB := n0_; have HO107 := n1_; clear n0_ n1_; clear ho hb hg hat) | ((with_reducible refine gate_builtin (b := .append) (xs := #[.tmp 8, .tmp 9]) rfl ?_); at_builtin; refine Kd.R_append (Kd.int .u8) (w0 := w) w.heap.size rfl (.tmp 8) (.tmp 9) 22 5 (.int .u8 0) 1 rfl Tryd.underlying22 info5 rfl (by decide) (by omega) v106 y105 128 [.int .u8 128] (fun _ => True) (fun _ => False) rfl rfl ?aP (fun _ hk => hk.elim) ?aF ?aO ?aB ?aS ?aL ?_; (case aP => exact rfl); (case aB => exact (by repeat (first | (with_reducible first | exact HB.out | apply below_alloc | apply pw_below_drewN | apply below_drew1) | exact HB.out))); (case aF => exact (fun _ _ => trivial)); (case aO => exact (by (with_reducible repeat (first | apply Kd.R_alloc | apply Kd.R_drewN | apply Kd.R_drew)); exact HO107.out)); (case aS => exact (below_size (by repeat (first | (with_reducible first | exact HB.out | apply below_alloc | apply pw_below_drewN | apply below_drew1) | exact HB.out)))); (case aL => have := LMc3.out; omega); intro v109 w7 ho hb hg hat; rw [← Ny108.out] at ho; have n0_ := Aside0.mk (hb); have n1_ := Aside0.mk (ho); clear HB; clear HO107; have HB := n0_; have HO110 := n1_; clear n0_ n1_; clear ho hb hg hat))
      go_loopg [3] k (fun kq v3 w' => ∃ (x3_1 : List Int), Aside0 (serinetteref05_Fill.l0 kq l0 x3_1 = some r) ∧ Aside0 (kq ≤ k) ∧ Aside0 (Kd.R (Kd.int .u8) 5 w' w.heap.size (fun _ => True) v3 x3_1) ∧ Aside0 (Below w.heap.size w w'))
      case atStart => exact ⟨(y108), H', ⟨Nat.le_refl _⟩, ⟨by (with_reducible repeat (first | apply Kd.R_alloc | apply Kd.R_drewN | apply Kd.R_drew)); exact HO110.out⟩, ⟨by repeat (first | (with_reducible first | exact HB.out | apply below_alloc | apply pw_below_drewN | apply below_drew1) | exact HB.out)⟩⟩
      case round =>
        clear H'
        try clear c1
        try clear c2
        try clear p2
        try clear c3
        obtain ⟨x3_1, HA, HK1, HO_3, HB⟩ := hrel
        cases gk with
        | zero => exact absurd HA.out (by simp [serinetteref05_Fill.l0])
        | succ k1 =>
          have H := HA.out
          clear HA
          simp only [serinetteref05_Fill.l0] at H
          by_cases c8 : ((x3_1.length : Int) % 64) = 56
          · rw [if_pos c8] at H
            have c8b0 : (((x3_1.length : Int) % 64) == 56) = true := beq_iff_eq.mpr c8
            have c8b1 : (((x3_1.length : Int) % 64) != 56) = false := bne_eq_false_iff_eq.mpr c8
            clear c8
            have H' := Aside0.mk H
            clear H
            obtain ⟨Ao9, co9, eo9⟩ := Kd.R_slice HO_3.out
            subst eo9
            go_wp2
            go_loopg [3, 4, 5] k1 (fun kq v3 v4 v5 w' => ∃ (x3_2 : List Int) (x4_2 : Int) (x5_2 : Int), v4 = .int .i64 x4_2 ∧ v5 = .int .i64 x5_2 ∧ Aside0 (serinetteref05_Fill.l1 kq x3_2 x4_2 x5_2 = some r) ∧ Aside0 (kq ≤ k1) ∧ Aside0 (Kd.R (Kd.int .u8) 5 w' w.heap.size (fun _ => True) v3 x3_2) ∧ Aside0 (Below w.heap.size w w'))
            case atStart => exact ⟨(x3_1), (wrap64 (8 * (l0.length : Int))), (0), (by first | rfl | (simp; done) | (simp [*]; done)), (by first | rfl | (simp; done) | (simp [*]; done)), H', ⟨Nat.le_refl _⟩, ⟨by (with_reducible repeat (first | apply Kd.R_alloc | apply Kd.R_drewN | apply Kd.R_drew)); exact HO_3.out⟩, ⟨by repeat (first | (with_reducible first | exact HB.out | apply below_alloc | apply pw_below_drewN | apply below_drew1) | exact HB.out)⟩⟩
            case round =>
              clear H'
              try clear c1
              try clear c2
              try clear p2
              try clear c3
              try clear p6
              try clear c8
              try clear c8b0
              try clear c8b1
              try clear p2
              obtain ⟨x3_2, x4_2, x5_2, rfl, rfl, HA, HK2, HO_3, HB⟩ := hrel
              cases gk with
              | zero => exact absurd HA.out (by simp [serinetteref05_Fill.l1])
              | succ k2 =>
                have H := HA.out
                clear HA
                simp only [serinetteref05_Fill.l1] at H
                by_cases c10 : x5_2 < 8
                · rw [if_pos c10] at H
                  have c10b0 : decide (x5_2 < 8) = true := decide_eq_true c10
                  clear c10
                  by_cases c11 : x3_2.length < 140737488355328
                  · rw [if_pos c11] at H
                    have LMc11 := Aside0.mk c11
                    clear c11
                    obtain ⟨y114, hy114⟩ : ∃ y_ : List Int, y_ = (x3_2 ++ [(Int.tmod x4_2 256) % 256]) := ⟨_, rfl⟩
                    replace H : (serinetteref05_Fill.l1 k2 y114 (wrap64 (Int.tdiv x4_2 256)) (wrap64 (x5_2 + 1))) = some r := by first | (rw [hy114]; with_reducible exact H) | (have H2_ := (Option.bind_some _ _).symm.trans H; rw [hy114]; with_reducible exact H2_) | (have H2_ := (Option.bind_some _ _).symm.trans H; with_reducible exact H2_) | with_reducible exact H | (rw [hy114]; exact H) | exact H
                    have Ny114 := Aside0.mk hy114
                    clear hy114
                    have H' := Aside0.mk H
                    clear H
                    go_wp2_with (first | ((with_reducible refine gate_builtin (b := .append) (xs := #[.tmp 25, .tmp 29]) rfl ?_); at_builtin; refine Kd.R_append (Kd.int .u8) (w0 := w) w.heap.size rfl (.tmp 25) (.tmp 29) 22 5 (.int .u8 0) 1 rfl Tryd.underlying22 info5 rfl (by decide) (by omega) u3 x3_2 ((Int.tmod x4_2 256) % 256) [.int .u8 ((Int.tmod x4_2 256) % 256)] (fun _ => True) (fun _ => False) rfl rfl ?aP (fun _ hk => hk.elim) ?aF ?aO ?aB ?aS ?aL ?_; (case aP => exact rfl); (case aB => exact (by repeat (first | (with_reducible first | exact HB.out | apply below_alloc | apply pw_below_drewN | apply below_drew1) | exact HB.out))); (case aF => exact (fun _ _ => trivial)); (case aO => exact (by (with_reducible repeat (first | apply Kd.R_alloc | apply Kd.R_drewN | apply Kd.R_drew)); exact HO_3.out)); (case aS => exact (below_size (by repeat (first | (with_reducible first | exact HB.out | apply below_alloc | apply pw_below_drewN | apply below_drew1) | exact HB.out)))); (case aL => have := LMc11.out; omega); intro v115 w12 ho hb hg hat; rw [← Ny114.out] at ho; have n0_ := Aside0.mk (hb); have n1_ := Aside0.mk (ho); clear HB; clear HO_3; have HB := n0_; have HO116 := n1_; clear n0_ n1_; clear ho hb hg hat))
                    go_roundg k2
                    case measure => have := HK1.out; have := HK2.out; omega
                    case rel => exact ⟨(y114), (wrap64 (Int.tdiv x4_2 256)), (wrap64 (x5_2 + 1)), (by first | rfl | (simp; done) | (simp [*]; done)), (by first | rfl | (simp; done) | (simp [*]; done)), H', ⟨by have := HK1.out; have := HK2.out; omega⟩, ⟨by (with_reducible repeat (first | apply Kd.R_alloc | apply Kd.R_drewN | apply Kd.R_drew)); exact HO116.out⟩, ⟨by repeat (first | (with_reducible first | exact HB.out | apply below_alloc | apply pw_below_drewN | apply below_drew1) | exact HB.out)⟩⟩
                  · rw [if_neg c11] at H
                    exact absurd H (by simp)
                · rw [if_neg c10] at H
                  have c10b0 : decide (x5_2 < 8) = false := decide_eq_false c10
                  clear c10
                  obtain rfl := Option.some.inj H
                  go_wp2
                  go_ret
                  exact ⟨_, by first | rfl | (simp [errW_none, errW_some] <;> rfl) | (simp [*, errW_none, errW_some] <;> rfl), by (with_reducible repeat (first | apply Kd.R_alloc | apply Kd.R_drewN | apply Kd.R_drew)); exact HO_3.out, by repeat (first | (with_reducible first | exact HB.out | apply below_alloc | apply pw_below_drewN | apply below_drew1) | exact HB.out)⟩
          · rw [if_neg c8] at H
            have c8b0 : (((x3_1.length : Int) % 64) == 56) = false := beq_eq_false_iff_ne.mpr c8
            have c8b1 : (((x3_1.length : Int) % 64) != 56) = true := bne_iff_ne.mpr c8
            by_cases c13 : x3_1.length < 140737488355328
            · rw [if_pos c13] at H
              have LMc13 := Aside0.mk c13
              clear c13
              obtain ⟨y111, hy111⟩ : ∃ y_ : List Int, y_ = (x3_1 ++ [0]) := ⟨_, rfl⟩
              replace H : (serinetteref05_Fill.l0 k1 l0 y111) = some r := by first | (rw [hy111]; with_reducible exact H) | (have H2_ := (Option.bind_some _ _).symm.trans H; rw [hy111]; with_reducible exact H2_) | (have H2_ := (Option.bind_some _ _).symm.trans H; with_reducible exact H2_) | with_reducible exact H | (rw [hy111]; exact H) | exact H
              have Ny111 := Aside0.mk hy111
              clear hy111
              have H' := Aside0.mk H
              clear H
              obtain ⟨Ao14, co14, eo14⟩ := Kd.R_slice HO_3.out
              subst eo14
              go_wp2_with (first | ((with_reducible refine gate_builtin (b := .append) (xs := #[.tmp 15, .tmp 16]) rfl ?_); at_builtin; refine Kd.R_append (Kd.int .u8) (w0 := w) w.heap.size rfl (.tmp 15) (.tmp 16) 22 5 (.int .u8 0) 1 rfl Tryd.underlying22 info5 rfl (by decide) (by omega) (.slice Ao14 x3_1.length co14) x3_1 0 [.int .u8 0] (fun _ => True) (fun _ => False) rfl rfl ?aP (fun _ hk => hk.elim) ?aF ?aO ?aB ?aS ?aL ?_; (case aP => exact rfl); (case aB => exact (by repeat (first | (with_reducible first | exact HB.out | apply below_alloc | apply pw_below_drewN | apply below_drew1) | exact HB.out))); (case aF => exact (fun _ _ => trivial)); (case aO => exact (by (with_reducible repeat (first | apply Kd.R_alloc | apply Kd.R_drewN | apply Kd.R_drew)); exact HO_3.out)); (case aS => exact (below_size (by repeat (first | (with_reducible first | exact HB.out | apply below_alloc | apply pw_below_drewN | apply below_drew1) | exact HB.out)))); (case aL => have := LMc13.out; omega); intro v112 w15 ho hb hg hat; rw [← Ny111.out] at ho; have n0_ := Aside0.mk (hb); have n1_ := Aside0.mk (ho); clear HB; clear HO_3; have HB := n0_; have HO113 := n1_; clear n0_ n1_; clear ho hb hg hat))
              go_roundg k1
              case measure => have := HK1.out; omega
              case rel => exact ⟨(y111), H', ⟨by have := HK1.out; omega⟩, ⟨by (with_reducible repeat (first | apply Kd.R_alloc | apply Kd.R_drewN | apply Kd.R_drew)); exact HO113.out⟩, ⟨by repeat (first | (with_reducible first | exact HB.out | apply below_alloc | apply pw_below_drewN | apply below_drew1) | exact HB.out)⟩⟩
            · rw [if_neg c13] at H
              exact absurd H (by simp)
    · rw [if_neg c3] at H
      exact absurd H (by simp)
  · rw [if_neg c2] at H
    exact absurd H (by simp)

/-! ### serinetteref05_Sines: function 17 -/
def serinetteref05_Sines.f  : Option (List Int) := some (([3614090360, 3905402710, 606105819, 3250441966, 4118548399, 1200080426, 2821735955, 4249261313, 1770035416, 2336552879, 4294925233, 2304563134, 1804603682, 4254626195, 2792965006, 1236535329, 4129170786, 3225465664, 643717713, 3921069994, 3593408605, 38016083, 3634488961, 3889429448, 568446438, 3275163606, 4107603335, 1163531501, 2850285829, 4243563512, 1735328473, 2368359562, 4294588738, 2272392833, 1839030562, 4259657740, 2763975236, 1272893353, 4139469664, 3200236656, 681279174, 3936430074, 3572445317, 76029189, 3654602809, 3873151461, 530742520, 3299628645, 4096336452, 1126891415, 2878612391, 4237533241, 1700485571, 2399980690, 4293915773, 2240044497, 1873313359, 4264355552, 2734768916, 1309151649, 4149444226, 3174756917, 718787259, 3951481745] : List Int))
set_option maxHeartbeats 8000000 in
set_option maxRecDepth 100000 in
theorem serinetteref05_Sines.calls  (r : List Int) (w : World) (h : serinetteref05_Sines.f  = some r) :
    Calls Tryd.prog 17 #[] w fun e w' => ∃ v0_ : Value, e = .returned (v0_) ∧ Kd.R (Kd.int .i64) 3 w' w.heap.size (fun _ => True) v0_ r ∧ Below w.heap.size w w' := by
  have HB := Aside0.mk (Below.refl w.heap.size w)
  have H : (some (([3614090360, 3905402710, 606105819, 3250441966, 4118548399, 1200080426, 2821735955, 4249261313, 1770035416, 2336552879, 4294925233, 2304563134, 1804603682, 4254626195, 2792965006, 1236535329, 4129170786, 3225465664, 643717713, 3921069994, 3593408605, 38016083, 3634488961, 3889429448, 568446438, 3275163606, 4107603335, 1163531501, 2850285829, 4243563512, 1735328473, 2368359562, 4294588738, 2272392833, 1839030562, 4259657740, 2763975236, 1272893353, 4139469664, 3200236656, 681279174, 3936430074, 3572445317, 76029189, 3654602809, 3873151461, 530742520, 3299628645, 4096336452, 1126891415, 2878612391, 4237533241, 1700485571, 2399980690, 4293915773, 2240044497, 1873313359, 4264355552, 2734768916, 1309151649, 4149444226, 3174756917, 718787259, 3951481745] : List Int))) = some r := h
  clear h
  obtain ⟨y117, hy117⟩ : ∃ y_ : List Int, y_ = (([3614090360, 3905402710, 606105819, 3250441966, 4118548399, 1200080426, 2821735955, 4249261313, 1770035416, 2336552879, 4294925233, 2304563134, 1804603682, 4254626195, 2792965006, 1236535329, 4129170786, 3225465664, 643717713, 3921069994, 3593408605, 38016083, 3634488961, 3889429448, 568446438, 3275163606, 4107603335, 1163531501, 2850285829, 4243563512, 1735328473, 2368359562, 4294588738, 2272392833, 1839030562, 4259657740, 2763975236, 1272893353, 4139469664, 3200236656, 681279174, 3936430074, 3572445317, 76029189, 3654602809, 3873151461, 530742520, 3299628645, 4096336452, 1126891415, 2878612391, 4237533241, 1700485571, 2399980690, 4293915773, 2240044497, 1873313359, 4264355552, 2734768916, 1309151649, 4149444226, 3174756917, 718787259, 3951481745] : List Int)) := ⟨_, rfl⟩
  replace H : (some y117) = some r := by first | (rw [hy117]; with_reducible exact H) | (have H2_ := (Option.bind_some _ _).symm.trans H; rw [hy117]; with_reducible exact H2_) | (have H2_ := (Option.bind_some _ _).symm.trans H; with_reducible exact H2_) | with_reducible exact H | (rw [hy117]; exact H) | exact H
  have Ny117 := Aside0.mk hy117
  clear hy117
  obtain rfl := Option.some.inj H
  go_enter Tryd.func17, Tryd.ntmps17
  go_wp2_with (first | ((with_reducible refine gate_dst (N := 1) rfl ?_); refine Kd.R_lit (Kd.int .i64) _ 3 ?hg (N := 1) ?hd (xs := ([3614090360, 3905402710, 606105819, 3250441966, 4118548399, 1200080426, 2821735955, 4249261313, 1770035416, 2336552879, 4294925233, 2304563134, 1804603682, 4254626195, 2792965006, 1236535329, 4129170786, 3225465664, 643717713, 3921069994, 3593408605, 38016083, 3634488961, 3889429448, 568446438, 3275163606, 4107603335, 1163531501, 2850285829, 4243563512, 1735328473, 2368359562, 4294588738, 2272392833, 1839030562, 4259657740, 2763975236, 1272893353, 4139469664, 3200236656, 681279174, 3936430074, 3572445317, 76029189, 3654602809, 3873151461, 530742520, 3299628645, 4096336452, 1126891415, 2878612391, 4237533241, 1700485571, 2399980690, 4293915773, 2240044497, 1873313359, 4264355552, 2734768916, 1309151649, 4149444226, 3174756917, 718787259, 3951481745] : List Int)) (inner := [.int .i64 3614090360, .int .i64 3905402710, .int .i64 606105819, .int .i64 3250441966, .int .i64 4118548399, .int .i64 1200080426, .int .i64 2821735955, .int .i64 4249261313, .int .i64 1770035416, .int .i64 2336552879, .int .i64 4294925233, .int .i64 2304563134, .int .i64 1804603682, .int .i64 4254626195, .int .i64 2792965006, .int .i64 1236535329, .int .i64 4129170786, .int .i64 3225465664, .int .i64 643717713, .int .i64 3921069994, .int .i64 3593408605, .int .i64 38016083, .int .i64 3634488961, .int .i64 3889429448, .int .i64 568446438, .int .i64 3275163606, .int .i64 4107603335, .int .i64 1163531501, .int .i64 2850285829, .int .i64 4243563512, .int .i64 1735328473, .int .i64 2368359562, .int .i64 4294588738, .int .i64 2272392833, .int .i64 1839030562, .int .i64 4259657740, .int .i64 2763975236, .int .i64 1272893353, .int .i64 4139469664, .int .i64 3200236656, .int .i64 681279174, .int .i64 3936430074, .int .i64 3572445317, .int .i64 76029189, .int .i64 3654602809, .int .i64 3873151461, .int .i64 530742520, .int .i64 3299628645, .int .i64 4096336452, .int .i64 1126891415, .int .i64 2878612391, .int .i64 4237533241, .int .i64 1700485571, .int .i64 2399980690, .int .i64 4293915773, .int .i64 2240044497, .int .i64 1873313359, .int .i64 4264355552, .int .i64 2734768916, .int .i64 1309151649, .int .i64 4149444226, .int .i64 3174756917, .int .i64 718787259, .int .i64 3951481745]) (ok := fun _ => True) (okp := fun _ => True) ?hr ?hp (fun _ hk => hk) trivial (Below.refl _ _) (Nat.le_refl _) (by simp) ?_; (case hd => rfl); (case hg => rfl); (case hr => first | (go_simp; done) | (go_simp; rfl)); (case hp => exact (Reps.one (show Kd.M (Kd.int .i64) _ _ _ 3614090360 [.int .i64 3614090360] from rfl) (Reps.one (show Kd.M (Kd.int .i64) _ _ _ 3905402710 [.int .i64 3905402710] from rfl) (Reps.one (show Kd.M (Kd.int .i64) _ _ _ 606105819 [.int .i64 606105819] from rfl) (Reps.one (show Kd.M (Kd.int .i64) _ _ _ 3250441966 [.int .i64 3250441966] from rfl) (Reps.one (show Kd.M (Kd.int .i64) _ _ _ 4118548399 [.int .i64 4118548399] from rfl) (Reps.one (show Kd.M (Kd.int .i64) _ _ _ 1200080426 [.int .i64 1200080426] from rfl) (Reps.one (show Kd.M (Kd.int .i64) _ _ _ 2821735955 [.int .i64 2821735955] from rfl) (Reps.one (show Kd.M (Kd.int .i64) _ _ _ 4249261313 [.int .i64 4249261313] from rfl) (Reps.one (show Kd.M (Kd.int .i64) _ _ _ 1770035416 [.int .i64 1770035416] from rfl) (Reps.one (show Kd.M (Kd.int .i64) _ _ _ 2336552879 [.int .i64 2336552879] from rfl) (Reps.one (show Kd.M (Kd.int .i64) _ _ _ 4294925233 [.int .i64 4294925233] from rfl) (Reps.one (show Kd.M (Kd.int .i64) _ _ _ 2304563134 [.int .i64 2304563134] from rfl) (Reps.one (show Kd.M (Kd.int .i64) _ _ _ 1804603682 [.int .i64 1804603682] from rfl) (Reps.one (show Kd.M (Kd.int .i64) _ _ _ 4254626195 [.int .i64 4254626195] from rfl) (Reps.one (show Kd.M (Kd.int .i64) _ _ _ 2792965006 [.int .i64 2792965006] from rfl) (Reps.one (show Kd.M (Kd.int .i64) _ _ _ 1236535329 [.int .i64 1236535329] from rfl) (Reps.one (show Kd.M (Kd.int .i64) _ _ _ 4129170786 [.int .i64 4129170786] from rfl) (Reps.one (show Kd.M (Kd.int .i64) _ _ _ 3225465664 [.int .i64 3225465664] from rfl) (Reps.one (show Kd.M (Kd.int .i64) _ _ _ 643717713 [.int .i64 643717713] from rfl) (Reps.one (show Kd.M (Kd.int .i64) _ _ _ 3921069994 [.int .i64 3921069994] from rfl) (Reps.one (show Kd.M (Kd.int .i64) _ _ _ 3593408605 [.int .i64 3593408605] from rfl) (Reps.one (show Kd.M (Kd.int .i64) _ _ _ 38016083 [.int .i64 38016083] from rfl) (Reps.one (show Kd.M (Kd.int .i64) _ _ _ 3634488961 [.int .i64 3634488961] from rfl) (Reps.one (show Kd.M (Kd.int .i64) _ _ _ 3889429448 [.int .i64 3889429448] from rfl) (Reps.one (show Kd.M (Kd.int .i64) _ _ _ 568446438 [.int .i64 568446438] from rfl) (Reps.one (show Kd.M (Kd.int .i64) _ _ _ 3275163606 [.int .i64 3275163606] from rfl) (Reps.one (show Kd.M (Kd.int .i64) _ _ _ 4107603335 [.int .i64 4107603335] from rfl) (Reps.one (show Kd.M (Kd.int .i64) _ _ _ 1163531501 [.int .i64 1163531501] from rfl) (Reps.one (show Kd.M (Kd.int .i64) _ _ _ 2850285829 [.int .i64 2850285829] from rfl) (Reps.one (show Kd.M (Kd.int .i64) _ _ _ 4243563512 [.int .i64 4243563512] from rfl) (Reps.one (show Kd.M (Kd.int .i64) _ _ _ 1735328473 [.int .i64 1735328473] from rfl) (Reps.one (show Kd.M (Kd.int .i64) _ _ _ 2368359562 [.int .i64 2368359562] from rfl) (Reps.one (show Kd.M (Kd.int .i64) _ _ _ 4294588738 [.int .i64 4294588738] from rfl) (Reps.one (show Kd.M (Kd.int .i64) _ _ _ 2272392833 [.int .i64 2272392833] from rfl) (Reps.one (show Kd.M (Kd.int .i64) _ _ _ 1839030562 [.int .i64 1839030562] from rfl) (Reps.one (show Kd.M (Kd.int .i64) _ _ _ 4259657740 [.int .i64 4259657740] from rfl) (Reps.one (show Kd.M (Kd.int .i64) _ _ _ 2763975236 [.int .i64 2763975236] from rfl) (Reps.one (show Kd.M (Kd.int .i64) _ _ _ 1272893353 [.int .i64 1272893353] from rfl) (Reps.one (show Kd.M (Kd.int .i64) _ _ _ 4139469664 [.int .i64 4139469664] from rfl) (Reps.one (show Kd.M (Kd.int .i64) _ _ _ 3200236656 [.int .i64 3200236656] from rfl) (Reps.one (show Kd.M (Kd.int .i64) _ _ _ 681279174 [.int .i64 681279174] from rfl) (Reps.one (show Kd.M (Kd.int .i64) _ _ _ 3936430074 [.int .i64 3936430074] from rfl) (Reps.one (show Kd.M (Kd.int .i64) _ _ _ 3572445317 [.int .i64 3572445317] from rfl) (Reps.one (show Kd.M (Kd.int .i64) _ _ _ 76029189 [.int .i64 76029189] from rfl) (Reps.one (show Kd.M (Kd.int .i64) _ _ _ 3654602809 [.int .i64 3654602809] from rfl) (Reps.one (show Kd.M (Kd.int .i64) _ _ _ 3873151461 [.int .i64 3873151461] from rfl) (Reps.one (show Kd.M (Kd.int .i64) _ _ _ 530742520 [.int .i64 530742520] from rfl) (Reps.one (show Kd.M (Kd.int .i64) _ _ _ 3299628645 [.int .i64 3299628645] from rfl) (Reps.one (show Kd.M (Kd.int .i64) _ _ _ 4096336452 [.int .i64 4096336452] from rfl) (Reps.one (show Kd.M (Kd.int .i64) _ _ _ 1126891415 [.int .i64 1126891415] from rfl) (Reps.one (show Kd.M (Kd.int .i64) _ _ _ 2878612391 [.int .i64 2878612391] from rfl) (Reps.one (show Kd.M (Kd.int .i64) _ _ _ 4237533241 [.int .i64 4237533241] from rfl) (Reps.one (show Kd.M (Kd.int .i64) _ _ _ 1700485571 [.int .i64 1700485571] from rfl) (Reps.one (show Kd.M (Kd.int .i64) _ _ _ 2399980690 [.int .i64 2399980690] from rfl) (Reps.one (show Kd.M (Kd.int .i64) _ _ _ 4293915773 [.int .i64 4293915773] from rfl) (Reps.one (show Kd.M (Kd.int .i64) _ _ _ 2240044497 [.int .i64 2240044497] from rfl) (Reps.one (show Kd.M (Kd.int .i64) _ _ _ 1873313359 [.int .i64 1873313359] from rfl) (Reps.one (show Kd.M (Kd.int .i64) _ _ _ 4264355552 [.int .i64 4264355552] from rfl) (Reps.one (show Kd.M (Kd.int .i64) _ _ _ 2734768916 [.int .i64 2734768916] from rfl) (Reps.one (show Kd.M (Kd.int .i64) _ _ _ 1309151649 [.int .i64 1309151649] from rfl) (Reps.one (show Kd.M (Kd.int .i64) _ _ _ 4149444226 [.int .i64 4149444226] from rfl) (Reps.one (show Kd.M (Kd.int .i64) _ _ _ 3174756917 [.int .i64 3174756917] from rfl) (Reps.one (show Kd.M (Kd.int .i64) _ _ _ 718787259 [.int .i64 718787259] from rfl) (Reps.one (show Kd.M (Kd.int .i64) _ _ _ 3951481745 [.int .i64 3951481745] from rfl) (Reps.none _ _)))))))))))))))))))))))))))))))))))))))))))))))))))))))))))))))))); intro v118 w1 ho2 hb hg_ hnew_; clear hg_ hnew_; (first | rw [← Ny117.out] at ho2 | (simp only [Int.reduceToNat] at ho2; rw [← Ny117.out] at ho2)); have n0_ := Aside0.mk (Kd.R_lower ho2 (below_size (by repeat (first | (with_reducible first | exact HB.out | apply below_alloc | apply pw_below_drewN | apply below_drew1) | exact HB.out)))); have n1_ := Aside0.mk (below_step (by repeat (first | (with_reducible first | exact HB.out | apply below_alloc | apply pw_below_drewN | apply below_drew1) | exact HB.out)) hb); clear HB; have HO119 := n0_; have HB := n1_; clear n0_ n1_; clear hb ho2))
  go_ret
  exact ⟨_, by first | rfl | (simp [errW_none, errW_some] <;> rfl) | (simp [*, errW_none, errW_some] <;> rfl), by (with_reducible repeat (first | apply Kd.R_alloc | apply Kd.R_drewN | apply Kd.R_drew)); exact HO119.out, by repeat (first | (with_reducible first | exact HB.out | apply below_alloc | apply pw_below_drewN | apply below_drew1) | exact HB.out)⟩

end Go.Proofs.YtldeigekagpekaaDoor.GDig
