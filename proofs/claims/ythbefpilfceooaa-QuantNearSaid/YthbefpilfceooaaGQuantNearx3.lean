-- WRITTEN BY giv.py, a program of this session (wip/giv.py), over the kit's printer: not a printed text
import Derived.Test.YthbefpilfceooaaGQuantNearx0
import Derived.Test.YthbefpilfceooaaGQuantNearx1
import Derived.Test.YthbefpilfceooaaGQuantNearx2
namespace Go.Proofs.Ythbefpilfceooaa.GQuantNear
open Go.RowKit Go.Proofs.YthbefpilfceooaaW.PrintWords Go.Proofs.YthbefpilfceooaaW.PrintLast Go.Proofs.YthbefpilfceooaaW.PrintMore
attribute [local go_sem] max2_int min2_int max_two min_two max_three min_three max_four min_four   -- for this text's walks alone
set_option linter.unusedVariables false
set_option linter.unusedSimpArgs false

/-! ### serinettelaw11_QuantNear: function 5 -/
mutual
def serinettelaw11_QuantNear.j0 : Nat → List Int → Bool → Int → Bool → Int → Int → List Int → Option (Bool)
  | 0, _, _, _, _, _, _, _ => none
  | k + 1, x0, x5, x7, x36, x137000, x137001, x137002 => if x36 = true then (some x5) else (if (x137002.length : Int) = (x0.length : Int) then (if x137000 < 0 then (serinettelaw11_QuantNear.j1 k x0 x5 x7 true x137000 x137001 x137002) else (serinettelaw11_QuantNear.j1 k x0 x5 x7 (decide (x137000 > 15)) x137000 x137001 x137002)) else (serinettelaw11_QuantNear.j1 k x0 x5 x7 true x137000 x137001 x137002))
def serinettelaw11_QuantNear.j1 : Nat → List Int → Bool → Int → Bool → Int → Int → List Int → Option (Bool)
  | 0, _, _, _, _, _, _, _ => none
  | k + 1, x0, x5, x7, x53, x137000, x137001, x137002 => if x53 = true then (some false) else (serinettelaw11_QuantNear.l0 k x0 x5 x7 0 0 x137000 x137001 x137002)
def serinettelaw11_QuantNear.l0 : Nat → List Int → Bool → Int → Int → Int → Int → Int → List Int → Option (Bool)
  | 0, _, _, _, _, _, _, _, _ => none
  | k + 1, x0, x5, x7, x10, x11, x137000, x137001, x137002 => if x11 < (x0.length : Int) then (if 0 ≤ x11 then (if x11 < (x137002.length : Int) then (if 0 ≤ (wrap64 (x7 - 1)) then (if (rd x137002 x11) = (wrap64 ((shl .i64 1 (wrap64 (x7 - 1))) - 1)) then (serinettelaw11_QuantNear.j3 k x0 x5 x7 x10 x11 (rd x137002 x11) true x137000 x137001 x137002) else (serinettelaw11_QuantNear.j3 k x0 x5 x7 x10 x11 (rd x137002 x11) ((rd x137002 x11) == (wrap64 (-(shl .i64 1 (wrap64 (x7 - 1)))))) x137000 x137001 x137002)) else (none)) else (none)) else (none)) else (some x5)
def serinettelaw11_QuantNear.j3 : Nat → List Int → Bool → Int → Int → Int → Int → Bool → Int → Int → List Int → Option (Bool)
  | 0, _, _, _, _, _, _, _, _, _, _ => none
  | k + 1, x0, x5, x7, x10, x11, x12, x78, x137000, x137001, x137002 => if x78 = true then (some x5) else (if 0 ≤ x11 then (if x11 < (x0.length : Int) then (if 0 ≤ x137000 then (if (wrap64 ((wrap64 (x10 + (wrap64 ((rd x0 x11) * (shl .i64 1 x137000))))) - (wrap64 (x12 * 1048576)))) > 524288 then (some false) else (if (wrap64 ((wrap64 (x10 + (wrap64 ((rd x0 x11) * (shl .i64 1 x137000))))) - (wrap64 (x12 * 1048576)))) < (-524288) then (some false) else (serinettelaw11_QuantNear.l0 k x0 x5 x7 (wrap64 ((wrap64 (x10 + (wrap64 ((rd x0 x11) * (shl .i64 1 x137000))))) - (wrap64 (x12 * 1048576)))) (wrap64 (x11 + 1)) x137000 x137001 x137002))) else (none)) else (none)) else (none))
end
def serinettelaw11_QuantNear.f (k : Nat) (l0 : List Int) (a1 : Int) : Option (Bool) := (serinettelaw11_awake.f k).bind fun t128 => ((serinetteref07_Near.f k l0).bind fun t129 => ((quant_Quantise.f k l0 (wrap64 (2 + (wrap64 (Int.tmod a1 14))))).bind fun bt130 => (if (l0.length : Int) > 32 then (serinettelaw11_QuantNear.j0 k l0 t128 (wrap64 (2 + (wrap64 (Int.tmod a1 14)))) true bt130.1 bt130.2.1 bt130.2.2.1) else (if t129 = true then (serinettelaw11_QuantNear.j0 k l0 t128 (wrap64 (2 + (wrap64 (Int.tmod a1 14)))) (bt130.2.2.2 != 0) bt130.1 bt130.2.1 bt130.2.2.1) else (serinettelaw11_QuantNear.j0 k l0 t128 (wrap64 (2 + (wrap64 (Int.tmod a1 14)))) true bt130.1 bt130.2.1 bt130.2.2.1)))))
theorem serinettelaw11_QuantNear.mono_l : ∀ k, (∀ y0 y1 y2 y3 y4 y5 y6, LeO (serinettelaw11_QuantNear.j0 k y0 y1 y2 y3 y4 y5 y6) (serinettelaw11_QuantNear.j0 (k + 1) y0 y1 y2 y3 y4 y5 y6)) ∧ (∀ y0 y1 y2 y3 y4 y5 y6, LeO (serinettelaw11_QuantNear.j1 k y0 y1 y2 y3 y4 y5 y6) (serinettelaw11_QuantNear.j1 (k + 1) y0 y1 y2 y3 y4 y5 y6)) ∧ (∀ y0 y1 y2 y3 y4 y5 y6 y7, LeO (serinettelaw11_QuantNear.l0 k y0 y1 y2 y3 y4 y5 y6 y7) (serinettelaw11_QuantNear.l0 (k + 1) y0 y1 y2 y3 y4 y5 y6 y7)) ∧ (∀ y0 y1 y2 y3 y4 y5 y6 y7 y8 y9, LeO (serinettelaw11_QuantNear.j3 k y0 y1 y2 y3 y4 y5 y6 y7 y8 y9) (serinettelaw11_QuantNear.j3 (k + 1) y0 y1 y2 y3 y4 y5 y6 y7 y8 y9))
  | 0 => ⟨fun _ _ _ _ _ _ _ r h => by simp [serinettelaw11_QuantNear.j0] at h, fun _ _ _ _ _ _ _ r h => by simp [serinettelaw11_QuantNear.j1] at h, fun _ _ _ _ _ _ _ _ r h => by simp [serinettelaw11_QuantNear.l0] at h, fun _ _ _ _ _ _ _ _ _ _ r h => by simp [serinettelaw11_QuantNear.j3] at h⟩
  | k + 1 => by
    obtain ⟨ih0, ih1, ih2, ih3⟩ := serinettelaw11_QuantNear.mono_l k
    refine ⟨?_, ?_, ?_, ?_⟩
    · intro y0 y1 y2 y3 y4 y5 y6
      unfold serinettelaw11_QuantNear.j0
      repeat' first
      | (with_reducible exact ih0 _ _ _ _ _ _ _)
      | (with_reducible exact ih1 _ _ _ _ _ _ _)
      | (with_reducible exact ih2 _ _ _ _ _ _ _ _)
      | (with_reducible exact ih3 _ _ _ _ _ _ _ _ _ _)
      | (with_reducible exact quant_Quantise.mono _ _ _)
      | (with_reducible exact serinettelaw11_awake.mono _)
      | (with_reducible exact serinetteref07_Near.mono _ _)
      | (with_reducible exact LeO.refl _)
      | (with_reducible exact LeO.none _)
      | (with_reducible refine LeO.ite ?_ ?_)
      | (with_reducible refine LeO.bind ?_ (fun _ => ?_))
      | exact ih0 _ _ _ _ _ _ _
      | exact ih1 _ _ _ _ _ _ _
      | exact ih2 _ _ _ _ _ _ _ _
      | exact ih3 _ _ _ _ _ _ _ _ _ _
      | exact quant_Quantise.mono _ _ _
      | exact serinettelaw11_awake.mono _
      | exact serinetteref07_Near.mono _ _
      | exact LeO.none _
      | refine LeO.ite ?_ ?_
      | refine LeO.bind ?_ (fun _ => ?_)
    · intro y0 y1 y2 y3 y4 y5 y6
      unfold serinettelaw11_QuantNear.j1
      repeat' first
      | (with_reducible exact ih0 _ _ _ _ _ _ _)
      | (with_reducible exact ih1 _ _ _ _ _ _ _)
      | (with_reducible exact ih2 _ _ _ _ _ _ _ _)
      | (with_reducible exact ih3 _ _ _ _ _ _ _ _ _ _)
      | (with_reducible exact quant_Quantise.mono _ _ _)
      | (with_reducible exact serinettelaw11_awake.mono _)
      | (with_reducible exact serinetteref07_Near.mono _ _)
      | (with_reducible exact LeO.refl _)
      | (with_reducible exact LeO.none _)
      | (with_reducible refine LeO.ite ?_ ?_)
      | (with_reducible refine LeO.bind ?_ (fun _ => ?_))
      | exact ih0 _ _ _ _ _ _ _
      | exact ih1 _ _ _ _ _ _ _
      | exact ih2 _ _ _ _ _ _ _ _
      | exact ih3 _ _ _ _ _ _ _ _ _ _
      | exact quant_Quantise.mono _ _ _
      | exact serinettelaw11_awake.mono _
      | exact serinetteref07_Near.mono _ _
      | exact LeO.none _
      | refine LeO.ite ?_ ?_
      | refine LeO.bind ?_ (fun _ => ?_)
    · intro y0 y1 y2 y3 y4 y5 y6 y7
      unfold serinettelaw11_QuantNear.l0
      repeat' first
      | (with_reducible exact ih0 _ _ _ _ _ _ _)
      | (with_reducible exact ih1 _ _ _ _ _ _ _)
      | (with_reducible exact ih2 _ _ _ _ _ _ _ _)
      | (with_reducible exact ih3 _ _ _ _ _ _ _ _ _ _)
      | (with_reducible exact quant_Quantise.mono _ _ _)
      | (with_reducible exact serinettelaw11_awake.mono _)
      | (with_reducible exact serinetteref07_Near.mono _ _)
      | (with_reducible exact LeO.refl _)
      | (with_reducible exact LeO.none _)
      | (with_reducible refine LeO.ite ?_ ?_)
      | (with_reducible refine LeO.bind ?_ (fun _ => ?_))
      | exact ih0 _ _ _ _ _ _ _
      | exact ih1 _ _ _ _ _ _ _
      | exact ih2 _ _ _ _ _ _ _ _
      | exact ih3 _ _ _ _ _ _ _ _ _ _
      | exact quant_Quantise.mono _ _ _
      | exact serinettelaw11_awake.mono _
      | exact serinetteref07_Near.mono _ _
      | exact LeO.none _
      | refine LeO.ite ?_ ?_
      | refine LeO.bind ?_ (fun _ => ?_)
    · intro y0 y1 y2 y3 y4 y5 y6 y7 y8 y9
      unfold serinettelaw11_QuantNear.j3
      repeat' first
      | (with_reducible exact ih0 _ _ _ _ _ _ _)
      | (with_reducible exact ih1 _ _ _ _ _ _ _)
      | (with_reducible exact ih2 _ _ _ _ _ _ _ _)
      | (with_reducible exact ih3 _ _ _ _ _ _ _ _ _ _)
      | (with_reducible exact quant_Quantise.mono _ _ _)
      | (with_reducible exact serinettelaw11_awake.mono _)
      | (with_reducible exact serinetteref07_Near.mono _ _)
      | (with_reducible exact LeO.refl _)
      | (with_reducible exact LeO.none _)
      | (with_reducible refine LeO.ite ?_ ?_)
      | (with_reducible refine LeO.bind ?_ (fun _ => ?_))
      | exact ih0 _ _ _ _ _ _ _
      | exact ih1 _ _ _ _ _ _ _
      | exact ih2 _ _ _ _ _ _ _ _
      | exact ih3 _ _ _ _ _ _ _ _ _ _
      | exact quant_Quantise.mono _ _ _
      | exact serinettelaw11_awake.mono _
      | exact serinetteref07_Near.mono _ _
      | exact LeO.none _
      | refine LeO.ite ?_ ?_
      | refine LeO.bind ?_ (fun _ => ?_)
theorem serinettelaw11_QuantNear.mono : ∀ a0 a1 k, LeO (serinettelaw11_QuantNear.f k a0 a1) (serinettelaw11_QuantNear.f (k + 1) a0 a1) := by
  intro a0 a1 k
  obtain ⟨ih0, ih1, ih2, ih3⟩ := serinettelaw11_QuantNear.mono_l k
  unfold serinettelaw11_QuantNear.f
  repeat' first
      | (with_reducible exact ih0 _ _ _ _ _ _ _)
      | (with_reducible exact ih1 _ _ _ _ _ _ _)
      | (with_reducible exact ih2 _ _ _ _ _ _ _ _)
      | (with_reducible exact ih3 _ _ _ _ _ _ _ _ _ _)
      | (with_reducible exact quant_Quantise.mono _ _ _)
      | (with_reducible exact serinettelaw11_awake.mono _)
      | (with_reducible exact serinetteref07_Near.mono _ _)
      | (with_reducible exact LeO.refl _)
      | (with_reducible exact LeO.none _)
      | (with_reducible refine LeO.ite ?_ ?_)
      | (with_reducible refine LeO.bind ?_ (fun _ => ?_))
      | exact ih0 _ _ _ _ _ _ _
      | exact ih1 _ _ _ _ _ _ _
      | exact ih2 _ _ _ _ _ _ _ _
      | exact ih3 _ _ _ _ _ _ _ _ _ _
      | exact quant_Quantise.mono _ _ _
      | exact serinettelaw11_awake.mono _
      | exact serinetteref07_Near.mono _ _
      | exact LeO.none _
      | refine LeO.ite ?_ ?_
      | refine LeO.bind ?_ (fun _ => ?_)
set_option maxHeartbeats 8000000 in
set_option maxRecDepth 100000 in
theorem serinettelaw11_QuantNear.calls (k : Nat) (A0 : Option Addr) (c0 : Nat) (l0 : List Int) (a1 : Int) (r : Bool) (w : World) (hr0 : Kd.C (Kd.int .i64) w A0 l0.length l0) (hc0 : l0.length ≤ c0) (h : serinettelaw11_QuantNear.f k l0 a1 = some r) :
    Calls Try.prog 5 #[.slice A0 l0.length c0, .int .u8 a1] w fun e w' => e = .returned (.bool r) ∧ Below w.heap.size w w' := by
  have hu26 := Try.underlying26
  have HR0 := Aside0.mk hr0
  have HC0 := Aside0.mk hc0
  clear hr0 hc0
  have HB := Aside0.mk (Below.refl w.heap.size w)
  have H : ((serinettelaw11_awake.f k).bind fun t128 => ((serinetteref07_Near.f k l0).bind fun t129 => ((quant_Quantise.f k l0 (wrap64 (2 + (wrap64 (Int.tmod a1 14))))).bind fun bt130 => (if (l0.length : Int) > 32 then (serinettelaw11_QuantNear.j0 k l0 t128 (wrap64 (2 + (wrap64 (Int.tmod a1 14)))) true bt130.1 bt130.2.1 bt130.2.2.1) else (if t129 = true then (serinettelaw11_QuantNear.j0 k l0 t128 (wrap64 (2 + (wrap64 (Int.tmod a1 14)))) (bt130.2.2.2 != 0) bt130.1 bt130.2.1 bt130.2.2.1) else (serinettelaw11_QuantNear.j0 k l0 t128 (wrap64 (2 + (wrap64 (Int.tmod a1 14)))) true bt130.1 bt130.2.1 bt130.2.2.1)))))) = some r := h
  clear h
  replace H := Option.bind_eq_some_iff.mp H
  obtain ⟨t128, A30, H⟩ := H
  replace H : ((serinetteref07_Near.f k l0).bind fun t129 => ((quant_Quantise.f k l0 (wrap64 (2 + (wrap64 (Int.tmod a1 14))))).bind fun bt130 => (if (l0.length : Int) > 32 then (serinettelaw11_QuantNear.j0 k l0 t128 (wrap64 (2 + (wrap64 (Int.tmod a1 14)))) true bt130.1 bt130.2.1 bt130.2.2.1) else (if t129 = true then (serinettelaw11_QuantNear.j0 k l0 t128 (wrap64 (2 + (wrap64 (Int.tmod a1 14)))) (bt130.2.2.2 != 0) bt130.1 bt130.2.1 bt130.2.2.1) else (serinettelaw11_QuantNear.j0 k l0 t128 (wrap64 (2 + (wrap64 (Int.tmod a1 14)))) true bt130.1 bt130.2.1 bt130.2.2.1))))) = some r := H
  have A3 := Aside0.mk A30
  clear A30
  replace H := Option.bind_eq_some_iff.mp H
  obtain ⟨t129, A40, H⟩ := H
  replace H : ((quant_Quantise.f k l0 (wrap64 (2 + (wrap64 (Int.tmod a1 14))))).bind fun bt130 => (if (l0.length : Int) > 32 then (serinettelaw11_QuantNear.j0 k l0 t128 (wrap64 (2 + (wrap64 (Int.tmod a1 14)))) true bt130.1 bt130.2.1 bt130.2.2.1) else (if t129 = true then (serinettelaw11_QuantNear.j0 k l0 t128 (wrap64 (2 + (wrap64 (Int.tmod a1 14)))) (bt130.2.2.2 != 0) bt130.1 bt130.2.1 bt130.2.2.1) else (serinettelaw11_QuantNear.j0 k l0 t128 (wrap64 (2 + (wrap64 (Int.tmod a1 14)))) true bt130.1 bt130.2.1 bt130.2.2.1)))) = some r := H
  have A4 := Aside0.mk A40
  clear A40
  replace H := Option.bind_eq_some_iff.mp H
  obtain ⟨⟨t130, t131, t132, t135⟩, A50, H⟩ := H
  replace H : (if (l0.length : Int) > 32 then (serinettelaw11_QuantNear.j0 k l0 t128 (wrap64 (2 + (wrap64 (Int.tmod a1 14)))) true t130 t131 t132) else (if t129 = true then (serinettelaw11_QuantNear.j0 k l0 t128 (wrap64 (2 + (wrap64 (Int.tmod a1 14)))) (t135 != 0) t130 t131 t132) else (serinettelaw11_QuantNear.j0 k l0 t128 (wrap64 (2 + (wrap64 (Int.tmod a1 14)))) true t130 t131 t132))) = some r := H
  have A5 := Aside0.mk A50
  clear A50
  have HC6 := Aside0.mk H
  clear H
  go_enter Try.func5, Try.ntmps5
  go_upto_region 5 with (first | (go_at_call 9; (with_reducible refine (serinettelaw11_awake.calls k  t128 _ A3.out).mono ?_); rintro e w7 ⟨rfl, hb⟩; have n0_ := Aside0.mk (below_step (by repeat (first | (with_reducible first | exact HB.out | apply below_alloc | apply pw_below_drewN | apply below_drew1) | exact HB.out)) hb); clear HB; have HB := n0_; clear n0_; (try clear hb); (try clear hb2); (try clear hk); (try clear hi)) | (go_at_call 10; (with_reducible refine (serinetteref07_Near.calls k _ _ l0 t129 _ ?side1 ?side2 A4.out).mono ?_); (case side1 => repeat (first | exact (Kd.C_below HR0.out HB.out) | (with_reducible refine Kd.C_alloc ?_ _) | (with_reducible refine Kd.C_drewN ?_ _) | (with_reducible refine Kd.C_drew ?_))); (case side2 => exact HC0.out); rintro e w' ⟨rfl, ⟨nd, rfl⟩⟩; (try first | exact ⟨rfl, _, World.drewN_drewN _ _ _⟩ | exact ⟨rfl, _, Eq.trans (World.drewN_drewN _ _ _) (congrArg (World.drewN _) (Nat.add_assoc _ _ _))⟩)) | (go_at_call 11; (with_reducible refine (quant_Quantise.calls k _ _ l0 (wrap64 (2 + (wrap64 (Int.tmod a1 14)))) t130 t131 t132 t135 _ ?side1 ?side2 A5.out).mono ?_); (case side1 => repeat (first | exact (Kd.C_below HR0.out (by repeat (first | (with_reducible first | exact HB.out | apply below_alloc | apply pw_below_drewN | apply below_drew1) | exact HB.out))) | (with_reducible refine Kd.C_alloc ?_ _) | (with_reducible refine Kd.C_drewN ?_ _) | (with_reducible refine Kd.C_drew ?_))); (case side2 => exact HC0.out); rintro e w8 ⟨v133, rfl, ho0, hb⟩; have n0_ := Aside0.mk (Kd.R_lower ho0 (below_size (by repeat (first | (with_reducible first | exact HB.out | apply below_alloc | apply pw_below_drewN | apply below_drew1) | exact HB.out)))); have n1_ := Aside0.mk (below_step (by repeat (first | (with_reducible first | exact HB.out | apply below_alloc | apply pw_below_drewN | apply below_drew1) | exact HB.out)) hb); clear HB; have HO134 := n0_; have HB := n1_; clear n0_ n1_; (try clear hb); (try clear hb2); (try clear hk); (try clear hi); (try clear ho0)) | ((with_reducible refine gate_dst (N := 8) rfl ?_); refine box_event ?hg (N := 8) ?hd (cs := #[.int .i64 0, .int .i64 0, .slice none 0 0]) (t := 26) ?hr ?_; (case hd => rfl); (case hg => rfl); (case hr => first | (go_simp; done) | (go_simp; rfl)); intro gb136 hg w9 hbox hb; have n0_ := Aside0.mk (Kd.R_below (by (with_reducible repeat (first | apply Kd.R_alloc | apply Kd.R_drewN | apply Kd.R_drew)); exact HO134.out) hb); have n1_ := Aside0.mk (below_step (by repeat (first | (with_reducible first | exact HB.out | apply below_alloc | apply pw_below_drewN | apply below_drew1) | exact HB.out)) hb); have n2_ := Aside0.mk (hbox); have n3_ := Aside0.mk ((by rw [hg]; exact (below_size (by repeat (first | (with_reducible first | exact HB.out | apply below_alloc | apply pw_below_drewN | apply below_drew1) | exact HB.out))) : w.heap.size ≤ gb136)); have n4_ := Aside0.mk ((by rw [hg]; exact (below_size (by repeat (first | (with_reducible first | exact HB.out | apply below_alloc | apply pw_below_drewN | apply below_drew1) | exact HB.out))) : w.heap.size ≤ gb136)); clear HO134; clear HB; have HO134 := n0_; have HB := n1_; have BK136 := n2_; have GW136 := n3_; have GE136 := n4_; clear n0_ n1_ n2_ n3_ n4_; clear hb hbox hg; have hcz10_0 : w9.cell? ⟨gb136, 0, none⟩ = some (.int .i64 0) := (blk_cell BK136.out 0).trans rfl; have hcz10_1 : w9.cell? ⟨gb136, 1, none⟩ = some (.int .i64 0) := (blk_cell BK136.out 1).trans rfl; have hcz10_2 : w9.cell? ⟨gb136, 2, none⟩ = some (.slice none 0 0) := (blk_cell BK136.out 2).trans rfl; have hfz10_0 := blk_frozen BK136.out 0; have hfz10_1 := blk_frozen BK136.out 1; have hfz10_2 := blk_frozen BK136.out 2; obtain ⟨Ao11, co11, eo11⟩ := Kd.R_slice HO134.out; subst eo11))
  repeat (go_quiet (first | (go_at_call 9; (with_reducible refine (serinettelaw11_awake.calls k  t128 _ A3.out).mono ?_); rintro e w7 ⟨rfl, hb⟩; have n0_ := Aside0.mk (below_step (by repeat (first | (with_reducible first | exact HB.out | apply below_alloc | apply pw_below_drewN | apply below_drew1) | exact HB.out)) hb); clear HB; have HB := n0_; clear n0_; (try clear hb); (try clear hb2); (try clear hk); (try clear hi)) | (go_at_call 10; (with_reducible refine (serinetteref07_Near.calls k _ _ l0 t129 _ ?side1 ?side2 A4.out).mono ?_); (case side1 => repeat (first | exact (Kd.C_below HR0.out HB.out) | (with_reducible refine Kd.C_alloc ?_ _) | (with_reducible refine Kd.C_drewN ?_ _) | (with_reducible refine Kd.C_drew ?_))); (case side2 => exact HC0.out); rintro e w' ⟨rfl, ⟨nd, rfl⟩⟩; (try first | exact ⟨rfl, _, World.drewN_drewN _ _ _⟩ | exact ⟨rfl, _, Eq.trans (World.drewN_drewN _ _ _) (congrArg (World.drewN _) (Nat.add_assoc _ _ _))⟩)) | (go_at_call 11; (with_reducible refine (quant_Quantise.calls k _ _ l0 (wrap64 (2 + (wrap64 (Int.tmod a1 14)))) t130 t131 t132 t135 _ ?side1 ?side2 A5.out).mono ?_); (case side1 => repeat (first | exact (Kd.C_below HR0.out (by repeat (first | (with_reducible first | exact HB.out | apply below_alloc | apply pw_below_drewN | apply below_drew1) | exact HB.out))) | (with_reducible refine Kd.C_alloc ?_ _) | (with_reducible refine Kd.C_drewN ?_ _) | (with_reducible refine Kd.C_drew ?_))); (case side2 => exact HC0.out); rintro e w8 ⟨v133, rfl, ho0, hb⟩; have n0_ := Aside0.mk (Kd.R_lower ho0 (below_size (by repeat (first | (with_reducible first | exact HB.out | apply below_alloc | apply pw_below_drewN | apply below_drew1) | exact HB.out)))); have n1_ := Aside0.mk (below_step (by repeat (first | (with_reducible first | exact HB.out | apply below_alloc | apply pw_below_drewN | apply below_drew1) | exact HB.out)) hb); clear HB; have HO134 := n0_; have HB := n1_; clear n0_ n1_; (try clear hb); (try clear hb2); (try clear hk); (try clear hi); (try clear ho0)) | ((with_reducible refine gate_dst (N := 8) rfl ?_); refine box_event ?hg (N := 8) ?hd (cs := #[.int .i64 0, .int .i64 0, .slice none 0 0]) (t := 26) ?hr ?_; (case hd => rfl); (case hg => rfl); (case hr => first | (go_simp; done) | (go_simp; rfl)); intro gb136 hg w9 hbox hb; have n0_ := Aside0.mk (Kd.R_below (by (with_reducible repeat (first | apply Kd.R_alloc | apply Kd.R_drewN | apply Kd.R_drew)); exact HO134.out) hb); have n1_ := Aside0.mk (below_step (by repeat (first | (with_reducible first | exact HB.out | apply below_alloc | apply pw_below_drewN | apply below_drew1) | exact HB.out)) hb); have n2_ := Aside0.mk (hbox); have n3_ := Aside0.mk ((by rw [hg]; exact (below_size (by repeat (first | (with_reducible first | exact HB.out | apply below_alloc | apply pw_below_drewN | apply below_drew1) | exact HB.out))) : w.heap.size ≤ gb136)); have n4_ := Aside0.mk ((by rw [hg]; exact (below_size (by repeat (first | (with_reducible first | exact HB.out | apply below_alloc | apply pw_below_drewN | apply below_drew1) | exact HB.out))) : w.heap.size ≤ gb136)); clear HO134; clear HB; have HO134 := n0_; have HB := n1_; have BK136 := n2_; have GW136 := n3_; have GE136 := n4_; clear n0_ n1_ n2_ n3_ n4_; clear hb hbox hg; have hcz10_0 : w9.cell? ⟨gb136, 0, none⟩ = some (.int .i64 0) := (blk_cell BK136.out 0).trans rfl; have hcz10_1 : w9.cell? ⟨gb136, 1, none⟩ = some (.int .i64 0) := (blk_cell BK136.out 1).trans rfl; have hcz10_2 : w9.cell? ⟨gb136, 2, none⟩ = some (.slice none 0 0) := (blk_cell BK136.out 2).trans rfl; have hfz10_0 := blk_frozen BK136.out 0; have hfz10_1 := blk_frozen BK136.out 1; have hfz10_2 := blk_frozen BK136.out 2; obtain ⟨Ao11, co11, eo11⟩ := Kd.R_slice HO134.out; subst eo11)); go_upto_region 5 with (first | (go_at_call 9; (with_reducible refine (serinettelaw11_awake.calls k  t128 _ A3.out).mono ?_); rintro e w7 ⟨rfl, hb⟩; have n0_ := Aside0.mk (below_step (by repeat (first | (with_reducible first | exact HB.out | apply below_alloc | apply pw_below_drewN | apply below_drew1) | exact HB.out)) hb); clear HB; have HB := n0_; clear n0_; (try clear hb); (try clear hb2); (try clear hk); (try clear hi)) | (go_at_call 10; (with_reducible refine (serinetteref07_Near.calls k _ _ l0 t129 _ ?side1 ?side2 A4.out).mono ?_); (case side1 => repeat (first | exact (Kd.C_below HR0.out HB.out) | (with_reducible refine Kd.C_alloc ?_ _) | (with_reducible refine Kd.C_drewN ?_ _) | (with_reducible refine Kd.C_drew ?_))); (case side2 => exact HC0.out); rintro e w' ⟨rfl, ⟨nd, rfl⟩⟩; (try first | exact ⟨rfl, _, World.drewN_drewN _ _ _⟩ | exact ⟨rfl, _, Eq.trans (World.drewN_drewN _ _ _) (congrArg (World.drewN _) (Nat.add_assoc _ _ _))⟩)) | (go_at_call 11; (with_reducible refine (quant_Quantise.calls k _ _ l0 (wrap64 (2 + (wrap64 (Int.tmod a1 14)))) t130 t131 t132 t135 _ ?side1 ?side2 A5.out).mono ?_); (case side1 => repeat (first | exact (Kd.C_below HR0.out (by repeat (first | (with_reducible first | exact HB.out | apply below_alloc | apply pw_below_drewN | apply below_drew1) | exact HB.out))) | (with_reducible refine Kd.C_alloc ?_ _) | (with_reducible refine Kd.C_drewN ?_ _) | (with_reducible refine Kd.C_drew ?_))); (case side2 => exact HC0.out); rintro e w8 ⟨v133, rfl, ho0, hb⟩; have n0_ := Aside0.mk (Kd.R_lower ho0 (below_size (by repeat (first | (with_reducible first | exact HB.out | apply below_alloc | apply pw_below_drewN | apply below_drew1) | exact HB.out)))); have n1_ := Aside0.mk (below_step (by repeat (first | (with_reducible first | exact HB.out | apply below_alloc | apply pw_below_drewN | apply below_drew1) | exact HB.out)) hb); clear HB; have HO134 := n0_; have HB := n1_; clear n0_ n1_; (try clear hb); (try clear hb2); (try clear hk); (try clear hi); (try clear ho0)) | ((with_reducible refine gate_dst (N := 8) rfl ?_); refine box_event ?hg (N := 8) ?hd (cs := #[.int .i64 0, .int .i64 0, .slice none 0 0]) (t := 26) ?hr ?_; (case hd => rfl); (case hg => rfl); (case hr => first | (go_simp; done) | (go_simp; rfl)); intro gb136 hg w9 hbox hb; have n0_ := Aside0.mk (Kd.R_below (by (with_reducible repeat (first | apply Kd.R_alloc | apply Kd.R_drewN | apply Kd.R_drew)); exact HO134.out) hb); have n1_ := Aside0.mk (below_step (by repeat (first | (with_reducible first | exact HB.out | apply below_alloc | apply pw_below_drewN | apply below_drew1) | exact HB.out)) hb); have n2_ := Aside0.mk (hbox); have n3_ := Aside0.mk ((by rw [hg]; exact (below_size (by repeat (first | (with_reducible first | exact HB.out | apply below_alloc | apply pw_below_drewN | apply below_drew1) | exact HB.out))) : w.heap.size ≤ gb136)); have n4_ := Aside0.mk ((by rw [hg]; exact (below_size (by repeat (first | (with_reducible first | exact HB.out | apply below_alloc | apply pw_below_drewN | apply below_drew1) | exact HB.out))) : w.heap.size ≤ gb136)); clear HO134; clear HB; have HO134 := n0_; have HB := n1_; have BK136 := n2_; have GW136 := n3_; have GE136 := n4_; clear n0_ n1_ n2_ n3_ n4_; clear hb hbox hg; have hcz10_0 : w9.cell? ⟨gb136, 0, none⟩ = some (.int .i64 0) := (blk_cell BK136.out 0).trans rfl; have hcz10_1 : w9.cell? ⟨gb136, 1, none⟩ = some (.int .i64 0) := (blk_cell BK136.out 1).trans rfl; have hcz10_2 : w9.cell? ⟨gb136, 2, none⟩ = some (.slice none 0 0) := (blk_cell BK136.out 2).trans rfl; have hfz10_0 := blk_frozen BK136.out 0; have hfz10_1 := blk_frozen BK136.out 1; have hfz10_2 := blk_frozen BK136.out 2; obtain ⟨Ao11, co11, eo11⟩ := Kd.R_slice HO134.out; subst eo11)))
  (try simp only [Act.put, List.setIfInBounds_toArray, List.set_cons_zero, List.set_cons_succ])
  go_cut [36] (fun v36 wc => ∃ (kq : Nat) (x36_5 : Bool), v36 = .bool x36_5 ∧ Aside0 (serinettelaw11_QuantNear.j0 kq l0 t128 (wrap64 (2 + (wrap64 (Int.tmod a1 14)))) x36_5 t130 t131 t132 = some r) ∧ Aside0 (kq ≤ k) ∧ Aside0 (Kd.R (Kd.int .i64) 3 wc w.heap.size (fun _ => True) (.slice Ao11 t132.length co11) t132) ∧ Aside0 (wc.heap[gb136]? = some (.cells #[.int .i64 t130, .int .i64 t131, (.slice Ao11 t132.length co11)] 26 (0, 0))) ∧ Aside0 (Below w.heap.size w wc))
  case first =>
    have H := HC6.out
    clear HC6
    by_cases c12 : (l0.length : Int) > 32
    · rw [if_pos c12] at H
      have c12b0 : decide (32 < (l0.length : Int)) = true := decide_eq_true c12
      have c12b1 : decide (32 < l0.length) = true := decide_eq_true (by omega)
      clear c12
      (first | rw [c12b0] | (simp only [i64_w, i32_w]; rw [c12b0]) | skip)
      have H' := Aside0.mk H
      clear H
      go_wp2
      repeat (go_quiet (fail); try go_wp2)
      go_meet
      case rel => exact ⟨_, (true), (by first | rfl | (simp; done) | (simp [*]; done)), H', ⟨by first | omega | exact Nat.le_refl _⟩, ⟨by (with_reducible repeat (first | apply Kd.R_alloc | apply Kd.R_drewN | apply Kd.R_drew)); exact Kd.R_mono (Kd.R_far (p := ⟨gb136, 2, none⟩) (Kd.R_far (p := ⟨gb136, 1, none⟩) (Kd.R_far (p := ⟨gb136, 0, none⟩) (Kd.R_types HO134.out BK136.out (by decide)) (fun _ hk => hk.2) (.int .i64 t130)) (fun _ hk => hk.2) (.int .i64 t131)) (fun _ hk => hk.2) (.slice Ao11 t132.length co11)) (fun _ hk => trivial)⟩, ⟨by (with_reducible repeat (first | refine blk_drewN ?_ _ | refine blk_drew ?_ | refine blk_alloc ?_ _)); refine blk_put (cs := #[.int .i64 t130, .int .i64 t131, .slice none 0 0]) ?_ 2 _ rfl; (with_reducible repeat (first | refine blk_drewN ?_ _ | refine blk_drew ?_ | refine blk_alloc ?_ _)); refine blk_put (cs := #[.int .i64 t130, .int .i64 0, .slice none 0 0]) ?_ 1 _ rfl; (with_reducible repeat (first | refine blk_drewN ?_ _ | refine blk_drew ?_ | refine blk_alloc ?_ _)); refine blk_put (cs := #[.int .i64 0, .int .i64 0, .slice none 0 0]) ?_ 0 _ rfl; (with_reducible repeat (first | refine blk_drewN ?_ _ | refine blk_drew ?_ | refine blk_alloc ?_ _)); exact BK136.out⟩, ⟨by repeat (first | (with_reducible first | exact HB.out | apply below_alloc | apply pw_below_drewN | apply below_drew1 | refine below_set ?_ GE136.out) | exact HB.out)⟩⟩
    · rw [if_neg c12] at H
      have c12b0 : decide (32 < (l0.length : Int)) = false := decide_eq_false c12
      have c12b1 : decide (32 < l0.length) = false := decide_eq_false (by omega)
      clear c12
      (first | rw [c12b0] | (simp only [i64_w, i32_w]; rw [c12b0]) | skip)
      by_cases c13 : t129 = true
      · subst c13
        have H1 : (serinettelaw11_QuantNear.j0 k l0 t128 (wrap64 (2 + (wrap64 (Int.tmod a1 14)))) (t135 != 0) t130 t131 t132) = some r := by rw [if_pos rfl] at H; exact H
        clear H
        have H := H1
        clear H1
        have H' := Aside0.mk H
        clear H
        go_wp2
        repeat (go_quiet (fail); try go_wp2)
        go_meet
        case rel => exact ⟨_, ((t135 != 0)), (by first | rfl | (simp; done) | (simp [*]; done)), H', ⟨by first | omega | exact Nat.le_refl _⟩, ⟨by (with_reducible repeat (first | apply Kd.R_alloc | apply Kd.R_drewN | apply Kd.R_drew)); exact Kd.R_mono (Kd.R_far (p := ⟨gb136, 2, none⟩) (Kd.R_far (p := ⟨gb136, 1, none⟩) (Kd.R_far (p := ⟨gb136, 0, none⟩) (Kd.R_types HO134.out BK136.out (by decide)) (fun _ hk => hk.2) (.int .i64 t130)) (fun _ hk => hk.2) (.int .i64 t131)) (fun _ hk => hk.2) (.slice Ao11 t132.length co11)) (fun _ hk => trivial)⟩, ⟨by (with_reducible repeat (first | refine blk_drewN ?_ _ | refine blk_drew ?_ | refine blk_alloc ?_ _)); refine blk_put (cs := #[.int .i64 t130, .int .i64 t131, .slice none 0 0]) ?_ 2 _ rfl; (with_reducible repeat (first | refine blk_drewN ?_ _ | refine blk_drew ?_ | refine blk_alloc ?_ _)); refine blk_put (cs := #[.int .i64 t130, .int .i64 0, .slice none 0 0]) ?_ 1 _ rfl; (with_reducible repeat (first | refine blk_drewN ?_ _ | refine blk_drew ?_ | refine blk_alloc ?_ _)); refine blk_put (cs := #[.int .i64 0, .int .i64 0, .slice none 0 0]) ?_ 0 _ rfl; (with_reducible repeat (first | refine blk_drewN ?_ _ | refine blk_drew ?_ | refine blk_alloc ?_ _)); exact BK136.out⟩, ⟨by repeat (first | (with_reducible first | exact HB.out | apply below_alloc | apply pw_below_drewN | apply below_drew1 | refine below_set ?_ GE136.out) | exact HB.out)⟩⟩
      · replace c13 := Bool.eq_false_iff.mpr c13
        subst c13
        have H1 : (serinettelaw11_QuantNear.j0 k l0 t128 (wrap64 (2 + (wrap64 (Int.tmod a1 14)))) true t130 t131 t132) = some r := by rw [if_neg (show ¬ (false = true) by decide)] at H; exact H
        clear H
        have H := H1
        clear H1
        have H' := Aside0.mk H
        clear H
        go_wp2
        repeat (go_quiet (fail); try go_wp2)
        go_meet
        case rel => exact ⟨_, (true), (by first | rfl | (simp; done) | (simp [*]; done)), H', ⟨by first | omega | exact Nat.le_refl _⟩, ⟨by (with_reducible repeat (first | apply Kd.R_alloc | apply Kd.R_drewN | apply Kd.R_drew)); exact Kd.R_mono (Kd.R_far (p := ⟨gb136, 2, none⟩) (Kd.R_far (p := ⟨gb136, 1, none⟩) (Kd.R_far (p := ⟨gb136, 0, none⟩) (Kd.R_types HO134.out BK136.out (by decide)) (fun _ hk => hk.2) (.int .i64 t130)) (fun _ hk => hk.2) (.int .i64 t131)) (fun _ hk => hk.2) (.slice Ao11 t132.length co11)) (fun _ hk => trivial)⟩, ⟨by (with_reducible repeat (first | refine blk_drewN ?_ _ | refine blk_drew ?_ | refine blk_alloc ?_ _)); refine blk_put (cs := #[.int .i64 t130, .int .i64 t131, .slice none 0 0]) ?_ 2 _ rfl; (with_reducible repeat (first | refine blk_drewN ?_ _ | refine blk_drew ?_ | refine blk_alloc ?_ _)); refine blk_put (cs := #[.int .i64 t130, .int .i64 0, .slice none 0 0]) ?_ 1 _ rfl; (with_reducible repeat (first | refine blk_drewN ?_ _ | refine blk_drew ?_ | refine blk_alloc ?_ _)); refine blk_put (cs := #[.int .i64 0, .int .i64 0, .slice none 0 0]) ?_ 0 _ rfl; (with_reducible repeat (first | refine blk_drewN ?_ _ | refine blk_drew ?_ | refine blk_alloc ?_ _)); exact BK136.out⟩, ⟨by repeat (first | (with_reducible first | exact HB.out | apply below_alloc | apply pw_below_drewN | apply below_drew1 | refine below_set ?_ GE136.out) | exact HB.out)⟩⟩
  case rest =>
    clear HC6
    try clear c1
    try clear p2
    try clear c5
    try clear p6
    try clear c12
    try clear c12b0
    try clear c12b1
    try clear c13
    try clear hcz10_0
    try clear hcz10_1
    try clear hcz10_2
    try clear hfz10_0
    try clear hfz10_1
    try clear hfz10_2
    obtain ⟨kq, x36_5, rfl, HA, HJ5, HO_137002, BK136, HB⟩ := hcut
    cases kq with
    | zero => exact absurd HA.out (by simp [serinettelaw11_QuantNear.j0])
    | succ kj5 =>
      have H := HA.out
      clear HA
      simp only [serinettelaw11_QuantNear.j0] at H
      by_cases c14 : x36_5 = true
      · subst c14
        have H1 : (some t128) = some r := by rw [if_pos rfl] at H; exact H
        clear H
        have H := H1
        clear H1
        obtain rfl := Option.some.inj H
        go_wp2
        repeat (go_quiet (fail); try go_wp2)
        go_ret
        exact ⟨by first | rfl | (simp [errW_none, errW_some] <;> rfl) | (simp [*, errW_none, errW_some] <;> rfl), by repeat (first | (with_reducible first | exact HB.out | apply below_alloc | apply pw_below_drewN | apply below_drew1 | refine below_set ?_ GE136.out) | exact HB.out)⟩
      · replace c14 := Bool.eq_false_iff.mpr c14
        subst c14
        have H1 : (if (t132.length : Int) = (l0.length : Int) then (if t130 < 0 then (serinettelaw11_QuantNear.j1 kj5 l0 t128 (wrap64 (2 + (wrap64 (Int.tmod a1 14)))) true t130 t131 t132) else (serinettelaw11_QuantNear.j1 kj5 l0 t128 (wrap64 (2 + (wrap64 (Int.tmod a1 14)))) (decide (t130 > 15)) t130 t131 t132)) else (serinettelaw11_QuantNear.j1 kj5 l0 t128 (wrap64 (2 + (wrap64 (Int.tmod a1 14)))) true t130 t131 t132)) = some r := by rw [if_neg (show ¬ (false = true) by decide)] at H; exact H
        clear H
        have H := H1
        clear H1
        have HC15 := Aside0.mk H
        clear H
        go_upto_region 7 with (fail)
        repeat (go_quiet (fail); go_upto_region 7 with (fail))
        go_cut [53] (fun v53 wc => ∃ (kq : Nat) (x53_14 : Bool), v53 = .bool x53_14 ∧ Aside0 (serinettelaw11_QuantNear.j1 kq l0 t128 (wrap64 (2 + (wrap64 (Int.tmod a1 14)))) x53_14 t130 t131 t132 = some r) ∧ Aside0 (kq ≤ kj5) ∧ Aside0 (Kd.R (Kd.int .i64) 3 wc w.heap.size (fun _ => True) (.slice Ao11 t132.length co11) t132) ∧ Aside0 (wc.heap[gb136]? = some (.cells #[.int .i64 t130, .int .i64 t131, (.slice Ao11 t132.length co11)] 26 (0, 0))) ∧ Aside0 (Below w.heap.size w wc))
        case first =>
          have H := HC15.out
          clear HC15
          by_cases c16 : (t132.length : Int) = (l0.length : Int)
          · rw [if_pos c16] at H
            have c16b0 : ((t132.length : Int) == (l0.length : Int)) = true := beq_iff_eq.mpr c16
            have c16b1 : ((t132.length : Int) != (l0.length : Int)) = false := bne_eq_false_iff_eq.mpr c16
            have c16b2 : (t132.length == l0.length) = true := by first | simpa using c16 | (simp at c16 ⊢; omega)
            clear c16
            (first | rw [c16b0] | (simp only [i64_w, i32_w]; rw [c16b0]) | skip)
            by_cases c17 : t130 < 0
            · rw [if_pos c17] at H
              have c17b0 : decide (t130 < 0) = true := decide_eq_true c17
              clear c17
              have H' := Aside0.mk H
              clear H
              have hcz18_0 : wc.cell? ⟨gb136, 0, none⟩ = some (.int .i64 t130) := (blk_cell BK136.out 0).trans rfl
              have hcz18_1 : wc.cell? ⟨gb136, 1, none⟩ = some (.int .i64 t131) := (blk_cell BK136.out 1).trans rfl
              have hcz18_2 : wc.cell? ⟨gb136, 2, none⟩ = some (.slice Ao11 t132.length co11) := (blk_cell BK136.out 2).trans rfl
              have hfz18_0 := blk_frozen BK136.out 0
              have hfz18_1 := blk_frozen BK136.out 1
              have hfz18_2 := blk_frozen BK136.out 2
              go_wp2
              repeat (go_quiet (fail); try go_wp2)
              go_meet
              case rel => exact ⟨_, (true), (by first | rfl | (simp; done) | (simp [*]; done)), H', ⟨by have := HJ5.out; first | omega | exact Nat.le_refl _⟩, ⟨by (with_reducible repeat (first | apply Kd.R_alloc | apply Kd.R_drewN | apply Kd.R_drew)); exact HO_137002.out⟩, ⟨by (with_reducible repeat (first | refine blk_drewN ?_ _ | refine blk_drew ?_ | refine blk_alloc ?_ _)); exact BK136.out⟩, ⟨by repeat (first | (with_reducible first | exact HB.out | apply below_alloc | apply pw_below_drewN | apply below_drew1 | refine below_set ?_ GE136.out) | exact HB.out)⟩⟩
            · rw [if_neg c17] at H
              have c17b0 : decide (t130 < 0) = false := decide_eq_false c17
              clear c17
              have H' := Aside0.mk H
              clear H
              have hcz19_0 : wc.cell? ⟨gb136, 0, none⟩ = some (.int .i64 t130) := (blk_cell BK136.out 0).trans rfl
              have hcz19_1 : wc.cell? ⟨gb136, 1, none⟩ = some (.int .i64 t131) := (blk_cell BK136.out 1).trans rfl
              have hcz19_2 : wc.cell? ⟨gb136, 2, none⟩ = some (.slice Ao11 t132.length co11) := (blk_cell BK136.out 2).trans rfl
              have hfz19_0 := blk_frozen BK136.out 0
              have hfz19_1 := blk_frozen BK136.out 1
              have hfz19_2 := blk_frozen BK136.out 2
              go_wp2
              repeat (go_quiet (fail); try go_wp2)
              go_meet
              case rel => exact ⟨_, (decide (t130 > 15)), (by first | rfl | (simp; done) | (simp [*]; done)), H', ⟨by have := HJ5.out; first | omega | exact Nat.le_refl _⟩, ⟨by (with_reducible repeat (first | apply Kd.R_alloc | apply Kd.R_drewN | apply Kd.R_drew)); exact HO_137002.out⟩, ⟨by (with_reducible repeat (first | refine blk_drewN ?_ _ | refine blk_drew ?_ | refine blk_alloc ?_ _)); exact BK136.out⟩, ⟨by repeat (first | (with_reducible first | exact HB.out | apply below_alloc | apply pw_below_drewN | apply below_drew1 | refine below_set ?_ GE136.out) | exact HB.out)⟩⟩
          · rw [if_neg c16] at H
            have c16b0 : ((t132.length : Int) == (l0.length : Int)) = false := beq_eq_false_iff_ne.mpr c16
            have c16b1 : ((t132.length : Int) != (l0.length : Int)) = true := bne_iff_ne.mpr c16
            have c16b2 : (t132.length == l0.length) = false := by first | simpa using c16 | (simp at c16 ⊢; omega)
            (first | rw [c16b0] | (simp only [i64_w, i32_w]; rw [c16b0]) | skip)
            have H' := Aside0.mk H
            clear H
            have hcz20_0 : wc.cell? ⟨gb136, 0, none⟩ = some (.int .i64 t130) := (blk_cell BK136.out 0).trans rfl
            have hcz20_1 : wc.cell? ⟨gb136, 1, none⟩ = some (.int .i64 t131) := (blk_cell BK136.out 1).trans rfl
            have hcz20_2 : wc.cell? ⟨gb136, 2, none⟩ = some (.slice Ao11 t132.length co11) := (blk_cell BK136.out 2).trans rfl
            have hfz20_0 := blk_frozen BK136.out 0
            have hfz20_1 := blk_frozen BK136.out 1
            have hfz20_2 := blk_frozen BK136.out 2
            go_wp2
            repeat (go_quiet (fail); try go_wp2)
            go_meet
            case rel => exact ⟨_, (true), (by first | rfl | (simp; done) | (simp [*]; done)), H', ⟨by have := HJ5.out; first | omega | exact Nat.le_refl _⟩, ⟨by (with_reducible repeat (first | apply Kd.R_alloc | apply Kd.R_drewN | apply Kd.R_drew)); exact HO_137002.out⟩, ⟨by (with_reducible repeat (first | refine blk_drewN ?_ _ | refine blk_drew ?_ | refine blk_alloc ?_ _)); exact BK136.out⟩, ⟨by repeat (first | (with_reducible first | exact HB.out | apply below_alloc | apply pw_below_drewN | apply below_drew1 | refine below_set ?_ GE136.out) | exact HB.out)⟩⟩
        case rest =>
          clear HC15
          try clear c1
          try clear p2
          try clear c5
          try clear p6
          try clear c12
          try clear c12b0
          try clear c12b1
          try clear c13
          try clear c14
          try clear c16
          try clear c16b0
          try clear c16b1
          try clear c16b2
          try clear c17
          try clear c17b0
          try clear hcz10_0
          try clear hcz10_1
          try clear hcz10_2
          try clear hcz18_0
          try clear hcz18_1
          try clear hcz18_2
          try clear hcz19_0
          try clear hcz19_1
          try clear hcz19_2
          try clear hcz20_0
          try clear hcz20_1
          try clear hcz20_2
          try clear hfz10_0
          try clear hfz10_1
          try clear hfz10_2
          try clear hfz18_0
          try clear hfz18_1
          try clear hfz18_2
          try clear hfz19_0
          try clear hfz19_1
          try clear hfz19_2
          try clear hfz20_0
          try clear hfz20_1
          try clear hfz20_2
          try clear p2
          try clear p6
          obtain ⟨kq, x53_14, rfl, HA, HJ14, HO_137002, BK136, HB⟩ := hcut
          cases kq with
          | zero => exact absurd HA.out (by simp [serinettelaw11_QuantNear.j1])
          | succ kj14 =>
            have H := HA.out
            clear HA
            simp only [serinettelaw11_QuantNear.j1] at H
            by_cases c21 : x53_14 = true
            · subst c21
              have H1 : (some false) = some r := by rw [if_pos rfl] at H; exact H
              clear H
              have H := H1
              clear H1
              obtain rfl := Option.some.inj H
              go_wp2
              repeat (go_quiet (fail); try go_wp2)
              go_ret
              exact ⟨by first | rfl | (simp [errW_none, errW_some] <;> rfl) | (simp [*, errW_none, errW_some] <;> rfl), by repeat (first | (with_reducible first | exact HB.out | apply below_alloc | apply pw_below_drewN | apply below_drew1 | refine below_set ?_ GE136.out) | exact HB.out)⟩
            · replace c21 := Bool.eq_false_iff.mpr c21
              subst c21
              have H1 : (serinettelaw11_QuantNear.l0 kj14 l0 t128 (wrap64 (2 + (wrap64 (Int.tmod a1 14)))) 0 0 t130 t131 t132) = some r := by rw [if_neg (show ¬ (false = true) by decide)] at H; exact H
              clear H
              have H := H1
              clear H1
              have H' := Aside0.mk H
              clear H
              go_wp2
              repeat (go_quiet (fail); try go_wp2)
              go_loopg [10, 11] kj14 (fun kq v10 v11 w' => ∃ (x10_3 : Int) (x11_3 : Int), v10 = .int .i64 x10_3 ∧ v11 = .int .i64 x11_3 ∧ Aside0 (serinettelaw11_QuantNear.l0 kq l0 t128 (wrap64 (2 + (wrap64 (Int.tmod a1 14)))) x10_3 x11_3 t130 t131 t132 = some r) ∧ Aside0 (kq ≤ kj14) ∧ Aside0 (Kd.R (Kd.int .i64) 3 w' w.heap.size (fun _ => True) (.slice Ao11 t132.length co11) t132) ∧ Aside0 (w'.heap[gb136]? = some (.cells #[.int .i64 t130, .int .i64 t131, (.slice Ao11 t132.length co11)] 26 (0, 0))) ∧ Aside0 (Below w.heap.size w w'))
              case atStart => exact ⟨(0), (0), (by first | rfl | (simp; done) | (simp [*]; done)), (by first | rfl | (simp; done) | (simp [*]; done)), H', ⟨Nat.le_refl _⟩, ⟨by (with_reducible repeat (first | apply Kd.R_alloc | apply Kd.R_drewN | apply Kd.R_drew)); exact HO_137002.out⟩, ⟨by (with_reducible repeat (first | refine blk_drewN ?_ _ | refine blk_drew ?_ | refine blk_alloc ?_ _)); exact BK136.out⟩, ⟨by repeat (first | (with_reducible first | exact HB.out | apply below_alloc | apply pw_below_drewN | apply below_drew1 | refine below_set ?_ GE136.out) | exact HB.out)⟩⟩
              case round =>
                clear H'
                try clear c1
                try clear c2
                try clear p2
                try clear c5
                try clear p6
                try clear c12
                try clear c12b0
                try clear c12b1
                try clear c13
                try clear c14
                try clear c16
                try clear c16b0
                try clear c16b1
                try clear c16b2
                try clear c17
                try clear c17b0
                try clear c21
                try clear hcz10_0
                try clear hcz10_1
                try clear hcz10_2
                try clear hcz18_0
                try clear hcz18_1
                try clear hcz18_2
                try clear hcz19_0
                try clear hcz19_1
                try clear hcz19_2
                try clear hcz20_0
                try clear hcz20_1
                try clear hcz20_2
                try clear hfz10_0
                try clear hfz10_1
                try clear hfz10_2
                try clear hfz18_0
                try clear hfz18_1
                try clear hfz18_2
                try clear hfz19_0
                try clear hfz19_1
                try clear hfz19_2
                try clear hfz20_0
                try clear hfz20_1
                try clear hfz20_2
                try clear p2
                try clear p6
                obtain ⟨x10_3, x11_3, rfl, rfl, HA, HK3, HO_137002, BK136, HB⟩ := hrel
                cases gk with
                | zero => exact absurd HA.out (by simp [serinettelaw11_QuantNear.l0])
                | succ k3 =>
                  have H := HA.out
                  clear HA
                  simp only [serinettelaw11_QuantNear.l0] at H
                  by_cases c22 : x11_3 < (l0.length : Int)
                  · rw [if_pos c22] at H
                    have c22b0 : decide (x11_3 < (l0.length : Int)) = true := decide_eq_true c22
                    clear c22
                    by_cases c23 : 0 ≤ x11_3
                    · rw [if_pos c23] at H
                      have c23b0 : decide (0 ≤ x11_3) = true := decide_eq_true c23
                      clear c23
                      by_cases c24 : x11_3 < (t132.length : Int)
                      · rw [if_pos c24] at H
                        have c24b0 : decide (x11_3 < (t132.length : Int)) = true := decide_eq_true c24
                        clear c24
                        have HC25 := Aside0.mk H
                        clear H
                        have hcz26_0 : wr.cell? ⟨gb136, 0, none⟩ = some (.int .i64 t130) := (blk_cell BK136.out 0).trans rfl
                        have hcz26_1 : wr.cell? ⟨gb136, 1, none⟩ = some (.int .i64 t131) := (blk_cell BK136.out 1).trans rfl
                        have hcz26_2 : wr.cell? ⟨gb136, 2, none⟩ = some (.slice Ao11 t132.length co11) := (blk_cell BK136.out 2).trans rfl
                        have hfz26_0 := blk_frozen BK136.out 0
                        have hfz26_1 := blk_frozen BK136.out 1
                        have hfz26_2 := blk_frozen BK136.out 2
                        have p137 : 0 ≤ (x11_3 : Int) := of_decide_eq_true (by first | (with_reducible assumption) | assumption)
                        have q137 : x11_3 < (t132.length : Int) := of_decide_eq_true (by first | (with_reducible assumption) | assumption)
                        obtain ⟨ad137, e137, hx137_0⟩ := Kd.at_int (Kd.R_reads' HO_137002.out).2.2 x11_3 p137 q137
                        cases e137
                        replace p137 := eq_true p137
                        replace q137 := eq_true q137
                        go_upto_region 14 with (fail)
                        repeat (go_quiet (fail); go_upto_region 14 with (fail))
                        go_cut [78] (fun v78 wc => ∃ (kq : Nat) (x78_24 : Bool), v78 = .bool x78_24 ∧ Aside0 (serinettelaw11_QuantNear.j3 kq l0 t128 (wrap64 (2 + (wrap64 (Int.tmod a1 14)))) x10_3 x11_3 (rd t132 x11_3) x78_24 t130 t131 t132 = some r) ∧ Aside0 (kq ≤ k3) ∧ Aside0 (Kd.R (Kd.int .i64) 3 wc w.heap.size (fun _ => True) (.slice (some ad137) t132.length co11) t132) ∧ Aside0 (wc.heap[gb136]? = some (.cells #[.int .i64 t130, .int .i64 t131, (.slice (some ad137) t132.length co11)] 26 (0, 0))) ∧ Aside0 (Below w.heap.size w wc))
                        case first =>
                          have H := HC25.out
                          clear HC25
                          obtain ⟨ji27, hji27⟩ : ∃ j_ : Int, (wrap64 ((wrap64 (2 + (wrap64 (Int.tmod a1 14)))) - 1)) = j_ := ⟨_, rfl⟩
                          replace H : (if 0 ≤ (ji27) then (if (rd t132 x11_3) = (wrap64 ((shl .i64 1 (ji27)) - 1)) then (serinettelaw11_QuantNear.j3 k3 l0 t128 (wrap64 (2 + (wrap64 (Int.tmod a1 14)))) x10_3 x11_3 (rd t132 x11_3) true t130 t131 t132) else (serinettelaw11_QuantNear.j3 k3 l0 t128 (wrap64 (2 + (wrap64 (Int.tmod a1 14)))) x10_3 x11_3 (rd t132 x11_3) ((rd t132 x11_3) == (wrap64 (-(shl .i64 1 (ji27))))) t130 t131 t132)) else (none)) = some r := by first | (rw [hji27] at H; exact H) | (simp only [hji27] at H ⊢; exact H)
                          have hji27w : (IntKind.i64.wrap ((wrap64 (2 + (wrap64 (Int.tmod a1 14)))) - 1)) = ji27 := (i64_w _).trans hji27
                          by_cases c28 : 0 ≤ (ji27)
                          · rw [if_pos c28] at H
                            have c28b0 := eq_true c28
                            have c28b1 : decide (0 ≤ (ji27)) = true := decide_eq_true c28
                            clear c28
                            obtain ⟨ji29, hji29⟩ : ∃ j_ : Int, (shl .i64 1 (ji27)) = j_ := ⟨_, rfl⟩
                            replace H : (if (rd t132 x11_3) = (wrap64 ((ji29) - 1)) then (serinettelaw11_QuantNear.j3 k3 l0 t128 (wrap64 (2 + (wrap64 (Int.tmod a1 14)))) x10_3 x11_3 (rd t132 x11_3) true t130 t131 t132) else (serinettelaw11_QuantNear.j3 k3 l0 t128 (wrap64 (2 + (wrap64 (Int.tmod a1 14)))) x10_3 x11_3 (rd t132 x11_3) ((rd t132 x11_3) == (wrap64 (-(ji29)))) t130 t131 t132)) = some r := by first | (rw [hji29] at H; exact H) | (simp only [hji29] at H ⊢; exact H)
                            have hji29_ : (IntKind.i64.wrap (1 * 2 ^ min (ji27).toNat 64)) = ji29 := hji29
                            have hji29z : (ji27) ≤ 64 → (IntKind.i64.wrap (1 * 2 ^ (ji27).toNat)) = ji29 := shl_small hji29
                            have hji29u : (IntKind.i64.wrap (2 ^ min (ji27).toNat 64)) = ji29 := by have h_ := hji29_; rw [Int.one_mul] at h_; exact h_
                            have hji29v : (ji27) ≤ 64 → (IntKind.i64.wrap (2 ^ (ji27).toNat)) = ji29 := fun hle_ => by have h_ := hji29z hle_; rw [Int.one_mul] at h_; exact h_
                            have hji29y : (wrap64 (1 * 2 ^ min (ji27).toNat 64)) = ji29 := (i64_w _).symm.trans hji29_
                            have hji29x : (ji27) ≤ 64 → (wrap64 (1 * 2 ^ (ji27).toNat)) = ji29 := fun h_ => (i64_w _).symm.trans (hji29z h_)
                            by_cases c30 : (rd t132 x11_3) = (wrap64 ((ji29) - 1))
                            · rw [if_pos c30] at H
                              have c30b0 : ((rd t132 x11_3) == (wrap64 ((ji29) - 1))) = true := beq_iff_eq.mpr c30
                              have c30b1 : ((rd t132 x11_3) != (wrap64 ((ji29) - 1))) = false := bne_eq_false_iff_eq.mpr c30
                              clear c30
                              (first | rw [c30b0] | (simp only [i64_w, i32_w]; rw [c30b0]) | skip)
                              have H' := Aside0.mk H
                              clear H
                              go_wp2
                              repeat (go_quiet (fail); try go_wp2)
                              go_meet
                              case rel => exact ⟨_, (true), (by first | rfl | (simp; done) | (simp [*]; done)), H', ⟨by have := HJ5.out; have := HJ14.out; have := HK3.out; first | omega | exact Nat.le_refl _⟩, ⟨by (with_reducible repeat (first | apply Kd.R_alloc | apply Kd.R_drewN | apply Kd.R_drew)); exact HO_137002.out⟩, ⟨by (with_reducible repeat (first | refine blk_drewN ?_ _ | refine blk_drew ?_ | refine blk_alloc ?_ _)); exact BK136.out⟩, ⟨by repeat (first | (with_reducible first | exact HB.out | apply below_alloc | apply pw_below_drewN | apply below_drew1 | refine below_set ?_ GE136.out) | exact HB.out)⟩⟩
                            · rw [if_neg c30] at H
                              have c30b0 : ((rd t132 x11_3) == (wrap64 ((ji29) - 1))) = false := beq_eq_false_iff_ne.mpr c30
                              have c30b1 : ((rd t132 x11_3) != (wrap64 ((ji29) - 1))) = true := bne_iff_ne.mpr c30
                              (first | rw [c30b0] | (simp only [i64_w, i32_w]; rw [c30b0]) | skip)
                              have c31b0 := eq_true (of_decide_eq_true (by first | (with_reducible assumption) | assumption) : 0 ≤ (ji27))
                              have H' := Aside0.mk H
                              clear H
                              go_wp2
                              repeat (go_quiet (fail); try go_wp2)
                              go_meet
                              case rel => exact ⟨_, (((rd t132 x11_3) == (wrap64 (-(ji29))))), (by first | rfl | (simp; done) | (simp only [← hji29] <;> (first | rfl | simp)) | (simp [*]; done)), H', ⟨by have := HJ5.out; have := HJ14.out; have := HK3.out; first | omega | exact Nat.le_refl _⟩, ⟨by (with_reducible repeat (first | apply Kd.R_alloc | apply Kd.R_drewN | apply Kd.R_drew)); exact HO_137002.out⟩, ⟨by (with_reducible repeat (first | refine blk_drewN ?_ _ | refine blk_drew ?_ | refine blk_alloc ?_ _)); exact BK136.out⟩, ⟨by repeat (first | (with_reducible first | exact HB.out | apply below_alloc | apply pw_below_drewN | apply below_drew1 | refine below_set ?_ GE136.out) | exact HB.out)⟩⟩
                          · rw [if_neg c28] at H
                            exact absurd H (by simp)
                        case rest =>
                          clear HC25
                          try clear c1
                          try clear p1
                          try clear q1
                          try clear hx1
                          try clear c2
                          try clear p2
                          try clear c3
                          try clear c5
                          try clear p6
                          try clear c12
                          try clear c12b0
                          try clear c12b1
                          try clear c13
                          try clear p13
                          try clear q13
                          try clear hx13
                          try clear c14
                          try clear c16
                          try clear c16b0
                          try clear c16b1
                          try clear c16b2
                          try clear c17
                          try clear c17b0
                          try clear c21
                          try clear c22
                          try clear c22b0
                          try clear c23
                          try clear c23b0
                          try clear c24
                          try clear c24b0
                          try clear c28
                          try clear c28b0
                          try clear c28b1
                          try clear c30
                          try clear c30b0
                          try clear c30b1
                          try clear c31
                          try clear c31b0
                          try clear hcz10_0
                          try clear hcz10_1
                          try clear hcz10_2
                          try clear hcz18_0
                          try clear hcz18_1
                          try clear hcz18_2
                          try clear hcz19_0
                          try clear hcz19_1
                          try clear hcz19_2
                          try clear hcz20_0
                          try clear hcz20_1
                          try clear hcz20_2
                          try clear hcz26_0
                          try clear hcz26_1
                          try clear hcz26_2
                          try clear hfz10_0
                          try clear hfz10_1
                          try clear hfz10_2
                          try clear hfz18_0
                          try clear hfz18_1
                          try clear hfz18_2
                          try clear hfz19_0
                          try clear hfz19_1
                          try clear hfz19_2
                          try clear hfz20_0
                          try clear hfz20_1
                          try clear hfz20_2
                          try clear hfz26_0
                          try clear hfz26_1
                          try clear hfz26_2
                          try clear hx137_0
                          try clear p137
                          try clear p2
                          try clear p6
                          try clear q137
                          obtain ⟨kq, x78_24, rfl, HA, HJ24, HO_137002, BK136, HB⟩ := hcut
                          cases kq with
                          | zero => exact absurd HA.out (by simp [serinettelaw11_QuantNear.j3])
                          | succ kj24 =>
                            have H := HA.out
                            clear HA
                            simp only [serinettelaw11_QuantNear.j3] at H
                            by_cases c32 : x78_24 = true
                            · subst c32
                              have H1 : (some t128) = some r := by rw [if_pos rfl] at H; exact H
                              clear H
                              have H := H1
                              clear H1
                              obtain rfl := Option.some.inj H
                              go_wp2
                              repeat (go_quiet (fail); try go_wp2)
                              go_ret
                              exact ⟨by first | rfl | (simp [errW_none, errW_some] <;> rfl) | (simp [*, errW_none, errW_some] <;> rfl), by repeat (first | (with_reducible first | exact HB.out | apply below_alloc | apply pw_below_drewN | apply below_drew1 | refine below_set ?_ GE136.out) | exact HB.out)⟩
                            · replace c32 := Bool.eq_false_iff.mpr c32
                              subst c32
                              have H1 : (if 0 ≤ x11_3 then (if x11_3 < (l0.length : Int) then (if 0 ≤ t130 then (if (wrap64 ((wrap64 (x10_3 + (wrap64 ((rd l0 x11_3) * (shl .i64 1 t130))))) - (wrap64 ((rd t132 x11_3) * 1048576)))) > 524288 then (some false) else (if (wrap64 ((wrap64 (x10_3 + (wrap64 ((rd l0 x11_3) * (shl .i64 1 t130))))) - (wrap64 ((rd t132 x11_3) * 1048576)))) < (-524288) then (some false) else (serinettelaw11_QuantNear.l0 kj24 l0 t128 (wrap64 (2 + (wrap64 (Int.tmod a1 14)))) (wrap64 ((wrap64 (x10_3 + (wrap64 ((rd l0 x11_3) * (shl .i64 1 t130))))) - (wrap64 ((rd t132 x11_3) * 1048576)))) (wrap64 (x11_3 + 1)) t130 t131 t132))) else (none)) else (none)) else (none)) = some r := by rw [if_neg (show ¬ (false = true) by decide)] at H; exact H
                              clear H
                              have H := H1
                              clear H1
                              by_cases c33 : 0 ≤ x11_3
                              · rw [if_pos c33] at H
                                have c33b0 : decide (0 ≤ x11_3) = true := decide_eq_true c33
                                clear c33
                                by_cases c34 : x11_3 < (l0.length : Int)
                                · rw [if_pos c34] at H
                                  have c34b0 : decide (x11_3 < (l0.length : Int)) = true := decide_eq_true c34
                                  clear c34
                                  by_cases c35 : 0 ≤ t130
                                  · rw [if_pos c35] at H
                                    have c35b0 := eq_true c35
                                    have c35b1 : decide (0 ≤ t130) = true := decide_eq_true c35
                                    clear c35
                                    obtain ⟨ji36, hji36⟩ : ∃ j_ : Int, (shl .i64 1 t130) = j_ := ⟨_, rfl⟩
                                    replace H : (if (wrap64 ((wrap64 (x10_3 + (wrap64 ((rd l0 x11_3) * (ji36))))) - (wrap64 ((rd t132 x11_3) * 1048576)))) > 524288 then (some false) else (if (wrap64 ((wrap64 (x10_3 + (wrap64 ((rd l0 x11_3) * (ji36))))) - (wrap64 ((rd t132 x11_3) * 1048576)))) < (-524288) then (some false) else (serinettelaw11_QuantNear.l0 kj24 l0 t128 (wrap64 (2 + (wrap64 (Int.tmod a1 14)))) (wrap64 ((wrap64 (x10_3 + (wrap64 ((rd l0 x11_3) * (ji36))))) - (wrap64 ((rd t132 x11_3) * 1048576)))) (wrap64 (x11_3 + 1)) t130 t131 t132))) = some r := by first | (rw [hji36] at H; exact H) | (simp only [hji36] at H ⊢; exact H)
                                    have hji36_ : (IntKind.i64.wrap (1 * 2 ^ min t130.toNat 64)) = ji36 := hji36
                                    have hji36z : t130 ≤ 64 → (IntKind.i64.wrap (1 * 2 ^ t130.toNat)) = ji36 := shl_small hji36
                                    have hji36u : (IntKind.i64.wrap (2 ^ min t130.toNat 64)) = ji36 := by have h_ := hji36_; rw [Int.one_mul] at h_; exact h_
                                    have hji36v : t130 ≤ 64 → (IntKind.i64.wrap (2 ^ t130.toNat)) = ji36 := fun hle_ => by have h_ := hji36z hle_; rw [Int.one_mul] at h_; exact h_
                                    have hji36y : (wrap64 (1 * 2 ^ min t130.toNat 64)) = ji36 := (i64_w _).symm.trans hji36_
                                    have hji36x : t130 ≤ 64 → (wrap64 (1 * 2 ^ t130.toNat)) = ji36 := fun h_ => (i64_w _).symm.trans (hji36z h_)
                                    by_cases c37 : (wrap64 ((wrap64 (x10_3 + (wrap64 ((rd l0 x11_3) * (ji36))))) - (wrap64 ((rd t132 x11_3) * 1048576)))) > 524288
                                    · rw [if_pos c37] at H
                                      have c37b0 : decide (524288 < (wrap64 ((wrap64 (x10_3 + (wrap64 ((rd l0 x11_3) * (ji36))))) - (wrap64 ((rd t132 x11_3) * 1048576))))) = true := decide_eq_true c37
                                      clear c37
                                      obtain rfl := Option.some.inj H
                                      have p138 : 0 ≤ (x11_3 : Int) := of_decide_eq_true (by first | (with_reducible assumption) | assumption)
                                      have q138 : x11_3 < (l0.length : Int) := of_decide_eq_true (by first | (with_reducible assumption) | assumption)
                                      obtain ⟨ad138, e138, hx138_0⟩ := Kd.at_int HR0.out x11_3 p138 q138
                                      cases e138
                                      replace hx138_0 := (HB.out.cell (World.block_lt_of_cell? w _ hx138_0)).trans hx138_0
                                      replace p138 := eq_true p138
                                      replace q138 := eq_true q138
                                      have hcz38_0 : wc.cell? ⟨gb136, 0, none⟩ = some (.int .i64 t130) := (blk_cell BK136.out 0).trans rfl
                                      have hcz38_1 : wc.cell? ⟨gb136, 1, none⟩ = some (.int .i64 t131) := (blk_cell BK136.out 1).trans rfl
                                      have hcz38_2 : wc.cell? ⟨gb136, 2, none⟩ = some (.slice (some ad137) t132.length co11) := (blk_cell BK136.out 2).trans rfl
                                      have hfz38_0 := blk_frozen BK136.out 0
                                      have hfz38_1 := blk_frozen BK136.out 1
                                      have hfz38_2 := blk_frozen BK136.out 2
                                      go_wp2
                                      repeat (go_quiet (fail); try go_wp2)
                                      go_ret
                                      exact ⟨by first | rfl | (simp [errW_none, errW_some] <;> rfl) | (simp only [← hji36]; first | rfl | (simp [errW_none, errW_some] <;> rfl)) | (simp [*, errW_none, errW_some] <;> rfl), by repeat (first | (with_reducible first | exact HB.out | apply below_alloc | apply pw_below_drewN | apply below_drew1 | refine below_set ?_ GE136.out) | exact HB.out)⟩
                                    · rw [if_neg c37] at H
                                      have c37b0 : decide (524288 < (wrap64 ((wrap64 (x10_3 + (wrap64 ((rd l0 x11_3) * (ji36))))) - (wrap64 ((rd t132 x11_3) * 1048576))))) = false := decide_eq_false c37
                                      clear c37
                                      by_cases c39 : (wrap64 ((wrap64 (x10_3 + (wrap64 ((rd l0 x11_3) * (ji36))))) - (wrap64 ((rd t132 x11_3) * 1048576)))) < (-524288)
                                      · rw [if_pos c39] at H
                                        have c39b0 : decide ((wrap64 ((wrap64 (x10_3 + (wrap64 ((rd l0 x11_3) * (ji36))))) - (wrap64 ((rd t132 x11_3) * 1048576)))) < (-524288)) = true := decide_eq_true c39
                                        clear c39
                                        obtain rfl := Option.some.inj H
                                        have p138 : 0 ≤ (x11_3 : Int) := of_decide_eq_true (by first | (with_reducible assumption) | assumption)
                                        have q138 : x11_3 < (l0.length : Int) := of_decide_eq_true (by first | (with_reducible assumption) | assumption)
                                        obtain ⟨ad138, e138, hx138_0⟩ := Kd.at_int HR0.out x11_3 p138 q138
                                        cases e138
                                        replace hx138_0 := (HB.out.cell (World.block_lt_of_cell? w _ hx138_0)).trans hx138_0
                                        replace p138 := eq_true p138
                                        replace q138 := eq_true q138
                                        have hcz40_0 : wc.cell? ⟨gb136, 0, none⟩ = some (.int .i64 t130) := (blk_cell BK136.out 0).trans rfl
                                        have hcz40_1 : wc.cell? ⟨gb136, 1, none⟩ = some (.int .i64 t131) := (blk_cell BK136.out 1).trans rfl
                                        have hcz40_2 : wc.cell? ⟨gb136, 2, none⟩ = some (.slice (some ad137) t132.length co11) := (blk_cell BK136.out 2).trans rfl
                                        have hfz40_0 := blk_frozen BK136.out 0
                                        have hfz40_1 := blk_frozen BK136.out 1
                                        have hfz40_2 := blk_frozen BK136.out 2
                                        go_wp2
                                        repeat (go_quiet (fail); try go_wp2)
                                        go_ret
                                        exact ⟨by first | rfl | (simp [errW_none, errW_some] <;> rfl) | (simp only [← hji36]; first | rfl | (simp [errW_none, errW_some] <;> rfl)) | (simp [*, errW_none, errW_some] <;> rfl), by repeat (first | (with_reducible first | exact HB.out | apply below_alloc | apply pw_below_drewN | apply below_drew1 | refine below_set ?_ GE136.out) | exact HB.out)⟩
                                      · rw [if_neg c39] at H
                                        have c39b0 : decide ((wrap64 ((wrap64 (x10_3 + (wrap64 ((rd l0 x11_3) * (ji36))))) - (wrap64 ((rd t132 x11_3) * 1048576)))) < (-524288)) = false := decide_eq_false c39
                                        clear c39
                                        have H' := Aside0.mk H
                                        clear H
                                        have p138 : 0 ≤ (x11_3 : Int) := of_decide_eq_true (by first | (with_reducible assumption) | assumption)
                                        have q138 : x11_3 < (l0.length : Int) := of_decide_eq_true (by first | (with_reducible assumption) | assumption)
                                        obtain ⟨ad138, e138, hx138_0⟩ := Kd.at_int HR0.out x11_3 p138 q138
                                        cases e138
                                        replace hx138_0 := (HB.out.cell (World.block_lt_of_cell? w _ hx138_0)).trans hx138_0
                                        replace p138 := eq_true p138
                                        replace q138 := eq_true q138
                                        have hcz41_0 : wc.cell? ⟨gb136, 0, none⟩ = some (.int .i64 t130) := (blk_cell BK136.out 0).trans rfl
                                        have hcz41_1 : wc.cell? ⟨gb136, 1, none⟩ = some (.int .i64 t131) := (blk_cell BK136.out 1).trans rfl
                                        have hcz41_2 : wc.cell? ⟨gb136, 2, none⟩ = some (.slice (some ad137) t132.length co11) := (blk_cell BK136.out 2).trans rfl
                                        have hfz41_0 := blk_frozen BK136.out 0
                                        have hfz41_1 := blk_frozen BK136.out 1
                                        have hfz41_2 := blk_frozen BK136.out 2
                                        go_wp2
                                        repeat (go_quiet (fail); try go_wp2)
                                        go_roundg kj24
                                        case measure => have := HJ5.out; have := HJ14.out; have := HK3.out; have := HJ24.out; omega
                                        case rel => exact ⟨(wrap64 ((wrap64 (x10_3 + (wrap64 ((rd l0 x11_3) * (ji36))))) - (wrap64 ((rd t132 x11_3) * 1048576)))), (wrap64 (x11_3 + 1)), (by first | rfl | (simp; done) | (simp only [← hji36] <;> (first | rfl | simp)) | (simp [*]; done)), (by first | rfl | (simp; done) | (simp [*]; done)), H', ⟨by have := HJ5.out; have := HJ14.out; have := HK3.out; have := HJ24.out; omega⟩, ⟨by (with_reducible repeat (first | apply Kd.R_alloc | apply Kd.R_drewN | apply Kd.R_drew)); exact HO_137002.out⟩, ⟨by (with_reducible repeat (first | refine blk_drewN ?_ _ | refine blk_drew ?_ | refine blk_alloc ?_ _)); exact BK136.out⟩, ⟨by repeat (first | (with_reducible first | exact HB.out | apply below_alloc | apply pw_below_drewN | apply below_drew1 | refine below_set ?_ GE136.out) | exact HB.out)⟩⟩
                                  · rw [if_neg c35] at H
                                    exact absurd H (by simp)
                                · rw [if_neg c34] at H
                                  exact absurd H (by simp)
                              · rw [if_neg c33] at H
                                exact absurd H (by simp)
                      · rw [if_neg c24] at H
                        exact absurd H (by simp)
                    · rw [if_neg c23] at H
                      exact absurd H (by simp)
                  · rw [if_neg c22] at H
                    have c22b0 : decide (x11_3 < (l0.length : Int)) = false := decide_eq_false c22
                    clear c22
                    obtain rfl := Option.some.inj H
                    go_wp2
                    repeat (go_quiet (fail); try go_wp2)
                    go_ret
                    exact ⟨by first | rfl | (simp [errW_none, errW_some] <;> rfl) | (simp [*, errW_none, errW_some] <;> rfl), by repeat (first | (with_reducible first | exact HB.out | apply below_alloc | apply pw_below_drewN | apply below_drew1 | refine below_set ?_ GE136.out) | exact HB.out)⟩

/-- THE ONE PURE STATEMENT of serinettelaw11_QuantNear: yours. -/
def serinettelaw11_QuantNear.Pure : Prop := ∀ (l0 : List Int) (a1 : Int), l0.length ≤ maxLen → l0.length * 8 ≤ 140737488351232 → (∀ x ∈ l0, (Lit.int .i64 x).wf = true) → (Lit.int .u8 a1).wf = true → ∃ k, serinettelaw11_QuantNear.f k l0 a1 = some true
theorem serinettelaw11_QuantNear.walk (P : serinettelaw11_QuantNear.Pure) (a0 : Option Addr) (len0 cap0 : Nat) (z0 : List Int) (a1 : Int) (w : World) (w0 : (a0 = none ∧ len0 = 0 ∧ cap0 = 0 ∧ z0 = []) ∨ ∃ x, a0 = some x ∧ len0 ≤ cap0 ∧ cap0 ≤ maxLen ∧ z0.length = cap0 ∧ (∀ i, i < z0.length → w.cell? (x.add i) = some (.int .i64 (z0.getD i 0))) ∧ ∀ n ∈ z0, (Lit.int .i64 n).wf = true) (y0 : len0 * 8 ≤ 140737488351232) (w1 : (Lit.int .u8 a1).wf = true) :
    Calls Try.prog 5 #[.slice a0 len0 cap0, .int .u8 a1] w fun e w' => e = .returned (.bool true) ∧ Below w.heap.size w w' := by
  obtain ⟨l0, rfl, hr0, hm0, hw0, hc0⟩ := ReadsInt.ofRowC w0
  obtain ⟨k, h⟩ := P l0 a1 hm0 y0 hw0 w1
  refine (serinettelaw11_QuantNear.calls k _ _ l0 a1 true w (Kd.C_of_reads (d := (0 : Int)) (h1 := fun _ => rfl) hr0) hc0 h).mono ?_
  rintro e w' ⟨rfl, hd⟩
  exact ⟨rfl, hd⟩

end Go.Proofs.Ythbefpilfceooaa.GQuantNear
