/- The walk of ChecksOnce: for all bytes the call answers true, and what was there is as it was. No condition beyond what a Go value can be. -/
import Derived.Test.YtafnlnmhjgnddaaPChecksTellx0
import Derived.Test.YtafnlnmhjgnddaaGiven
import Derived.Test.YtafnlnmhjgnddaaOnceMath
import Derived.Deep.RegionHeld3
import Derived.Deep.DeepCutAuto
namespace Go.Proofs.Ytafnlnmhjgnddaa.GChecksOnce
open Go.RowKit Go.Proofs.YtafnlnmhjgnddaaW.PrintWords Go.Proofs.YtafnlnmhjgnddaaW.PrintLast Go.Proofs.Ytafnlnmhjgnddaa.Ck
theorem u8_wf {x : Int} (h : (Lit.int .u8 x).wf = true) : 0 ≤ x ∧ x < 256 := by
  have e1 : IntKind.u8.min = 0 := by decide
  have e2 : IntKind.u8.max = 255 := by decide
  simp [Lit.wf, e1, e2] at h; omega
theorem info5 : (Try.prog.info? 5).map (fun i => (i.zero, i.size, i.bytes)) = some (some (.int .u8 0), 1, 1) := by kernel_rfl
def law.Pure : Prop := True
theorem pair_reads (w : World) (g : Nat) (a b : Int) (h : w.heap[g]? = some (.cells #[.int .u8 a, .int .u8 b] 36 (0, 0))) : Kd.C (Kd.int .u8) w (some ⟨g, 0, none⟩) [a, b].length [a, b] := by
  refine Kd.C_of_reads (d := (0 : Int)) ⟨rfl, by simp, fun _ => ⟨_, rfl, fun j hj => ?_⟩⟩
  rw [add_plain, blk_cell h]
  have : j < 2 := hj
  rcases j with _ | _ | j
  all_goals first | rfl | omega
theorem eq36 (a b c d : Int) (w : World) : (Op.equalIn 10000 36 (.agg #[.int .u8 a, .int .u8 b]) (.agg #[.int .u8 c, .int .u8 d])).run Try.prog w = .ok (a == c && b == d) w := by
  have u3 := Try.underlying5
  have a3 := Try.isAgg5
  have z3 := Try.sizeOf5
  rw [show (10000 : Nat) = 9999 + 1 from rfl, Op.equalIn]
  simp only [Sem.run_bind, run_underlying Try.underlying36, Result.andThen_ok]
  simp only [Std.Legacy.Range.forIn_eq_forIn_range', Std.Legacy.Range.size, Nat.sub_zero, Nat.add_sub_cancel, Nat.div_one, List.range'_succ, List.range'_zero, List.forIn_cons, List.forIn_nil]
  go_simp
  by_cases h1 : a = c <;> by_cases h2 : b = d <;> simp [h1, h2]
theorem keepC {c1 c2 c3 c4 : Prop} {w W : World} {A : Option Addr} {n : Nat} {l : List Int} (h : c1 ∧ c2 ∧ c3 ∧ c4 ∧ Aside0 (Below w.heap.size w W)) (hr : Kd.C (Kd.int .u8) w A n l) : Kd.C (Kd.int .u8) W A n l := Kd.C_below hr h.2.2.2.2.out
theorem keepB {c1 c2 c3 c4 : Prop} {w0 w W : World} (h : c1 ∧ c2 ∧ c3 ∧ c4 ∧ Aside0 (Below w.heap.size w W)) (hr : Below w0.heap.size w0 w) : Below w0.heap.size w0 W := below_step hr h.2.2.2.2.out
theorem bytes1 {m : List Int} {a : Int} (hm : ∀ x ∈ m, 0 ≤ x ∧ x < 256) (ha : 0 ≤ a ∧ a < 256) : ∀ z ∈ ([] ++ [a]) ++ m, 0 ≤ z ∧ z < 256 := fun x hx => by
  simp only [List.nil_append, List.mem_append, List.mem_singleton] at hx
  rcases hx with rfl | hx
  · exact ha
  · exact hm x hx
theorem bytes2 {m : List Int} {a b : Int} (hm : ∀ x ∈ m, 0 ≤ x ∧ x < 256) (ha : 0 ≤ a ∧ a < 256) (hb : 0 ≤ b ∧ b < 256) : ∀ z ∈ ([] ++ [a, b]) ++ m, 0 ≤ z ∧ z < 256 := fun x hx => by
  simp only [List.nil_append, List.mem_append, List.mem_cons, List.not_mem_nil, or_false] at hx
  rcases hx with (rfl | rfl) | hx
  · exact ha
  · exact hb
  · exact hm x hx
theorem keepS {p1 p2 p3 p4 : Addr} {v1 v2 v3 v4 : Value} {w W W1 : World} (h : W.cell? p1 = some v1 ∧ W.cell? p2 = some v2 ∧ W.cell? p3 = some v3 ∧ W.cell? p4 = some v4 ∧ Aside0 (Below w.heap.size w W)) (hb : Below W.heap.size W W1) :
    W1.cell? p1 = some v1 ∧ W1.cell? p2 = some v2 ∧ W1.cell? p3 = some v3 ∧ W1.cell? p4 = some v4 ∧ Aside0 (Below w.heap.size w W1) :=
  ⟨pw_cell_below hb h.1, pw_cell_below hb h.2.1, pw_cell_below hb h.2.2.1, pw_cell_below hb h.2.2.2.1, ⟨below_step h.2.2.2.2.out hb⟩⟩
set_option maxHeartbeats 4000000 in
set_option maxRecDepth 100000 in
theorem calls (a0 a1 b0 b1 : Int) (A : Option Addr) (cap : Nat) (m : List Int) (w : World) (hr : Kd.C (Kd.int .u8) w A m.length m) (hc : m.length ≤ cap) (hl : m.length ≤ 100)
    (hm : ∀ x ∈ m, 0 ≤ x ∧ x < 256) (ha0 : 0 ≤ a0 ∧ a0 < 256) (ha1 : 0 ≤ a1 ∧ a1 < 256) (hb0 : 0 ≤ b0 ∧ b0 < 256) (hb1 : 0 ≤ b1 ∧ b1 < 256) :
    Calls Try.prog 8 #[.agg #[.int .u8 a0, .int .u8 a1], .agg #[.int .u8 b0, .int .u8 b1], .slice A m.length cap] w fun e w' => e = .returned (.bool true) ∧ Below w.heap.size w w' := by
  have t : decide (100 < (m.length : Int)) = false := decide_eq_false (by omega)
  have HR := Aside0.mk hr
  have HC := Aside0.mk hc
  have HL : Aside0 (m.length ≤ 100) := ⟨hl⟩
  have HX := Aside0.mk (And.intro hm (And.intro ha0 (And.intro ha1 (And.intro hb0 hb1))))
  clear hr hc hl hm ha0 ha1 hb0 hb1
  have e36 := eq36 a0 a1 b0 b1
  go_enter Try.func8, Try.ntmps8
  go_wp2_with fail
  have BW := Aside0.mk (below_alloc (below_alloc (Below.refl w.heap.size w) (.cells #[.int .u8 a0, .int .u8 a1] 36)) (.cells #[.int .u8 b0, .int .u8 b1] 36))
  have BLA := blk_alloc (blk_new w (.cells #[.int .u8 a0, .int .u8 a1] 36)) (.cells #[.int .u8 b0, .int .u8 b1] 36)
  have BLB := blk_new (w.alloc (.cells #[.int .u8 a0, .int .u8 a1] 36)) (.cells #[.int .u8 b0, .int .u8 b1] 36)
  rw [show (w.alloc (.cells #[.int .u8 a0, .int .u8 a1] 36)).heap.size = w.heap.size + 1 by simp] at BLB
  have CA := Aside0.mk (pair_reads _ _ _ _ BLA)
  have CB := Aside0.mk (pair_reads _ _ _ _ BLB)
  have c_a0 := Aside0.mk ((blk_cell BLA 0).trans rfl)
  have c_a1 := Aside0.mk ((blk_cell BLA 1).trans rfl)
  have c_b0 := Aside0.mk ((blk_cell BLB 0).trans rfl)
  have c_b1 := Aside0.mk ((blk_cell BLB 1).trans rfl)
  have HM := Aside0.mk (Kd.C_below HR.out BW.out)
  clear HR BLA BLB
  refine (Given.awake.calls true _ rfl).mono ?_
  rintro e w1 ⟨rfl, hb1⟩
  have HB := Aside0.mk hb1
  clear hb1
  have n_ := Aside0.mk (below_step BW.out HB.out); clear BW; have BW := n_; clear n_
  have n_ := Aside0.mk (Kd.C_below HM.out HB.out); clear HM; have HM := n_; clear n_
  have n_ := Aside0.mk (Kd.C_below CA.out HB.out); clear CA; have CA := n_; clear n_
  have n_ := Aside0.mk (Kd.C_below CB.out HB.out); clear CB; have CB := n_; clear n_
  have n_ := Aside0.mk (pw_cell_below HB.out c_a0.out); clear c_a0; have c_a0 := n_; clear n_
  have n_ := Aside0.mk (pw_cell_below HB.out c_a1.out); clear c_a1; have c_a1 := n_; clear n_
  have n_ := Aside0.mk (pw_cell_below HB.out c_b0.out); clear c_b0; have c_b0 := n_; clear n_
  have n_ := Aside0.mk (pw_cell_below HB.out c_b1.out); clear c_b1; have c_b1 := n_; clear n_
  clear HB
  have HB := Aside0.mk (Below.refl w1.heap.size w1)
  go_upto_region 5 with (first | ((with_reducible refine gate_dst (N := 17) rfl ?_); refine Kd.R_lit (Kd.int .u8) _ 5 ?hg (N := 17) ?hd (xs := ([] : List Int)) (inner := []) (ok := fun _ => True) (okp := fun _ => True) ?hr ?hp (fun _ hk => hk) trivial (Below.refl _ _) (Nat.le_refl _) (by simp) ?_; (case hd => rfl); (case hg => rfl); (case hr => first | (go_simp; done) | (go_simp; rfl)); (case hp => exact (Reps.none _ _)); intro v17 w_17 ho_ hb hg_ hnew_; clear hg_ hnew_; have n0_ := Aside0.mk (Kd.R_lower ho_ (below_size (by repeat (first | (with_reducible first | exact HB.out | apply below_alloc | apply pw_below_drewN | apply below_drew1) | exact HB.out)))); have n1_ := Aside0.mk (below_step (by repeat (first | (with_reducible first | exact HB.out | apply below_alloc | apply pw_below_drewN | apply below_drew1) | exact HB.out)) hb); clear HB; have HO := n0_; have HB := n1_; clear n0_ n1_; clear hb ho_; have cx := pw_cell_below HB.out c_a0.out) | ((with_reducible refine gate_builtin (b := .append) (xs := #[.tmp 17, .tmp 20]) rfl ?_); at_builtin; refine Kd.R_append (Kd.int .u8) (w0 := w1) w1.heap.size rfl (.tmp 17) (.tmp 20) 22 5 (.int .u8 0) 1 rfl Try.underlying22 info5 rfl (by decide) (by omega) v17 [] a0 [.int .u8 a0] (fun _ => True) (fun _ => False) rfl rfl ?aP (fun _ hk => hk.elim) ?aF ?aO ?aB ?aS ?aL ?_; (case aP => exact rfl); (case aB => exact (by repeat (first | (with_reducible first | exact HB.out | apply below_alloc | apply pw_below_drewN | apply below_drew1) | exact HB.out))); (case aF => exact (fun _ _ => trivial)); (case aO => exact (by (with_reducible repeat (first | apply Kd.R_alloc | apply Kd.R_drewN | apply Kd.R_drew)); exact HO.out)); (case aS => exact (below_size (by repeat (first | (with_reducible first | exact HB.out | apply below_alloc | apply pw_below_drewN | apply below_drew1) | exact HB.out)))); (case aL => simp); intro v21 w_17 ho hb hg hat; have n0_ := Aside0.mk (hb); have n1_ := Aside0.mk (ho); clear HB; clear HO; have HB := n0_; have HO := n1_; clear n0_ n1_; clear ho hb hg hat) | ((with_reducible refine gate_builtin (b := .append) (xs := #[.tmp 21, .tmp 22]) rfl ?_); at_builtin; refine Kd.R_append_rows (Kd.int .u8) (w0 := w1) w1.heap.size rfl (.tmp 21) (.tmp 22) 22 5 (.int .u8 0) 1 rfl Try.underlying22 info5 rfl (by decide) (by omega) v21 ([] ++ [a0]) m _ _ _ (fun _ => True) (fun _ => False) rfl rfl ?aO ?aR (fun _ _ h => h) (fun _ h => h.elim) ?aF ?aB ?aS ?aL ?_; (case aR => exact Kd.C_below HM.out HB.out); (case aB => exact HB.out); (case aF => exact (fun _ _ => trivial)); (case aO => exact HO.out); (case aS => exact below_size HB.out); (case aL => simp; have := HL.out; omega); intro v23 w_21 ho hb hg hat; have n0_ := Aside0.mk (hb); have n1_ := Aside0.mk (ho); clear HB; clear HO; have HB := n0_; have HO := n1_; clear n0_ n1_; clear ho hb hg hat))
  obtain ⟨x, hx⟩ : ∃ y_ : List Int, y_ = ([] ++ [a0]) ++ m := ⟨_, rfl⟩
  rw [← hx] at HO
  have Nx := Aside0.mk hx
  obtain ⟨Ax, cx, ex⟩ := Kd.R_slice HO.out
  subst ex
  obtain ⟨_, qx, rx⟩ := Kd.R_reads' HO.out
  have Cx := Aside0.mk qx
  have Rx := Aside0.mk rx
  clear HO hx qx rx
  try clear cx
  have n_ := Aside0.mk (below_step BW.out HB.out); clear BW; have BW := n_; clear n_
  have n_ := Aside0.mk (Kd.C_below HM.out HB.out); clear HM; have HM := n_; clear n_
  have n_ := Aside0.mk (Kd.C_below CA.out HB.out); clear CA; have CA := n_; clear n_
  have n_ := Aside0.mk (Kd.C_below CB.out HB.out); clear CB; have CB := n_; clear n_
  have n_ := Aside0.mk (pw_cell_below HB.out c_a0.out); clear c_a0; have c_a0 := n_; clear n_
  have n_ := Aside0.mk (pw_cell_below HB.out c_a1.out); clear c_a1; have c_a1 := n_; clear n_
  have n_ := Aside0.mk (pw_cell_below HB.out c_b0.out); clear c_b0; have c_b0 := n_; clear n_
  have n_ := Aside0.mk (pw_cell_below HB.out c_b1.out); clear c_b1; have c_b1 := n_; clear n_
  clear HB
  have HB := Aside0.mk (Below.refl w_21.heap.size w_21)
  go_upto_region 6 with (first | ((with_reducible refine gate_dst (N := 24) rfl ?_); refine Kd.R_lit (Kd.int .u8) _ 5 ?hg (N := 24) ?hd (xs := ([] : List Int)) (inner := []) (ok := fun _ => True) (okp := fun _ => True) ?hr ?hp (fun _ hk => hk) trivial (Below.refl _ _) (Nat.le_refl _) (by simp) ?_; (case hd => rfl); (case hg => rfl); (case hr => first | (go_simp; done) | (go_simp; rfl)); (case hp => exact (Reps.none _ _)); intro v24 w_24 ho_ hb hg_ hnew_; clear hg_ hnew_; have n0_ := Aside0.mk (Kd.R_lower ho_ (below_size (by repeat (first | (with_reducible first | exact HB.out | apply below_alloc | apply pw_below_drewN | apply below_drew1) | exact HB.out)))); have n1_ := Aside0.mk (below_step (by repeat (first | (with_reducible first | exact HB.out | apply below_alloc | apply pw_below_drewN | apply below_drew1) | exact HB.out)) hb); clear HB; have HO := n0_; have HB := n1_; clear n0_ n1_; clear hb ho_; have cx := pw_cell_below HB.out c_b0.out) | ((with_reducible refine gate_builtin (b := .append) (xs := #[.tmp 24, .tmp 27]) rfl ?_); at_builtin; refine Kd.R_append (Kd.int .u8) (w0 := w_21) w_21.heap.size rfl (.tmp 24) (.tmp 27) 22 5 (.int .u8 0) 1 rfl Try.underlying22 info5 rfl (by decide) (by omega) v24 [] b0 [.int .u8 b0] (fun _ => True) (fun _ => False) rfl rfl ?aP (fun _ hk => hk.elim) ?aF ?aO ?aB ?aS ?aL ?_; (case aP => exact rfl); (case aB => exact (by repeat (first | (with_reducible first | exact HB.out | apply below_alloc | apply pw_below_drewN | apply below_drew1) | exact HB.out))); (case aF => exact (fun _ _ => trivial)); (case aO => exact (by (with_reducible repeat (first | apply Kd.R_alloc | apply Kd.R_drewN | apply Kd.R_drew)); exact HO.out)); (case aS => exact (below_size (by repeat (first | (with_reducible first | exact HB.out | apply below_alloc | apply pw_below_drewN | apply below_drew1) | exact HB.out)))); (case aL => simp); intro v28 w_24 ho hb hg hat; have n0_ := Aside0.mk (hb); have n1_ := Aside0.mk (ho); clear HB; clear HO; have HB := n0_; have HO := n1_; clear n0_ n1_; clear ho hb hg hat) | ((with_reducible refine gate_builtin (b := .append) (xs := #[.tmp 28, .tmp 29]) rfl ?_); at_builtin; refine Kd.R_append_rows (Kd.int .u8) (w0 := w_21) w_21.heap.size rfl (.tmp 28) (.tmp 29) 22 5 (.int .u8 0) 1 rfl Try.underlying22 info5 rfl (by decide) (by omega) v28 ([] ++ [b0]) m _ _ _ (fun _ => True) (fun _ => False) rfl rfl ?aO ?aR (fun _ _ h => h) (fun _ h => h.elim) ?aF ?aB ?aS ?aL ?_; (case aR => exact Kd.C_below HM.out HB.out); (case aB => exact HB.out); (case aF => exact (fun _ _ => trivial)); (case aO => exact HO.out); (case aS => exact below_size HB.out); (case aL => simp; have := HL.out; omega); intro v30 w_28 ho hb hg hat; have n0_ := Aside0.mk (hb); have n1_ := Aside0.mk (ho); clear HB; clear HO; have HB := n0_; have HO := n1_; clear n0_ n1_; clear ho hb hg hat))
  obtain ⟨y, hy⟩ : ∃ y_ : List Int, y_ = ([] ++ [b0]) ++ m := ⟨_, rfl⟩
  rw [← hy] at HO
  have Ny := Aside0.mk hy
  obtain ⟨Ay, cy, ey⟩ := Kd.R_slice HO.out
  subst ey
  obtain ⟨_, qy, ry⟩ := Kd.R_reads' HO.out
  have Cy := Aside0.mk qy
  have Ry := Aside0.mk ry
  clear HO hy qy ry
  try clear cx
  have n_ := Aside0.mk (below_step BW.out HB.out); clear BW; have BW := n_; clear n_
  have n_ := Aside0.mk (Kd.C_below HM.out HB.out); clear HM; have HM := n_; clear n_
  have n_ := Aside0.mk (Kd.C_below CA.out HB.out); clear CA; have CA := n_; clear n_
  have n_ := Aside0.mk (Kd.C_below CB.out HB.out); clear CB; have CB := n_; clear n_
  have n_ := Aside0.mk (pw_cell_below HB.out c_a0.out); clear c_a0; have c_a0 := n_; clear n_
  have n_ := Aside0.mk (pw_cell_below HB.out c_a1.out); clear c_a1; have c_a1 := n_; clear n_
  have n_ := Aside0.mk (pw_cell_below HB.out c_b0.out); clear c_b0; have c_b0 := n_; clear n_
  have n_ := Aside0.mk (pw_cell_below HB.out c_b1.out); clear c_b1; have c_b1 := n_; clear n_
  have n_ := Aside0.mk (Kd.C_below Rx.out HB.out); clear Rx; have Rx := n_; clear n_
  clear HB
  have HB := Aside0.mk (Below.refl w_28.heap.size w_28)
  go_upto_region 7 with (first | ((with_reducible refine gate_dst (N := 31) rfl ?_); refine Kd.R_lit (Kd.int .u8) _ 5 ?hg (N := 31) ?hd (xs := ([] : List Int)) (inner := []) (ok := fun _ => True) (okp := fun _ => True) ?hr ?hp (fun _ hk => hk) trivial (Below.refl _ _) (Nat.le_refl _) (by simp) ?_; (case hd => rfl); (case hg => rfl); (case hr => first | (go_simp; done) | (go_simp; rfl)); (case hp => exact (Reps.none _ _)); intro v31 w_31 ho_ hb hg_ hnew_; clear hg_ hnew_; have n0_ := Aside0.mk (Kd.R_lower ho_ (below_size (by repeat (first | (with_reducible first | exact HB.out | apply below_alloc | apply pw_below_drewN | apply below_drew1) | exact HB.out)))); have n1_ := Aside0.mk (below_step (by repeat (first | (with_reducible first | exact HB.out | apply below_alloc | apply pw_below_drewN | apply below_drew1) | exact HB.out)) hb); clear HB; have HO := n0_; have HB := n1_; clear n0_ n1_; clear hb ho_) | ((with_reducible refine gate_builtin (b := .append) (xs := #[.tmp 31, .tmp 32]) rfl ?_); at_builtin; refine Kd.R_append_rows (Kd.int .u8) (w0 := w_28) w_28.heap.size rfl (.tmp 31) (.tmp 32) 22 5 (.int .u8 0) 1 rfl Try.underlying22 info5 rfl (by decide) (by omega) v31 [] [a0, a1] _ _ _ (fun _ => True) (fun _ => False) rfl rfl ?aO ?aR (fun _ _ h => h) (fun _ h => h.elim) ?aF ?aB ?aS ?aL ?_; (case aR => exact Kd.C_below CA.out HB.out); (case aB => exact HB.out); (case aF => exact (fun _ _ => trivial)); (case aO => exact HO.out); (case aS => exact below_size HB.out); (case aL => simp); intro v33 w_31 ho hb hg hat; have n0_ := Aside0.mk (hb); have n1_ := Aside0.mk (ho); clear HB; clear HO; have HB := n0_; have HO := n1_; clear n0_ n1_; clear ho hb hg hat) | ((with_reducible refine gate_builtin (b := .append) (xs := #[.tmp 33, .tmp 34]) rfl ?_); at_builtin; refine Kd.R_append_rows (Kd.int .u8) (w0 := w_28) w_28.heap.size rfl (.tmp 33) (.tmp 34) 22 5 (.int .u8 0) 1 rfl Try.underlying22 info5 rfl (by decide) (by omega) v33 ([] ++ [a0, a1]) m _ _ _ (fun _ => True) (fun _ => False) rfl rfl ?aO ?aR (fun _ _ h => h) (fun _ h => h.elim) ?aF ?aB ?aS ?aL ?_; (case aR => exact Kd.C_below HM.out HB.out); (case aB => exact HB.out); (case aF => exact (fun _ _ => trivial)); (case aO => exact HO.out); (case aS => exact below_size HB.out); (case aL => simp; have := HL.out; omega); intro v35 w_33 ho hb hg hat; have n0_ := Aside0.mk (hb); have n1_ := Aside0.mk (ho); clear HB; clear HO; have HB := n0_; have HO := n1_; clear n0_ n1_; clear ho hb hg hat))
  obtain ⟨u, hu⟩ : ∃ y_ : List Int, y_ = ([] ++ [a0, a1]) ++ m := ⟨_, rfl⟩
  rw [← hu] at HO
  have Nu := Aside0.mk hu
  obtain ⟨Au, cu, eu⟩ := Kd.R_slice HO.out
  subst eu
  obtain ⟨_, qu, ru⟩ := Kd.R_reads' HO.out
  have Cu := Aside0.mk qu
  have Ru := Aside0.mk ru
  clear HO hu qu ru
  try clear cx
  have n_ := Aside0.mk (below_step BW.out HB.out); clear BW; have BW := n_; clear n_
  have n_ := Aside0.mk (Kd.C_below HM.out HB.out); clear HM; have HM := n_; clear n_
  have n_ := Aside0.mk (Kd.C_below CA.out HB.out); clear CA; have CA := n_; clear n_
  have n_ := Aside0.mk (Kd.C_below CB.out HB.out); clear CB; have CB := n_; clear n_
  have n_ := Aside0.mk (pw_cell_below HB.out c_a0.out); clear c_a0; have c_a0 := n_; clear n_
  have n_ := Aside0.mk (pw_cell_below HB.out c_a1.out); clear c_a1; have c_a1 := n_; clear n_
  have n_ := Aside0.mk (pw_cell_below HB.out c_b0.out); clear c_b0; have c_b0 := n_; clear n_
  have n_ := Aside0.mk (pw_cell_below HB.out c_b1.out); clear c_b1; have c_b1 := n_; clear n_
  have n_ := Aside0.mk (Kd.C_below Rx.out HB.out); clear Rx; have Rx := n_; clear n_
  have n_ := Aside0.mk (Kd.C_below Ry.out HB.out); clear Ry; have Ry := n_; clear n_
  clear HB
  have HB := Aside0.mk (Below.refl w_33.heap.size w_33)
  go_upto_region 8 with (first | ((with_reducible refine gate_dst (N := 36) rfl ?_); refine Kd.R_lit (Kd.int .u8) _ 5 ?hg (N := 36) ?hd (xs := ([] : List Int)) (inner := []) (ok := fun _ => True) (okp := fun _ => True) ?hr ?hp (fun _ hk => hk) trivial (Below.refl _ _) (Nat.le_refl _) (by simp) ?_; (case hd => rfl); (case hg => rfl); (case hr => first | (go_simp; done) | (go_simp; rfl)); (case hp => exact (Reps.none _ _)); intro v36 w_36 ho_ hb hg_ hnew_; clear hg_ hnew_; have n0_ := Aside0.mk (Kd.R_lower ho_ (below_size (by repeat (first | (with_reducible first | exact HB.out | apply below_alloc | apply pw_below_drewN | apply below_drew1) | exact HB.out)))); have n1_ := Aside0.mk (below_step (by repeat (first | (with_reducible first | exact HB.out | apply below_alloc | apply pw_below_drewN | apply below_drew1) | exact HB.out)) hb); clear HB; have HO := n0_; have HB := n1_; clear n0_ n1_; clear hb ho_) | ((with_reducible refine gate_builtin (b := .append) (xs := #[.tmp 36, .tmp 37]) rfl ?_); at_builtin; refine Kd.R_append_rows (Kd.int .u8) (w0 := w_33) w_33.heap.size rfl (.tmp 36) (.tmp 37) 22 5 (.int .u8 0) 1 rfl Try.underlying22 info5 rfl (by decide) (by omega) v36 [] [b0, b1] _ _ _ (fun _ => True) (fun _ => False) rfl rfl ?aO ?aR (fun _ _ h => h) (fun _ h => h.elim) ?aF ?aB ?aS ?aL ?_; (case aR => exact Kd.C_below CB.out HB.out); (case aB => exact HB.out); (case aF => exact (fun _ _ => trivial)); (case aO => exact HO.out); (case aS => exact below_size HB.out); (case aL => simp); intro v38 w_36 ho hb hg hat; have n0_ := Aside0.mk (hb); have n1_ := Aside0.mk (ho); clear HB; clear HO; have HB := n0_; have HO := n1_; clear n0_ n1_; clear ho hb hg hat) | ((with_reducible refine gate_builtin (b := .append) (xs := #[.tmp 38, .tmp 39]) rfl ?_); at_builtin; refine Kd.R_append_rows (Kd.int .u8) (w0 := w_33) w_33.heap.size rfl (.tmp 38) (.tmp 39) 22 5 (.int .u8 0) 1 rfl Try.underlying22 info5 rfl (by decide) (by omega) v38 ([] ++ [b0, b1]) m _ _ _ (fun _ => True) (fun _ => False) rfl rfl ?aO ?aR (fun _ _ h => h) (fun _ h => h.elim) ?aF ?aB ?aS ?aL ?_; (case aR => exact Kd.C_below HM.out HB.out); (case aB => exact HB.out); (case aF => exact (fun _ _ => trivial)); (case aO => exact HO.out); (case aS => exact below_size HB.out); (case aL => simp; have := HL.out; omega); intro v40 w_38 ho hb hg hat; have n0_ := Aside0.mk (hb); have n1_ := Aside0.mk (ho); clear HB; clear HO; have HB := n0_; have HO := n1_; clear n0_ n1_; clear ho hb hg hat))
  obtain ⟨v, hv⟩ : ∃ y_ : List Int, y_ = ([] ++ [b0, b1]) ++ m := ⟨_, rfl⟩
  rw [← hv] at HO
  have Nv := Aside0.mk hv
  obtain ⟨Av, cv, ev⟩ := Kd.R_slice HO.out
  subst ev
  obtain ⟨_, qv, rv⟩ := Kd.R_reads' HO.out
  have Cv := Aside0.mk qv
  have Rv := Aside0.mk rv
  clear HO hv qv rv
  try clear cx
  have n_ := Aside0.mk (below_step BW.out HB.out); clear BW; have BW := n_; clear n_
  have n_ := Aside0.mk (Kd.C_below HM.out HB.out); clear HM; have HM := n_; clear n_
  have n_ := Aside0.mk (Kd.C_below CA.out HB.out); clear CA; have CA := n_; clear n_
  have n_ := Aside0.mk (Kd.C_below CB.out HB.out); clear CB; have CB := n_; clear n_
  have n_ := Aside0.mk (pw_cell_below HB.out c_a0.out); clear c_a0; have c_a0 := n_; clear n_
  have n_ := Aside0.mk (pw_cell_below HB.out c_a1.out); clear c_a1; have c_a1 := n_; clear n_
  have n_ := Aside0.mk (pw_cell_below HB.out c_b0.out); clear c_b0; have c_b0 := n_; clear n_
  have n_ := Aside0.mk (pw_cell_below HB.out c_b1.out); clear c_b1; have c_b1 := n_; clear n_
  have n_ := Aside0.mk (Kd.C_below Rx.out HB.out); clear Rx; have Rx := n_; clear n_
  have n_ := Aside0.mk (Kd.C_below Ry.out HB.out); clear Ry; have Ry := n_; clear n_
  have n_ := Aside0.mk (Kd.C_below Ru.out HB.out); clear Ru; have Ru := n_; clear n_
  clear HB
  have HB := Aside0.mk (Below.refl w_38.heap.size w_38)
  have h8 : ∃ q : Bool, (e8 0 x == e8 0 y) = q ∧ (a0 == b0) = q := ⟨_, by rw [Nx.out, Ny.out]; exact OnceMath.once8 a0 b0 m HX.out.2.1 HX.out.2.2.2.1 HX.out.1, rfl⟩
  have h16 : (e16 0 u == e16 0 v) = (a0 == b0 && a1 == b1) := by rw [Nu.out, Nv.out]; exact OnceMath.once16 a0 a1 b0 b1 m HX.out.2.1 HX.out.2.2.1 HX.out.2.2.2.1 HX.out.2.2.2.2 HX.out.1
  have XB : Aside0 (∀ z ∈ x, 0 ≤ z ∧ z < 256) := ⟨by rw [Nx.out]; exact bytes1 HX.out.1 HX.out.2.1⟩
  have YB : Aside0 (∀ z ∈ y, 0 ≤ z ∧ z < 256) := ⟨by rw [Ny.out]; exact bytes1 HX.out.1 HX.out.2.2.2.1⟩
  have UB : Aside0 (∀ z ∈ u, 0 ≤ z ∧ z < 256) := ⟨by rw [Nu.out]; exact bytes2 HX.out.1 HX.out.2.1 HX.out.2.2.1⟩
  have VB : Aside0 (∀ z ∈ v, 0 ≤ z ∧ z < 256) := ⟨by rw [Nv.out]; exact bytes2 HX.out.1 HX.out.2.2.2.1 HX.out.2.2.2.2⟩
  obtain ⟨q8, p8, p8'⟩ := h8
  rw [p8'] at h16
  obtain ⟨q9, p9⟩ : ∃ q : Bool, (a1 == b1) = q := ⟨_, rfl⟩
  rw [p9] at h16
  have K0 := c_a0.out
  have K1 := c_a1.out
  have K2 := c_b0.out
  have K3 := c_b1.out
  clear c_a0 c_a1 c_b0 c_b1 CA CB HM Nx Ny Nu Nv HX t
  go_region_held3 (fun w' => w'.cell? ⟨w.heap.size, 0, none⟩ = some (.int .u8 a0) ∧ w'.cell? ⟨w.heap.size, 1, none⟩ = some (.int .u8 a1) ∧ w'.cell? ⟨w.heap.size + 1, 0, none⟩ = some (.int .u8 b0) ∧ w'.cell? ⟨w.heap.size + 1, 1, none⟩ = some (.int .u8 b1) ∧ Aside0 (Below w_38.heap.size w_38 w'))
    (first | (exact ⟨K0, K1, K2, K3, ⟨below_drew1 (Below.refl _ _)⟩⟩) | (exact keepS (by assumption) (by assumption)))
    (first | (go_at_call 15; refine (oneof_any Ax cx x _ (keepC (by assumption) Rx.out) Cx.out XB.out).mono ?_; rintro e w5 ⟨rfl, hb5⟩) | (go_at_call 15; refine (oneof_any Ay cy y _ (keepC (by assumption) Ry.out) Cy.out YB.out).mono ?_; rintro e w5 ⟨rfl, hb5⟩) | (go_at_call 16; refine (twoof_any Au cu u _ (keepC (by assumption) Ru.out) Cu.out UB.out).mono ?_; rintro e w5 ⟨rfl, hb5⟩) | (go_at_call 16; refine (twoof_any Av cv v _ (keepC (by assumption) Rv.out) Cv.out VB.out).mono ?_; rintro e w5 ⟨rfl, hb5⟩))
  go_wp2
  go_ret
  exact ⟨rfl, keepB (by assumption) BW.out⟩
theorem long (a0 a1 b0 b1 : Int) (A : Option Addr) (cap : Nat) (m : List Int) (w : World) (hl : 100 < m.length) :
    Calls Try.prog 8 #[.agg #[.int .u8 a0, .int .u8 a1], .agg #[.int .u8 b0, .int .u8 b1], .slice A m.length cap] w fun e w' => e = .returned (.bool true) ∧ Below w.heap.size w w' := by
  have t : decide (100 < (m.length : Int)) = true := decide_eq_true (by omega)
  clear hl
  have BW := Aside0.mk (below_alloc (below_alloc (Below.refl w.heap.size w) (.cells #[.int .u8 a0, .int .u8 a1] 36)) (.cells #[.int .u8 b0, .int .u8 b1] 36))
  go_enter Try.func8, Try.ntmps8
  go_wp2_with fail
  refine (Given.awake.calls true _ rfl).mono ?_
  rintro e w1 ⟨rfl, hb1⟩
  have HB := Aside0.mk hb1
  clear hb1
  go_wp2_with fail
  go_ret
  exact ⟨rfl, below_step BW.out HB.out⟩
theorem law.walk (x0 x1 y0 y1 : Int) (a2 : Option Addr) (len2 cap2 : Nat) (z2 : List Int) (w : World) (w2 : (a2 = none ∧ len2 = 0 ∧ cap2 = 0 ∧ z2 = []) ∨ ∃ x, a2 = some x ∧ len2 ≤ cap2 ∧ cap2 ≤ maxLen ∧ z2.length = cap2 ∧ (∀ i, i < z2.length → w.cell? (x.add i) = some (.int .u8 (z2.getD i 0))) ∧ ∀ n ∈ z2, (Lit.int .u8 n).wf = true)
    (u0 : (Lit.int .u8 x0).wf = true) (u1 : (Lit.int .u8 x1).wf = true) (u2 : (Lit.int .u8 y0).wf = true) (u3 : (Lit.int .u8 y1).wf = true) :
    Calls Try.prog 8 #[.agg #[.int .u8 x0, .int .u8 x1], .agg #[.int .u8 y0, .int .u8 y1], .slice a2 len2 cap2] w fun e w' => e = .returned (.bool true) ∧ Below w.heap.size w w' := by
  obtain ⟨l2, rfl, hr2, hm2, hw2, hc2⟩ := ReadsInt.ofRowC w2
  by_cases hl : 100 < l2.length
  · exact long x0 x1 y0 y1 a2 cap2 l2 w hl
  · exact calls x0 x1 y0 y1 a2 cap2 l2 w (Kd.C_of_reads (d := (0 : Int)) (h1 := fun _ => rfl) hr2) hc2 (by omega) (fun x hx => u8_wf (hw2 x hx)) (u8_wf u0) (u8_wf u1) (u8_wf u2) (u8_wf u3)
end Go.Proofs.Ytafnlnmhjgnddaa.GChecksOnce
