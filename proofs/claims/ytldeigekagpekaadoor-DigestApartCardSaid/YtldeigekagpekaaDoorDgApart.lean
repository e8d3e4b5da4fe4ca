/- The walk of DigestApart. No condition beyond the table's. -/
import Derived.Test.YtldeigekagpekaaDoorDgCuts
import Derived.Test.YtldeigekagpekaaDoorDgOwn
import Derived.Deep.DeepCutAuto
set_option linter.unusedVariables false
set_option linter.unusedSimpArgs false
namespace Go.Proofs.YtldeigekagpekaaDoor.Dg
open Go.RowKit Go.Proofs.YtldeigekagpekaaDoorW.PrintWords Go.Proofs.YtldeigekagpekaaDoorW.PrintMore
theorem Dg_old {w : World} {g N : Nat} {ok : Nat → Prop} {l : List Int} (h : Dg w g ok l) (hN : w.heap.size ≤ N) : Dg w g (fun k => k < N) l := by
  obtain ⟨A, c, h1, h2, h3, h4, h5, h6⟩ := h
  refine ⟨A, c, h1, h2, h3, h4, fun ad e hp => ?_, h6⟩
  subst e
  exact Nat.lt_of_lt_of_le (Kd.C_lt h2 hp (by decide)) hN
/-- What DigestApart has: two states, two digests that were told. -/
def Ap (w : World) (g1 g2 g10 g11 N : Nat) (l1 l2 : List Int) (D : Array Value) : Prop :=
  Dg w g1 (fun k => k < N) l1 ∧ Dg w g2 (fun k => k < N) l2 ∧ w.heap[g10]? = some (.cells D 24 (0, 0)) ∧ w.heap[g11]? = some (.cells D 24 (0, 0)) ∧ g1 < N ∧ g2 < N ∧ g10 < N ∧ g11 < N ∧ N ≤ w.heap.size
theorem Ap_size {w : World} {g1 g2 g10 g11 N : Nat} {l1 l2 : List Int} {D : Array Value} (h : Ap w g1 g2 g10 g11 N l1 l2 D) : N ≤ w.heap.size := h.2.2.2.2.2.2.2.2
theorem Ap_below {w w' : World} {g1 g2 g10 g11 N : Nat} {l1 l2 : List Int} {D : Array Value} (h : Ap w g1 g2 g10 g11 N l1 l2 D) (hb : Below w.heap.size w w') : Ap w' g1 g2 g10 g11 N l1 l2 D := by
  obtain ⟨h1, h2, h3, h4, h5, h6, h7, h8, h9⟩ := h
  exact ⟨Dg_below h1 hb, Dg_below h2 hb, (hb.block _ (blk_lt h3)).trans h3, (hb.block _ (blk_lt h4)).trans h4, h5, h6, h7, h8, Nat.le_trans h9 hb.size⟩
theorem Ap_own {w w' : World} {g1 g2 g10 g11 N : Nat} {l1 l2 : List Int} {D : Array Value} {v : Value} (h : Ap w g1 g2 g10 g11 N l1 l2 D) (hv : ∃ b, v.ownBlock = some b ∧ N ≤ b) (hg : w.grownBy w' v.ownBlock) : Ap w' g1 g2 g10 g11 N l1 l2 D := by
  obtain ⟨h1, h2, h3, h4, h5, h6, h7, h8, h9⟩ := h
  obtain ⟨b, hb, hN⟩ := hv
  rw [hb] at hg
  exact ⟨Dg_row h1 hg (by omega) (fun k hk => by omega), Dg_row h2 hg (by omega) (fun k hk => by omega), blk_grown h3 hg (by simp only [ne_eq, Option.some.injEq]; omega), blk_grown h4 hg (by simp only [ne_eq, Option.some.injEq]; omega), h5, h6, h7, h8, Nat.le_trans h9 hg.size⟩
theorem own_next {v v1 : Value} {N S : Nat} (h : ∃ b, v.ownBlock = some b ∧ N ≤ b) (hat : v1.ownBlock = v.ownBlock ∨ ∃ b, v1.ownBlock = some b ∧ S ≤ b) (hS : N ≤ S) : ∃ b, v1.ownBlock = some b ∧ N ≤ b := by
  rcases hat with e | ⟨b, e, hb⟩
  · rw [e]; exact h
  · exact ⟨b, e, Nat.le_trans hS hb⟩
section
variable {w wn w' w1 : World} {g1 g2 g10 g11 N : Nat} {l1 l2 : List Int} {L : List Value}
theorem apRange (h : Ap w g1 g2 g10 g11 N l1 l2 L.toArray) : w.rangeAt g10 0 L ∧ w.rangeAt g11 0 L := ⟨range4 h.2.2.1 0 L (by simp), range4 h.2.2.2.1 0 L (by simp)⟩
theorem apKeep (h : Aside0 (Ap w' g1 g2 g10 g11 N l1 l2 L.toArray ∧ Below wn.heap.size wn w')) (hb : Below w'.heap.size w' w1) : Aside0 (Ap w1 g1 g2 g10 g11 N l1 l2 L.toArray ∧ Below wn.heap.size wn w1) := ⟨Ap_below h.out.1 hb, below_step h.out.2 hb⟩
end
theorem quiet_lit {P : Program} {C : World → Prop} {id : Nat} {Q : Exit → Act → World → Prop} {a : Act} {w : World} {l : List Oper} (hm : P.follows .mixedOrders = true) (hB : Region.lexB .any l.toArray = true) (hC : C w.drew)
    (h : wpQuiet P l.toArray C (fun a' => ∀ w', C w' → Q .normal a' w') l a) : (Code.region id l.toArray true).wp P Q a w :=
  wp_region_quiet hm hB hC (by simpa using h)
/-- A whole array is read in a region that draws its order: one value in every world of the class. -/
theorem quiet_load_mid {P : Program} {ops : Array Oper} {C : World → Prop} {o : Oper} {a : Act} {K : Act → Prop} (ty : TypeId) (x : Operand) (ho : o.op = .load ty x) (b off : Nat) (hx : a.eval x = .pointer (some ⟨b, off, none⟩)) (cs : List Value) (d : TypeDesc)
    (hc : ∀ w, C w → w.rangeAt b off cs) (hu : P.underlying ty = some d) (hd : d.isRow = true) (hi : (P.info? ty).map (·.size) = some cs.length) (hw : Region.wanted o (yielded ops a.tmps) = true) (h : K (a.put o.dst (.agg cs.toArray))) :
    if Region.wanted o (yielded ops a.tmps) then o.quiet P a C K else K (a.put o.dst undef) := by
  rw [if_pos hw]
  refine ⟨_, fun w hC => ?_, h⟩
  unfold Oper.quietAt execOp
  simp only [ho, hx, Instr.loadAt, Instr.sureAddr, Sem.run_bind, Sem.run_pure, Result.andThen_ok, run_loadVar_mid w b off ty cs d (hc w hC) hu hd hi, Oper.quietUpon, and_self]
set_option maxHeartbeats 4000000 in
set_option maxRecDepth 100000 in
theorem apart_any (w : World) (A : Option Addr) (ca : Nat) (a : List Int) (B : Option Addr) (cb : Nat) (b : List Int) (C : Option Addr) (cc : Nat) (c : List Int)
    (hra : Kd.C (Kd.int .u8) w A a.length a) (hca : a.length ≤ ca) (hxa : ∀ x ∈ a, 0 ≤ x ∧ x < 256) (hrb : Kd.C (Kd.int .u8) w B b.length b) (hcb : b.length ≤ cb) (hxb : ∀ x ∈ b, 0 ≤ x ∧ x < 256)
    (hrc : Kd.C (Kd.int .u8) w C c.length c) (hcc : c.length ≤ cc) (hxc : ∀ x ∈ c, 0 ≤ x ∧ x < 256) (ht : Tab w) (hla : a.length ≤ 100) (hlb : b.length ≤ 100) (hlc : c.length ≤ 100) :
    Calls Tryd.prog 7 #[.slice A a.length ca, .slice B b.length cb, .slice C c.length cc] w fun e w' => e = .returned (.bool true) ∧ Below w.heap.size w w' := by
  have RA := Aside0.mk hra
  have RB := Aside0.mk hrb
  have RC := Aside0.mk hrc
  have HT := Aside0.mk ht
  have XA := Aside0.mk (And.intro hca hxa)
  have XB := Aside0.mk (And.intro hcb hxb)
  have XC := Aside0.mk (And.intro hcc hxc)
  have HL := Aside0.mk (And.intro hla (And.intro hlb hlc))
  have ta : decide ((100 : Int) < (a.length : Int)) = false := decide_eq_false (by omega)
  have tb : decide ((100 : Int) < (b.length : Int)) = false := decide_eq_false (by omega)
  have tc : decide ((100 : Int) < (c.length : Int)) = false := decide_eq_false (by omega)
  clear hra hrb hrc hca hcb hcc hxa hxb hxc ht hla hlb hlc
  go_enter Tryd.func7, Tryd.ntmps7
  go_wp2_with fail
  refine (awake_any _ HT.out).mono ?_
  rintro e w1 ⟨rfl, hb1⟩
  have BW := Aside0.mk hb1
  clear hb1
  go_wp2_with fail
  refine (new_any _).mono ?_
  rintro e w2 ⟨rfl, hw2⟩
  have DS := Aside0.mk (Dg_new w1 (fun _ => False))
  have GS : Aside0 (w.heap.size ≤ w1.heap.size) := ⟨BW.out.size⟩
  have n_ := Aside0.mk (below_alloc BW.out (.cells (stA 1732584193 4023233417 2562383102 271733878 (.slice none 0 0) 0) 48)); clear BW; have BW := n_; clear n_
  rw [← hw2] at DS BW
  clear hw2
  generalize w1.heap.size = g1 at *
  go_wp2_with fail
  refine (new_any _).mono ?_
  rintro e w3 ⟨rfl, hw3⟩
  have DT := Aside0.mk (Dg_new w2 (fun _ => False))
  have GT : Aside0 (g1 < w2.heap.size) := ⟨Dg_lt DS.out⟩
  have n_ := Aside0.mk (below_alloc BW.out (.cells (stA 1732584193 4023233417 2562383102 271733878 (.slice none 0 0) 0) 48)); clear BW; have BW := n_; clear n_
  have n_ := Aside0.mk (Dg_below DS.out (below_alloc (Below.refl _ _) (.cells (stA 1732584193 4023233417 2562383102 271733878 (.slice none 0 0) 0) 48))); clear DS; have DS := n_; clear n_
  rw [← hw3] at DS DT BW
  clear hw3
  generalize w2.heap.size = g2 at *
  go_wp2_with fail
  have KG := Aside0.mk DS.out
  refine (Dg_add w3 g1 (fun _ => False) (fun _ => True) [] a A ca DS.out (Kd.C_below RA.out BW.out) XA.out.1 XA.out.2 (tab_below HT.out BW.out) (by simp) (by have := HL.out; omega) (fun _ _ _ => trivial) (fun _ _ _ => trivial)).mono ?_
  rintro e w4 ⟨rfl, hd, hg⟩
  have n_ := Aside0.mk hd; clear DS; have DS := n_; clear n_
  have n_ := Aside0.mk (Dg_grown DT.out KG.out hg (by have := GT.out; omega)); clear DT; have DT := n_; clear n_
  have n_ := Aside0.mk (Below.grown BW.out hg BW.out.size (fun k e => by have := GS.out; have := GT.out; injection e with e; omega)); clear BW; have BW := n_; clear n_
  clear hd hg KG
  rw [List.nil_append] at DS
  go_wp2_with fail
  have KG := Aside0.mk DT.out
  refine (Dg_add w4 g2 (fun _ => False) (fun _ => True) [] b B cb DT.out (Kd.C_below RB.out BW.out) XB.out.1 XB.out.2 (tab_below HT.out BW.out) (by simp) (by have := HL.out; omega) (fun _ _ _ => trivial) (fun _ _ _ => trivial)).mono ?_
  rintro e w5 ⟨rfl, hd, hg⟩
  have n_ := Aside0.mk hd; clear DT; have DT := n_; clear n_
  have n_ := Aside0.mk (Dg_grown DS.out KG.out hg (by have := GT.out; omega)); clear DS; have DS := n_; clear n_
  have n_ := Aside0.mk (Below.grown BW.out hg BW.out.size (fun k e => by have := GS.out; have := GT.out; injection e with e; omega)); clear BW; have BW := n_; clear n_
  clear hd hg KG
  rw [List.nil_append] at DT
  go_wp2_with fail
  refine (Dg_sum w5 g2 _ b DT.out (tab_below HT.out BW.out) (by have := HL.out; omega)).mono ?_
  rintro e w6 ⟨rfl, hb⟩
  have n_ := Aside0.mk (Dg_below DS.out hb); clear DS; have DS := n_; clear n_
  have n_ := Aside0.mk (Dg_below DT.out hb); clear DT; have DT := n_; clear n_
  have n_ := Aside0.mk (below_step BW.out hb); clear BW; have BW := n_; clear n_
  clear hb
  go_wp2_with ((with_reducible refine gate_store rfl ?_); refine wpList_store_row rfl 24 (.tmp 10) (.tmp 43) rfl _ _ rfl rfl 24 _ (heap_alloc_last _ _) ?hi1 ?ho1 ?ha1 ?_; (case hi1 => kernel_rfl); (case ho1 => rfl); (case ha1 => kernel_rfl); rw [World.setRow_alloc_new])
  have GW : Aside0 (g1 < w6.heap.size ∧ g2 < w6.heap.size) := ⟨Dg_lt DS.out, Dg_lt DT.out⟩
  have WS := Aside0.mk (heap_alloc_last w6 (.cells (dgA (ofP b)) 24))
  have n_ := Aside0.mk (Dg_below DS.out (below_alloc (Below.refl _ _) (.cells (dgA (ofP b)) 24))); clear DS; have DS := n_; clear n_
  have n_ := Aside0.mk (Dg_below DT.out (below_alloc (Below.refl _ _) (.cells (dgA (ofP b)) 24))); clear DT; have DT := n_; clear n_
  have n_ := Aside0.mk (below_alloc BW.out (.cells (dgA (ofP b)) 24)); clear BW; have BW := n_; clear n_
  generalize w6.alloc (.cells (dgA (ofP b)) 24) = w7 at *
  generalize w6.heap.size = g10 at *
  have KG := Aside0.mk DS.out
  refine (Dg_add w7 g1 (fun _ => True) (fun _ => True) a c C cc DS.out (Kd.C_below RC.out BW.out) XC.out.1 XC.out.2 (tab_below HT.out BW.out) (by have := HL.out; omega) (by have := HL.out; omega) (fun _ _ _ => trivial) (fun _ _ _ => trivial)).mono ?_
  rintro e w8 ⟨rfl, hd, hg⟩
  have n_ := Aside0.mk hd; clear DS; have DS := n_; clear n_
  have n_ := Aside0.mk (Dg_grown DT.out KG.out hg (by have := GT.out; omega)); clear DT; have DT := n_; clear n_
  have n_ := Aside0.mk (blk_grown WS.out hg (by have := GW.out.1; simp only [ne_eq, Option.some.injEq]; omega)); clear WS; have WS := n_; clear n_
  have n_ := Aside0.mk (Below.grown BW.out hg BW.out.size (fun k e => by have := GS.out; have := GT.out; injection e with e; omega)); clear BW; have BW := n_; clear n_
  clear hd hg KG
  go_wp2_with fail
  refine (Dg_sum w8 g2 _ b DT.out (tab_below HT.out BW.out) (by have := HL.out; omega)).mono ?_
  rintro e w9 ⟨rfl, hb⟩
  have n_ := Aside0.mk (Dg_below DS.out hb); clear DS; have DS := n_; clear n_
  have n_ := Aside0.mk (Dg_below DT.out hb); clear DT; have DT := n_; clear n_
  have n_ := Aside0.mk ((hb.block _ (blk_lt WS.out)).trans WS.out); clear WS; have WS := n_; clear n_
  have n_ := Aside0.mk (below_step BW.out hb); clear BW; have BW := n_; clear n_
  clear hb
  go_upto_region 13 with ((with_reducible refine gate_store rfl ?_); refine wpList_store_row rfl 24 (.tmp 11) (.tmp 48) rfl _ _ rfl rfl 24 _ (heap_alloc_last _ _) ?hi1 ?ho1 ?ha1 ?_; (case hi1 => kernel_rfl); (case ho1 => rfl); (case ha1 => kernel_rfl); rw [World.setRow_alloc_new])
  have GX : Aside0 (g10 < w9.heap.size) := ⟨blk_lt WS.out⟩
  obtain ⟨wa, hwa⟩ : ∃ wa, wa = w9.alloc (.cells (dgA (ofP b)) 24) := ⟨_, rfl⟩
  have AP : Aside0 (Ap wa g1 g2 g10 w9.heap.size (w9.heap.size + 1) (a ++ c) b (dgA (ofP b))) := ⟨by
    rw [hwa]
    exact ⟨Dg_old (Dg_below DS.out (below_alloc (Below.refl _ _) _)) (by simp), Dg_old (Dg_below DT.out (below_alloc (Below.refl _ _) _)) (by simp), blk_alloc WS.out _, heap_alloc_last w9 _, by have := GW.out.1; have := GX.out; omega, by have := GW.out.2; have := GX.out; omega, by have := GX.out; omega, by omega, by simp⟩⟩
  have n_ := Aside0.mk (below_alloc BW.out (.cells (dgA (ofP b)) 24)); clear BW; have BW := n_; clear n_
  rw [← hwa] at BW ⊢
  clear hwa DS DT WS GS GT GW GX
  generalize w9.heap.size = g11 at *
  go_wp2_with (first | ((with_reducible refine gate_dst (N := 49) rfl ?_); refine Kd.R_lit (Kd.int .u8) _ 5 ?hg (N := 49) ?hd (xs := ([] : List Int)) (inner := []) (ok := fun _ => True) (okp := fun _ => True) ?hr ?hp (fun _ hk => hk) trivial (Below.refl _ _) (Nat.le_refl _) (by simp) ?_; (case hd => rfl); (case hg => rfl); (case hr => first | (go_simp; done) | (go_simp; rfl)); (case hp => exact (Reps.none _ _)); intro v49 wl ho5 hb5 hg5 hnew5; have HO := Aside0.mk (Kd.R_lower ho5 BW.out.size); have n1_ := Aside0.mk (below_step BW.out hb5); clear BW; have BW := n1_; clear n1_; have GV : Aside0 (∃ b, v49.ownBlock = some b ∧ g11 + 1 ≤ b) := ⟨by obtain ⟨b, h1, h2⟩ := hnew5; exact ⟨b, h1, Nat.le_trans (Ap_size AP.out) h2⟩⟩; have n0_ := Aside0.mk (Ap_below AP.out (below_of_grown hg5)); clear AP; have AP := n0_; clear n0_; clear ho5 hb5 hg5 hnew5) | ((with_reducible refine gate_builtin (b := .append) (xs := #[.tmp 49, .tmp 50]) rfl ?_); at_builtin; refine Kd.R_append_rows (Kd.int .u8) (w0 := w) w.heap.size rfl (.tmp 49) (.tmp 50) 22 5 (.int .u8 0) 1 rfl Tryd.underlying22 info5 rfl (by decide) (by omega) v49 [] a _ _ _ (fun _ => True) (fun _ => False) rfl rfl ?aO ?aR (fun _ _ h => h) (fun _ h => h.elim) ?aF ?aB ?aS ?aL ?_; (case aR => exact (Kd.C_below RA.out BW.out)); (case aB => exact BW.out); (case aF => exact (fun _ _ => trivial)); (case aO => exact HO.out); (case aS => exact BW.out.size); (case aL => have := HL.out; simp only [List.length_nil]; omega); intro v51 wm ho hb hg hat; rw [List.nil_append] at ho; have GV2 : Aside0 (∃ b, v51.ownBlock = some b ∧ g11 + 1 ≤ b) := ⟨own_next GV.out hat (Ap_size AP.out)⟩; have n0_ := Aside0.mk (Ap_own AP.out GV.out hg); clear AP; have AP := n0_; clear n0_; have n0_ := Aside0.mk hb; have n1_ := Aside0.mk ho; clear BW; clear HO; have BW := n0_; have HO := n1_; clear n0_ n1_; clear ho hb hg hat GV) | ((with_reducible refine gate_builtin (b := .append) (xs := #[.tmp 51, .tmp 52]) rfl ?_); at_builtin; refine Kd.R_append_rows (Kd.int .u8) (w0 := w) w.heap.size rfl (.tmp 51) (.tmp 52) 22 5 (.int .u8 0) 1 rfl Tryd.underlying22 info5 rfl (by decide) (by omega) v51 a c _ _ _ (fun _ => True) (fun _ => False) rfl rfl ?aO ?aR (fun _ _ h => h) (fun _ h => h.elim) ?aF ?aB ?aS ?aL ?_; (case aR => exact (Kd.C_below RC.out BW.out)); (case aB => exact BW.out); (case aF => exact (fun _ _ => trivial)); (case aO => exact HO.out); (case aS => exact BW.out.size); (case aL => have := HL.out; omega); intro v53 wn ho hb hg hat; have n0_ := Aside0.mk (Ap_own AP.out GV2.out hg); clear AP; have AP := n0_; clear n0_; have n0_ := Aside0.mk hb; have n1_ := Aside0.mk ho; clear BW; clear HO; have BW := n0_; have HO := n1_; clear n0_ n1_; clear ho hb hg hat GV2))
  obtain ⟨A6, c6, e6⟩ := Kd.R_slice HO.out
  subst e6
  obtain ⟨_, q6, r6⟩ := Kd.R_reads' HO.out
  have X6 : Aside0 (∀ x ∈ a ++ c, 0 ≤ x ∧ x < 256) := ⟨fun x hx => (List.mem_append.1 hx).elim (XA.out.2 x) (XC.out.2 x)⟩
  have L6 : Aside0 ((a ++ c).length ≤ 200) := ⟨by have := HL.out; rw [List.length_append]; omega⟩
  have Q6 := Aside0.mk q6
  have R6 := Aside0.mk r6
  clear q6 r6 HO
  generalize a ++ c = ac at *
  obtain ⟨Lb, hLb⟩ : ∃ Lb : List Value, Lb = (ofP b).map (Value.int .u8) := ⟨_, rfl⟩
  have e1 : ∀ W : World, (Op.equalIn 10000 24 (.agg Lb.toArray) (.agg Lb.toArray)).run Tryd.prog W = .ok true W := fun W => by rw [hLb]; exact eq24 (ofP b) (ofP_len b) W
  have e2 : ∀ W : World, (Op.equalIn 10000 24 (.agg Lb.toArray) (.agg (dgA (ofP b)))).run Tryd.prog W = .ok true W := fun W => by rw [hLb]; exact eq24 (ofP b) (ofP_len b) W
  have e3 : ∀ W : World, (Op.equalIn 10000 24 (.agg (dgA (ofP ac))) (.agg (dgA (ofP ac)))).run Tryd.prog W = .ok true W := fun W => eq24 (ofP ac) (ofP_len ac) W
  have HU : Aside0 (Tryd.prog.underlying 24 = _ ∧ (Tryd.prog.info? 24).map (·.size) = some Lb.length) := ⟨Tryd.underlying24, by rw [hLb, List.length_map, ofP_len]; kernel_rfl⟩
  have AP2 : Aside0 (Ap wn g1 g2 g10 g11 (g11 + 1) ac b Lb.toArray) := ⟨by rw [hLb]; exact AP.out⟩
  clear hLb AP
  refine quiet_lit (C := fun w' => Aside0 (Ap w' g1 g2 g10 g11 (g11 + 1) ac b Lb.toArray ∧ Below wn.heap.size wn w')) (by kernel_rfl) (by kernel_rfl) ⟨Ap_below AP2.out (below_drew1 (Below.refl wn.heap.size wn)), below_drew1 (Below.refl wn.heap.size wn)⟩ ?_
  clear AP2
  iterate 2 (refine wpQuiet_step (fun K hK => ?_); go_simp; refine ⟨_, fun _ _ => rfl, hK _ ?_⟩; clear hK K)
  (refine wpQuiet_step (fun K hK => ?_); refine quiet_load_mid 24 (.tmp 10) rfl g10 0 rfl Lb _ (fun w' hw' => (apRange hw'.out.1).1) HU.out.1 rfl HU.out.2 (by rfl) ?_; refine hK _ ?_; clear hK K; simp only [Act.put, List.setIfInBounds_toArray, List.set_cons_zero, List.set_cons_succ])
  (refine wpQuiet_step (fun K hK => ?_); refine quiet_load_mid 24 (.tmp 11) rfl g11 0 rfl Lb _ (fun w' hw' => (apRange hw'.out.1).2) HU.out.1 rfl HU.out.2 (by rfl) ?_; refine hK _ ?_; clear hK K; simp only [Act.put, List.setIfInBounds_toArray, List.set_cons_zero, List.set_cons_succ])
  iterate 3 (refine wpQuiet_step (fun K hK => ?_); go_simp; refine ⟨_, fun _ _ => rfl, hK _ ?_⟩; clear hK K)
  (refine wpQuiet_step (fun K hK => ?_); refine quiet_load_mid 24 (.tmp 11) rfl g11 0 rfl Lb _ (fun w' hw' => (apRange hw'.out.1).2) HU.out.1 rfl HU.out.2 (by rfl) ?_; refine hK _ ?_; clear hK K; simp only [Act.put, List.setIfInBounds_toArray, List.set_cons_zero, List.set_cons_succ])
  iterate 1 (refine wpQuiet_step (fun K hK => ?_); go_simp; refine ⟨_, fun _ _ => rfl, hK _ ?_⟩; clear hK K)
  (refine wpQuiet_step (fun K hK => ?_); go_simp; apply Exists.intro; refine ⟨fun w' hw' => ?_, hK _ ?_⟩; (go_at_call 10; exact (of_any w' B cb b (Kd.C_below RB.out (below_step BW.out hw'.out.2)) XB.out.1 XB.out.2 (tab_below HT.out (below_step BW.out hw'.out.2)) (by have := HL.out; omega)).mono (fun e w'' h => ⟨h.1, apKeep hw' h.2⟩)); clear hK K)
  iterate 4 (refine wpQuiet_step (fun K hK => ?_); go_simp; refine ⟨_, fun _ _ => rfl, hK _ ?_⟩; clear hK K)
  (refine wpQuiet_step (fun K hK => ?_); go_simp; apply Exists.intro; refine ⟨fun w' hw' => ?_, hK _ ?_⟩; (go_at_call 14; exact (Dg_sum w' g1 _ ac hw'.out.1.1 (tab_below HT.out (below_step BW.out hw'.out.2)) (by have := L6.out; omega)).mono (fun e w'' h => ⟨h.1, apKeep hw' h.2⟩)); clear hK K)
  iterate 1 (refine wpQuiet_step (fun K hK => ?_); go_simp; refine ⟨_, fun _ _ => rfl, hK _ ?_⟩; clear hK K)
  (refine wpQuiet_step (fun K hK => ?_); go_simp; apply Exists.intro; refine ⟨fun w' hw' => ?_, hK _ ?_⟩; (go_at_call 10; exact (of_any w' A6 c6 ac (Kd.C_below R6.out hw'.out.2) Q6.out X6.out (tab_below HT.out (below_step BW.out hw'.out.2)) (by have := L6.out; omega)).mono (fun e w'' h => ⟨h.1, apKeep hw' h.2⟩)); clear hK K)
  iterate 4 (refine wpQuiet_step (fun K hK => ?_); go_simp; refine ⟨_, fun _ _ => rfl, hK _ ?_⟩; clear hK K)
  (refine wpQuiet_step (fun K hK => ?_); go_simp; apply Exists.intro; refine ⟨fun w' hw' => ?_, hK _ ?_⟩; (go_at_call 15; exact (Dg_len w' g2 _ b hw'.out.1.2.1).mono (fun e w'' h => ⟨h.1, by rw [← h.2]; exact hw'⟩)); clear hK K)
  iterate 6 (refine wpQuiet_step (fun K hK => ?_); go_simp; refine ⟨_, fun _ _ => rfl, hK _ ?_⟩; clear hK K)
  (refine wpQuiet_step (fun K hK => ?_); go_simp; apply Exists.intro; refine ⟨fun w' hw' => ?_, hK _ ?_⟩; (go_at_call 15; exact (Dg_len w' g1 _ ac hw'.out.1.1).mono (fun e w'' h => ⟨h.1, by rw [← h.2]; exact hw'⟩)); clear hK K)
  iterate 5 (refine wpQuiet_step (fun K hK => ?_); go_simp; refine ⟨_, fun _ _ => rfl, hK _ ?_⟩; clear hK K)
  refine wpQuiet_nil ?_
  intro w' hw'
  go_wp2_with fail
  go_ret
  exact ⟨rfl, below_step BW.out hw'.out.2⟩
theorem long7 (w : World) (A : Option Addr) (ca : Nat) (a : List Int) (B : Option Addr) (cb : Nat) (b : List Int) (C : Option Addr) (cc : Nat) (c : List Int) (ht : Tab w) (hl : 100 < a.length ∨ 100 < b.length ∨ 100 < c.length) :
    Calls Tryd.prog 7 #[.slice A a.length ca, .slice B b.length cb, .slice C c.length cc] w fun e w' => e = .returned (.bool true) ∧ Below w.heap.size w w' := by
  have HT := Aside0.mk ht
  clear ht
  by_cases h1 : 100 < a.length
  · have t1 : decide ((100 : Int) < (a.length : Int)) = true := decide_eq_true (by omega)
    clear hl h1
    go_enter Tryd.func7, Tryd.ntmps7
    go_wp2_with fail
    refine (awake_any _ HT.out).mono ?_
    rintro e w1 ⟨rfl, hb1⟩
    have BW := Aside0.mk hb1
    clear hb1
    go_wp2_with fail
    go_ret
    exact ⟨rfl, BW.out⟩
  · have t1 : decide ((100 : Int) < (a.length : Int)) = false := decide_eq_false (by omega)
    by_cases h2 : 100 < b.length
    · have t2 : decide ((100 : Int) < (b.length : Int)) = true := decide_eq_true (by omega)
      clear hl h1 h2
      go_enter Tryd.func7, Tryd.ntmps7
      go_wp2_with fail
      refine (awake_any _ HT.out).mono ?_
      rintro e w1 ⟨rfl, hb1⟩
      have BW := Aside0.mk hb1
      clear hb1
      go_wp2_with fail
      go_ret
      exact ⟨rfl, BW.out⟩
    · have t2 : decide ((100 : Int) < (b.length : Int)) = false := decide_eq_false (by omega)
      have t3 : decide ((100 : Int) < (c.length : Int)) = true := decide_eq_true (by omega)
      clear hl h1 h2
      go_enter Tryd.func7, Tryd.ntmps7
      go_wp2_with fail
      refine (awake_any _ HT.out).mono ?_
      rintro e w1 ⟨rfl, hb1⟩
      have BW := Aside0.mk hb1
      clear hb1
      go_wp2_with fail
      go_ret
      exact ⟨rfl, BW.out⟩
end Go.Proofs.YtldeigekagpekaaDoor.Dg
