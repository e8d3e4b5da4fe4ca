/- The walks of digest.Sum, digest.Of. Conditions: each lemma names its own. -/
import Derived.Test.YtldeigekagpekaaDoorDgAdd
import Derived.Deep.LoopGhost
set_option linter.unusedSimpArgs false
namespace Go.Proofs.YtldeigekagpekaaDoor.Dg
open Go.RowKit Go.Proofs.YtldeigekagpekaaDoorW.PrintWords Go.Proofs.YtldeigekagpekaaDoorW.PrintMore
set_option linter.unusedVariables false
/-- Noughts, till 56 bytes wait. -/
def padK : Nat → Q × List Int → Q × List Int
  | 0, s => s
  | k + 1, s => if s.2.length % 64 = 56 then s else padK k (feed s.1 (s.2 ++ [0]))
/-- The words behind all. -/
def sumP (t : Q) (m : List Int) (n : Int) : Q := let s := padK 128 (feed t (m ++ [128])); (feed s.1 (s.2 ++ part (8 * n) 8 8)).1
/-- The words' bytes. -/
def outP (u : Q) : List Int := part u.1 4 4 ++ part u.2.1 4 4 ++ part u.2.2.1 4 4 ++ part u.2.2.2 4 4
def dgA (l : List Int) : Array Value := (l.map (Value.int .u8)).toArray
theorem feed_len : ∀ (k : Nat) (t : Q) (l : List Int), l.length ≤ k → (feed t l).2.length < 64 ∧ (InW t → InW (feed t l).1) ∧ ((∀ x ∈ l, 0 ≤ x ∧ x < 256) → ∀ x ∈ (feed t l).2, 0 ≤ x ∧ x < 256) ∧ (feed t l).2.length = l.length % 64 := by
  intro k
  induction k using Nat.strongRecOn with
  | _ k ih =>
    intro t l h
    by_cases h64 : 64 ≤ l.length
    · rw [feed_step h64]
      have hd : (l.drop 64).length = l.length - 64 := List.length_drop
      obtain ⟨h1, h2, h3, h4⟩ := ih (k - 64) (by omega) (eatP (l.take 64) t) (l.drop 64) (by omega)
      exact ⟨h1, fun _ => h2 eatP_in, fun hx => h3 (fun x hm => hx x (List.mem_of_mem_drop hm)), by rw [h4, hd]; omega⟩
    · rw [feed_done (by omega)]
      exact ⟨by simp only; omega, id, id, by simp only; omega⟩
theorem heap2 (w : World) (a b : Obj) : ((w.alloc a).alloc b).heap[w.heap.size + 1]? = some b := by
  have h := heap_alloc_last (w.alloc a) b
  rwa [show (w.alloc a).heap.size = w.heap.size + 1 by simp] at h
theorem setRow2 (w : World) (a : Obj) (c c' : Array Value) (t : TypeId) : ((w.alloc a).alloc (.cells c t)).setRow (w.heap.size + 1) c' = (w.alloc a).alloc (.cells c' t) := by
  have h := World.setRow_alloc_new (w.alloc a) c c' t
  rwa [show (w.alloc a).heap.size = w.heap.size + 1 by simp] at h
theorem C_one (w : World) (b : Int) : Kd.C (Kd.int .u8) (w.alloc (.cells #[.int .u8 b] 5)) (some ⟨w.heap.size, 0, none⟩) [b].length [b] := by
  refine Kd.C_of_reads (d := (0 : Int)) (h1 := fun _ => rfl) ⟨rfl, by simp, fun _ => ⟨_, rfl, fun j hj => ?_⟩⟩
  have hj' : j < 1 := hj
  obtain rfl : j = 0 := by omega
  rw [add_plain, cell_of_row _ _ _ _ _ _ (heap_alloc_last w _)]
  rfl
theorem St_below {w w' : World} {g : Nat} {ok : Nat → Prop} {t : Q} {m : List Int} {n : Int} (h : St w g ok t m n) (hb : Below w.heap.size w w') : St w' g ok t m n := by
  obtain ⟨A, c, hg, hr, h1, h2, h3, h4⟩ := h
  exact ⟨A, c, (hb.block g (blk_lt hg)).trans hg, Kd.C_below hr hb, h1, h2, h3, h4⟩
theorem St_alloc {w : World} {g : Nat} {ok : Nat → Prop} {t : Q} {m : List Int} {n : Int} (h : St w g ok t m n) (o : Obj) : St (w.alloc o) g ok t m n := St_below h (below_alloc (Below.refl _ _) o)
theorem St_any {w : World} {g : Nat} {ok : Nat → Prop} {t : Q} {m : List Int} {n : Int} (h : St w g ok t m n) : St w g (fun _ => True) t m n := by
  obtain ⟨A, c, hg, hr, h1, h2, h3, h4⟩ := h
  exact ⟨A, c, hg, hr, h1, h2, fun _ _ _ => trivial, h4⟩
def zero16 : Array Value := #[.int .u8 0, .int .u8 0, .int .u8 0, .int .u8 0, .int .u8 0, .int .u8 0, .int .u8 0, .int .u8 0, .int .u8 0, .int .u8 0, .int .u8 0, .int .u8 0, .int .u8 0, .int .u8 0, .int .u8 0, .int .u8 0]
/-- A copy of a state, beside the result's block. -/
theorem St_copy {w : World} {g : Nat} {ok : Nat → Prop} {t : Q} {m : List Int} {n : Int} {A : Option Addr} {c : Nat} (hr : Kd.C (Kd.int .u8) w A m.length m) (hmc : m.length ≤ c) (hmb : ∀ x ∈ m, 0 ≤ x ∧ x < 256) (hin : InW t) :
    St ((w.alloc (.cells zero16 24)).alloc (.cells (stA t.1 t.2.1 t.2.2.1 t.2.2.2 (.slice A m.length c) n) 48)) (w.heap.size + 1) (fun _ => True) t m n :=
  ⟨A, c, heap2 _ _ _, Kd.C_below (Kd.C_below hr (below_alloc (Below.refl _ _) _)) (below_alloc (Below.refl _ _) _), hmc, hmb, fun _ _ _ => trivial, hin⟩
theorem padK_step {k : Nat} {s : Q × List Int} (h : ¬ s.2.length % 64 = 56) : padK (k + 1) s = padK k (feed s.1 (s.2 ++ [0])) := by simp only [padK, if_neg h]
theorem padK_done {k : Nat} {s : Q × List Int} (h : s.2.length % 64 = 56) : padK k s = s := by
  rcases k with _ | k
  · rfl
  · simp only [padK, if_pos h]
/-- How many noughts are still wanted. -/
def want (l : Nat) : Nat := (120 - l) % 64
/-- The result, the first i words of which are laid. -/
def fillL (u : Q) (i : Nat) : List Int := (outP u).take (4 * i) ++ List.replicate (16 - 4 * i) 0
theorem fill_zero (u : Q) : dgA (fillL u 0) = zero16 := rfl
theorem fill_all (u : Q) : fillL u 4 = outP u := rfl
theorem fill_step (u : Q) (i : Nat) (hi : i < 4) : ((dgA (fillL u i)).toList.take (4 * i) ++ (nums .u8 (part (nth u i) 4 4) ++ (dgA (fillL u i)).toList.drop (4 * i + (nums .u8 (part (nth u i) 4 4)).length))).toArray = dgA (fillL u (i + 1)) := by
  rcases i with _ | _ | _ | _ | i
  · rfl
  · rfl
  · rfl
  · rfl
  · omega
theorem fill_splice (u : Q) (i : Nat) (hi : i < 4) : splice ((fillL u i).map (Value.int .u8)) (4 * i) (nums .u8 (part (nth u i) 4 4)) = (fillL u (i + 1)).map (Value.int .u8) := by
  rcases i with _ | _ | _ | _ | i
  · rfl
  · rfl
  · rfl
  · rfl
  · omega
theorem fill_fit (u : Q) (i : Nat) (hi : i < 4) : 4 * i + (nums .u8 (part (nth u i) 4 4)).length ≤ ((fillL u i).map (Value.int .u8)).length := by
  have e : (nums .u8 (part (nth u i) 4 4)).length = 4 := by simp [nums, part_len]
  have e2 : ((fillL u i).map (Value.int .u8)).length = 16 := by
    rcases i with _ | _ | _ | _ | i <;> first | rfl | omega
  omega
theorem len4 (n : Int) (i : Nat) (hi : i < 4) : (nums .u8 (part n 4 4)).length = Nat.min (part n 4 4).length (16 - 4 * i) := by
  have e : (nums .u8 (part n 4 4)).length = 4 := by simp [nums, part_len]
  rw [e, part_len]
  show 4 = min 4 (16 - 4 * i)
  omega
theorem one_nums (l : List Int) : ∀ v ∈ nums .u8 l, v.oneCell' = true := by
  intro u hu
  simp only [nums, List.mem_map] at hu
  obtain ⟨z, _, rfl⟩ := hu
  rfl
theorem cut_arr (g i : Nat) (hi : i < 4) : ∀ W : World, (Instr.sliceAt 24 (.pointer (some ⟨g, 0, none⟩)) (some (.int .i64 (4 * (i : Int)))) none none).run Tryd.prog W = .ok (.slice (some ⟨g, 4 * i, none⟩) (16 - 4 * i) (16 - 4 * i)) W := by
  intro W
  rcases i with _ | _ | _ | _ | i
  · kernel_rfl
  · kernel_rfl
  · kernel_rfl
  · kernel_rfl
  · omega
theorem copy_src {w : World} {A : Option Addr} {n : Int} (h : Kd.C (Kd.int .u8) w A (part n 4 4).length (part n 4 4)) : ∃ ad, A = some ad ∧ ∀ j v, (nums .u8 (part n 4 4))[j]? = some v → w.cell? (ad.add j) = some v := by
  obtain ⟨ad, e, _⟩ := Kd.at_int h 0 (by omega) (by rw [part_len]; omega)
  subst e
  exact ⟨ad, rfl, nums_get h⟩
theorem nth_in {u : Q} (h : InW u) (i : Nat) : 0 ≤ nth u i ∧ nth u i < 4294967296 := by
  obtain ⟨h1, h2, h3, h4⟩ := h
  rcases i with _ | _ | _ | i
  · exact h1
  · exact h2
  · exact h3
  · exact h4
theorem idx_word (u : Q) (i : Nat) (w : World) (hi : i < 4) : (Instr.index 46 (.agg #[.int .u32 u.1, .int .u32 u.2.1, .int .u32 u.2.2.1, .int .u32 u.2.2.2]) (.int .i64 (i : Int))).run Tryd.prog w = .ok (.int .u32 (nth u i)) w := by
  rcases i with _ | _ | _ | _ | i
  · kernel_rfl
  · kernel_rfl
  · kernel_rfl
  · kernel_rfl
  · omega
theorem step_copy {P : Program} {ops : Array Oper} {o : Oper} {a : Act} {w w' : World} {K : Act → World → Prop} {Q : Exit → Act → World → Prop} {E : Prop} {u v r : Value}
    (hg : o.guard = none) (s x : Operand) (t t' : TypeId) (hop : o.op = Op.call { callee := Callee.builtin Builtin.copy, args := #[s, x], argTypes := #[t, t'] }) (hs : a.eval s = u) (hx : a.eval x = v) (hrun : (Builtin.copy_ #[t, t'] o.type #[u, v]).run P w = .ok r w') (h : K (a.put o.dst r) w') :
    if Region.wanted o (yielded ops a.tmps) = true then Oper.wp P o a w K Q else E := by
  have hw : Region.wanted o (yielded ops a.tmps) = true := by simp [Region.wanted, hg]
  rw [if_pos hw]
  unfold Oper.wp
  simp [execOp, hop, resolve, invoke, builtin, hs, hx, hrun, Result.andThen]
  exact h
set_option maxHeartbeats 4000000 in
set_option maxRecDepth 100000 in
theorem sum_any (w : World) (g : Nat) (ok : Nat → Prop) (t : Q) (m : List Int) (n : Int) (hs : St w g ok t m n) (ht : Tab w) (hm : m.length < 64) (n0 : 0 ≤ n) (n1 : n ≤ 1000000) :
    Calls Tryd.prog 14 #[.pointer (some ⟨g, 0, none⟩)] w fun e w' => e = .returned (.agg (dgA (outP (sumP t m n)))) ∧ Below w.heap.size w w' := by
  obtain ⟨A, c, hg, hr, hmc, hmb, hA, hin⟩ := hs
  have HG := Aside0.mk hg
  have HR := Aside0.mk hr
  have HX := Aside0.mk (And.intro hmc (And.intro hmb hin))
  have HT := Aside0.mk ht
  have GL := Aside0.mk (blk_lt hg)
  clear hg hr hmc hmb hA hin ht
  go_enter Tryd.func14, Tryd.ntmps14
  go_wp2_with (first | ((with_reducible refine gate_dst (N := 9) rfl ?_); refine wpList_load_row rfl 48 (.tmp 8) rfl g rfl 48 (stA t.1 t.2.1 t.2.2.1 t.2.2.2 (.slice A m.length c) n) (0, 0) _ (by exact blk_alloc HG.out _) Tryd.underlying48 rfl (by kernel_rfl) ?_) | ((with_reducible refine gate_store rfl ?_); refine wpList_store_row rfl 48 (.tmp 3) (.tmp 9) rfl _ _ rfl rfl 48 _ (heap2 _ _ _) ?hi1 ?ho1 ?ha1 ?_; (case hi1 => kernel_rfl); (case ho1 => rfl); (case ha1 => kernel_rfl); rw [setRow2]))
  have SS := Aside0.mk (St_alloc (St_copy (w := w) (g := g) (ok := ok) (t := t) (n := n) HR.out HX.out.1 HX.out.2.1 HX.out.2.2) (.cells #[.int .u8 128] 5))
  have CB := Aside0.mk (C_one ((w.alloc (.cells zero16 24)).alloc (.cells (stA t.1 t.2.1 t.2.2.1 t.2.2.2 (.slice A m.length c) n) 48)) 128)
  have BW := Aside0.mk (below_alloc (below_alloc (below_alloc (Below.refl w.heap.size w) (.cells zero16 24)) (.cells (stA t.1 t.2.1 t.2.2.1 t.2.2.2 (.slice A m.length c) n) 48)) (.cells #[.int .u8 128] 5))
  have GO := Aside0.mk (blk_alloc (blk_alloc (heap_alloc_last w (.cells zero16 24)) (.cells (stA t.1 t.2.1 t.2.2.1 t.2.2.2 (.slice A m.length c) n) 48)) (.cells #[.int .u8 128] 5))
  rw [show ((w.alloc (.cells zero16 24)).alloc (.cells (stA t.1 t.2.1 t.2.2.1 t.2.2.2 (.slice A m.length c) n) 48)).heap.size = w.heap.size + 1 + 1 by simp] at CB
  refine (add_any _ (w.heap.size + 1) (fun _ => True) (fun _ => True) t m [128] n _ 1 SS.out CB.out (by simp) (by simp) (tab_below HT.out BW.out) hm (by simp) n0 (by omega) (fun _ _ _ => trivial) (fun _ _ _ => trivial)).mono ?_
  rintro e w4 ⟨rfl, hs4, hg4⟩
  have n_ := Aside0.mk hs4; clear SS; have SS := n_; clear n_
  have n_ := Aside0.mk (Below.grown BW.out hg4 BW.out.size (fun k e => by injection e with e; omega)); clear BW; have BW := n_; clear n_
  have n_ := Aside0.mk (blk_grown GO.out hg4 (by simp)); clear GO; have GO := n_; clear n_
  clear hs4 hg4 CB
  have HL := Aside0.mk (feed_len _ t (m ++ [128]) (Nat.le_refl _)).1
  generalize hs0 : feed t (m ++ [128]) = s0 at SS HL
  have HS0 := Aside0.mk hs0
  clear hs0
  go_wp2_with fail
  go_loopg [] 128 (fun kq wr => ∃ (s1 : Q × List Int) (nn : Int), Aside0 (St wr (w.heap.size + 1) (fun _ => True) s1.1 s1.2 nn) ∧ Aside0 (Below w.heap.size w wr) ∧ Aside0 (wr.heap[w.heap.size]? = some (.cells zero16 24 (0, 0))) ∧ Aside0 (s1.2.length < 64) ∧ Aside0 (padK kq s1 = padK 128 s0) ∧ Aside0 (want s1.2.length < kq) ∧ Aside0 (0 ≤ nn ∧ nn + kq ≤ n + 129))
  case atStart => exact ⟨s0, n + 1, ⟨by simpa using SS.out⟩, BW, GO, HL, ⟨rfl⟩, ⟨by unfold want; omega⟩, ⟨by omega⟩⟩
  case round =>
    clear SS BW GO HL
    obtain ⟨s1, nn, SS, BW, GO, HL, HPK, HW, HN⟩ := hrel
    obtain ⟨A1, c1, hg1, hr1, hx1⟩ := SS.out
    have c4 : wr.cell? ⟨w.heap.size + 1, 4, none⟩ = some (.slice A1 s1.2.length c1) := (cell_of_row _ _ 4 _ _ _ hg1).trans rfl
    clear hg1 hr1 hx1
    have l0 : (0 : Int) ≤ s1.2.length := by omega
    by_cases h56 : s1.2.length % 64 = 56
    · have hd : ((s1.2.length : Int) % 64 != 56) = false := by rw [bne_eq_false_iff_eq]; omega
      have c5 : wr.cell? ⟨g, 5, none⟩ = some (.int .i64 n) := pw_cell_below BW.out ((cell_of_row _ _ 5 _ _ _ HG.out).trans rfl)
      go_wp2_with fail
      rw [padK_done h56] at HPK
      have li := little_any (8 * n) 8 wr (by omega)
      refine li.mono ?_
      rintro e w5 ⟨v5, rfl, ho5, hb5⟩
      obtain ⟨A5, c5', e5⟩ := Kd.R_slice ho5
      subst e5
      obtain ⟨_, q5, r5⟩ := Kd.R_reads' ho5
      have n_ := Aside0.mk (below_step BW.out hb5); clear BW; have BW := n_; clear n_
      have n_ := Aside0.mk ((hb5.block w.heap.size (blk_lt GO.out)).trans GO.out); clear GO; have GO := n_; clear n_
      have n_ := Aside0.mk (St_below SS.out hb5); clear SS; have SS := n_; clear n_
      have R5 := Aside0.mk r5
      have PL := Aside0.mk (part_len (8 * n) 8 8)
      have PB : Aside0 (∀ x ∈ part (8 * n) 8 8, 0 ≤ x ∧ x < 256) := ⟨fun x hx => by
        simp only [part, List.mem_map] at hx
        obtain ⟨j, _, rfl⟩ := hx
        split <;> omega⟩
      clear li ho5 hb5 r5 c4 c5
      go_wp2_with fail
      refine (add_any _ (w.heap.size + 1) (fun _ => True) (fun _ => True) s1.1 s1.2 (part (8 * n) 8 8) nn _ _ SS.out R5.out q5 PB.out (tab_below HT.out BW.out) HL.out (by rw [PL.out]; omega) HN.out.1 (by have := HN.out; omega) (fun _ _ _ => trivial) (fun _ _ _ => trivial)).mono ?_
      rintro e w6 ⟨rfl, hs6, hg6⟩
      have n_ := Aside0.mk (Below.grown BW.out hg6 BW.out.size (fun k e => by injection e with e; omega)); clear BW; have BW := n_; clear n_
      have n_ := Aside0.mk (blk_grown GO.out hg6 (by simp)); clear GO; have GO := n_; clear n_
      have US := Aside0.mk (show (feed s1.1 (s1.2 ++ part (8 * n) 8 8)).1 = sumP t m n by rw [HPK.out, ← HS0.out]; rfl)
      obtain ⟨A6, c6, hg7, _, _, _, _, hin6⟩ := hs6
      rw [US.out] at hg7 hin6
      have G7 := Aside0.mk hg7
      have I7 := Aside0.mk hin6
      clear hg6 hg7 hin6 SS R5 HPK HS0 US
      go_wp2_with ((with_reducible refine gate_dst (N := 28) rfl ?_); refine wpList_load_mid rfl 46 (.tmp 27) rfl (w.heap.size + 1) 0 rfl [.int .u32 (sumP t m n).1, .int .u32 (sumP t m n).2.1, .int .u32 (sumP t m n).2.2.1, .int .u32 (sumP t m n).2.2.2] _ (range4 (blk_alloc G7.out _) 0 _ rfl) Tryd.underlying46 rfl (by kernel_rfl) ?_)
      have G6 : Aside0 (w.heap.size < w6.heap.size) := ⟨blk_lt GO.out⟩
      have BR : Aside0 ((w6.alloc (.cells #[.int .u8 0, .int .u8 0, .int .u8 0, .int .u8 0, .int .u8 0, .int .u8 0, .int .u8 0, .int .u8 0, .int .u8 0, .int .u8 0, .int .u8 0, .int .u8 0, .int .u8 0, .int .u8 0, .int .u8 0, .int .u8 0] 24)).heap[w6.heap.size]? = some (.cells zero16 24 (0, 0))) := ⟨heap_alloc_last w6 _⟩
      have n_ : Aside0 (Below w.heap.size w (w6.alloc (.cells #[.int .u8 0, .int .u8 0, .int .u8 0, .int .u8 0, .int .u8 0, .int .u8 0, .int .u8 0, .int .u8 0, .int .u8 0, .int .u8 0, .int .u8 0, .int .u8 0, .int .u8 0, .int .u8 0, .int .u8 0, .int .u8 0] 24))) := ⟨below_alloc BW.out _⟩; clear BW; have BW := n_; clear n_
      have n_ : Aside0 ((w6.alloc (.cells #[.int .u8 0, .int .u8 0, .int .u8 0, .int .u8 0, .int .u8 0, .int .u8 0, .int .u8 0, .int .u8 0, .int .u8 0, .int .u8 0, .int .u8 0, .int .u8 0, .int .u8 0, .int .u8 0, .int .u8 0, .int .u8 0] 24)).heap[w.heap.size]? = some (.cells zero16 24 (0, 0))) := ⟨blk_alloc GO.out _⟩; clear GO; have GO := n_; clear n_
      clear G7 HL HW HN hd l0 PL PB
      obtain ⟨u, hu⟩ : ∃ u, u = sumP t m n := ⟨_, rfl⟩
      rw [← hu] at I7 ⊢
      have HU := Aside0.mk hu
      clear hu
      generalize w6.alloc (.cells #[.int .u8 0, .int .u8 0, .int .u8 0, .int .u8 0, .int .u8 0, .int .u8 0, .int .u8 0, .int .u8 0, .int .u8 0, .int .u8 0, .int .u8 0, .int .u8 0, .int .u8 0, .int .u8 0, .int .u8 0, .int .u8 0] 24) = w7 at *
      generalize w6.heap.size = g4 at *
      go_loopw [5, 6, 29] (fun v5 v6 v29 wr => ∃ i : Nat, i ≤ 4 ∧ v29 = .int .i64 i ∧ Aside0 (wr.heap[g4]? = some (.cells (dgA (fillL u i)) 24 (0, 0))) ∧ Aside0 (wr.heap[w.heap.size]? = some (.cells zero16 24 (0, 0))) ∧ Aside0 (Below w.heap.size w wr)) (fun _ _ v29 _ => 4 - (intOf v29).toNat)
      case atStart => exact ⟨0, by omega, rfl, ⟨by rw [fill_zero]; exact BR.out⟩, GO, BW⟩
      case round =>
        clear BR GO BW
        obtain ⟨i, hi, rfl, BR, GO, BW⟩ := hrel
        by_cases hit : i < 4
        · have hix := idx_word u i wr hit
          have i0 : (0 : Int) ≤ i := by omega
          have i1 : (i : Int) < 4 := by omega
          have inn := nth_in I7.out i
          have in0 := inn.1
          have in1 := inn.2
          clear inn
          go_wp2_with fail
          clear hix
          have v4 : IntKind.i64.wrap (4 * (i : Int)) = 4 * i := by rw [IntKind.wrap_i64]; omega
          have v6 : IntKind.u64.wrap (nth u i) = nth u i := by rw [IntKind.wrap_u64]; omega
          have hsl := cut_arr g4 i hit
          have GA := Aside0.mk (show g4 < wr.heap.size from blk_lt BR.out)
          go_region_law (first | (go_simp; go_at_call 22; refine (little_any (nth u i) 4 wr.drew (by omega)).mono ?_; rintro e w5 ⟨v5, rfl, ho5, hb5⟩; obtain ⟨A5, c5', e5⟩ := Kd.R_slice ho5; subst e5; have H5 := Aside0.mk (Kd.R_reads' ho5); have B5 := Aside0.mk hb5; clear ho5 hb5) | (refine step_copy_splice rfl (.tmp 35) (.tmp 38) 22 22 rfl 5 Tryd.underlying22 (by kernel_rfl) (some ⟨g4, 4 * i, none⟩) A5 (16 - 4 * i) (16 - 4 * i) (part (nth u i) 4 4).length c5' (by simp [Act.eval]) (by simp [Act.eval]) g4 (4 * i) ((fillL u i).map (Value.int .u8)) 24 ((B5.out.block g4 GA.out).trans BR.out) (nums .u8 (part (nth u i) 4 4)) (len4 _ _ hit) (fun _ => ⟨rfl, copy_src H5.out.2.2⟩) (fill_fit u i hit) (one_nums _) g4 w5 (Below.refl g4 w5) (Nat.le_refl _) ?_; intro w6 hg6 hb6; have R6 := Aside0.mk hg6; have B6 := Aside0.mk hb6; clear hg6 hb6))
          have n_ : Aside0 (w6.heap[g4]? = some (.cells (dgA (fillL u (i + 1))) 24 (0, 0))) := ⟨by rw [show dgA (fillL u (i + 1)) = ((fillL u (i + 1)).map (Value.int .u8)).toArray from rfl, ← fill_splice u i hit]; exact R6.out⟩
          clear BR R6; have BR := n_; clear n_
          have n_ : Aside0 (w6.heap[w.heap.size]? = some (.cells zero16 24 (0, 0))) := ⟨(B6.out.block _ G6.out).trans ((B5.out.block _ (Nat.lt_trans G6.out GA.out)).trans GO.out)⟩
          clear GO; have GO := n_; clear n_
          have n_ : Aside0 (Below w.heap.size w w6) := ⟨(below_step (below_drew1 BW.out) B5.out).trans ⟨B6.out.os, B6.out.tape, B6.out.output, B6.out.size, fun k hk => B6.out.block k (Nat.lt_trans hk G6.out)⟩⟩
          clear BW; have BW := n_; clear n_
          clear B5 B6 H5 hsl v4 v6 in0 in1 GA
          go_wp2_with fail
          go_roundw
          case rel => exact ⟨i + 1, by omega, by go_num, BR, GO, BW⟩
          case measure => simp only [intOf]; omega
        · obtain rfl : i = 4 := by omega
          have n_ : Aside0 (wr.heap[g4]? = some (.cells (dgA (outP u)) 24 (0, 0))) := ⟨by rw [← fill_all]; exact BR.out⟩; clear BR; have BR := n_; clear n_
          go_wp2_with (first | ((with_reducible refine gate_dst (N := 41) rfl ?_); refine wpList_load_row rfl 24 (.tmp 4) rfl g4 rfl 24 (dgA (outP u)) (0, 0) _ BR.out Tryd.underlying24 rfl (by kernel_rfl) ?_) | ((with_reducible refine gate_store rfl ?_); refine wpList_store_row rfl 24 (.tmp 2) (.tmp 41) rfl _ _ rfl rfl 24 _ GO.out ?hi1 ?ho1 ?ha1 ?_; (case hi1 => kernel_rfl); (case ho1 => rfl); (case ha1 => kernel_rfl)))
          refine bodyPost_ret (results_single (r := .cell 2 24) (v := .agg (dgA (outP u))) rfl (.cell w.heap.size 24 (dgA (outP u)) (0, 0) _ rfl (setRow_heap wr w.heap.size zero16 (dgA (outP u)) 24 (0, 0) GO.out) Tryd.underlying24 rfl (by kernel_rfl) .nil)) rfl ?_
          exact ⟨by rw [HU.out], below_setRow BW.out (Nat.le_refl _) _⟩
    · have hd : ((s1.2.length : Int) % 64 != 56) = true := by rw [bne_iff_ne]; omega
      cases gk with
      | zero => exact absurd HW.out (by omega)
      | succ k1 =>
        go_wp2_with fail
        have BA := Aside0.mk (below_alloc BW.out (.cells #[.int .u8 0] 5))
        refine (add_any _ (w.heap.size + 1) (fun _ => True) (fun _ => True) s1.1 s1.2 [0] nn _ 1 (St_alloc SS.out _) (C_one wr 0) (by simp) (by simp) (tab_below HT.out BA.out) HL.out (by simp) HN.out.1 (by have := HN.out; omega) (fun _ _ _ => trivial) (fun _ _ _ => trivial)).mono ?_
        rintro e w5 ⟨rfl, hs5, hg5⟩
        have S5 := Aside0.mk hs5
        have n_ := Aside0.mk (Below.grown BA.out hg5 BA.out.size (fun k e => by injection e with e; omega)); clear BW; have BW := n_; clear n_
        have n_ := Aside0.mk (blk_grown (blk_alloc GO.out _) hg5 (by simp)); clear GO; have GO := n_; clear n_
        clear hs5 hg5 c4 hd SS BA
        go_wp2_with fail
        go_roundg k1
        case measure => omega
        case rel =>
          have hf := feed_len _ s1.1 (s1.2 ++ [0]) (Nat.le_refl _)
          refine ⟨feed s1.1 (s1.2 ++ [0]), nn + 1, ⟨by simpa using S5.out⟩, BW, GO, ⟨hf.1⟩, ⟨by rw [← padK_step h56]; exact HPK.out⟩, ⟨?_⟩, ⟨by have := HN.out; omega⟩⟩
          have h1 := HW.out
          have h2 := HL.out
          rw [hf.2.2.2, List.length_append, List.length_singleton]
          unfold want at h1 ⊢
          omega
end Go.Proofs.YtldeigekagpekaaDoor.Dg
