/- The walk of the document's own Of: its answer is the program's digest. Conditions: up to two hundred bytes. -/
import Derived.Test.YtldeigekagpekaaDoorDgRef
import Derived.Test.YtldeigekagpekaaDoorDgOwn
set_option linter.unusedVariables false
set_option linter.unusedSimpArgs false
namespace Go.Proofs.YtldeigekagpekaaDoor.Dg
open Go.IntWalk (wrap64_in)
open Go.RowKit Go.Proofs.YtldeigekagpekaaDoorW.PrintWords Go.Proofs.YtldeigekagpekaaDoorW.PrintMore
set_option maxHeartbeats 400000 in
theorem word_same (n : Int) (w : World) (h0 : 0 ≤ n) : Calls Tryd.prog 19 #[.int .i64 n] w fun e w' => e = .returned (.int .i64 (n % 4294967296)) ∧ w' = w := by
  have e := Int.tmod_eq_emod_of_nonneg (b := 4294967296) h0
  go_enter Tryd.func19, Tryd.ntmps19
  go_wp2
  go_ret
  exact ⟨by first | rfl | rw [e], rfl⟩
/-- The first i steps of a block. -/
def runN (blk : List Int) : Nat → Q → Q
  | 0, t => t
  | i + 1, t => stp blk (i / 16) (i % 16) (runN blk i t)
theorem runN_16 (blk : List Int) (t : Q) (k : Nat) : ∀ j, j ≤ 16 → runN blk (16 * k + j) t = run16 blk k j (runN blk (16 * k) t)
  | 0, _ => rfl
  | j + 1, h => by
    show stp blk ((16 * k + j) / 16) ((16 * k + j) % 16) (runN blk (16 * k + j) t) = _
    rw [runN_16 blk t k j (by omega), show (16 * k + j) / 16 = k by omega, show (16 * k + j) % 16 = j by omega]
    rfl
theorem runN_4 (blk : List Int) (t : Q) : ∀ k, runN blk (16 * k) t = run4 blk k t
  | 0 => rfl
  | k + 1 => by
    have := runN_16 blk t k 16 (by omega)
    rw [show 16 * (k + 1) = 16 * k + 16 by omega, this, runN_4 blk t k]
    rfl
theorem runN_in {blk : List Int} : ∀ {i : Nat} {t : Q}, InW t → InW (runN blk i t)
  | 0, _, h => h
  | i + 1, _, h => stp_in (runN_in (i := i) h)
theorem eatP_runN (blk : List Int) (t : Q) : eatP blk t = let u := runN blk 64 t; ((t.1 + u.1) % 4294967296, (t.2.1 + u.2.1) % 4294967296, (t.2.2.1 + u.2.2.1) % 4294967296, (t.2.2.2 + u.2.2.2) % 4294967296) := by
  unfold eatP
  rw [← runN_4]
/-- The words of the state, in whole numbers. -/
def q64 (t : Q) : Array Value := #[.int .i64 t.1, .int .i64 t.2.1, .int .i64 t.2.2.1, .int .i64 t.2.2.2]
theorem stt_in (x : List Int) : InW (stt x).1 := (feed_len _ init x (Nat.le_refl _)).2.1 (by unfold InW init; decide)
/-- What stands while the document's Of goes on. -/
def Rf (w w' : World) (g5 : Nat) (t : Q) (TA : Option Addr) (T : List Int) (SA : Option Addr) : Prop :=
  Below w.heap.size w w' ∧ w'.heap[g5]? = some (.cells (q64 t) 3 (0, 0)) ∧ Kd.C (Kd.int .u8) w' TA T.length T ∧ Kd.C (Kd.int .i64) w' SA sines.length sines ∧ w'.heap[w.heap.size]? = some (.cells zero16 24 (0, 0))
theorem Rf_below {w w1 w2 : World} {g5 : Nat} {t : Q} {TA : Option Addr} {T : List Int} {SA : Option Addr} (h : Rf w w1 g5 t TA T SA) (hb : Below w1.heap.size w1 w2) : Rf w w2 g5 t TA T SA := by
  obtain ⟨h1, h2, h3, h4, h5⟩ := h
  exact ⟨below_step h1 hb, (hb.block _ (blk_lt h2)).trans h2, Kd.C_below h3 hb, Kd.C_below h4 hb, (hb.block _ (blk_lt h5)).trans h5⟩
theorem Rf_new {w w1 : World} {g5 : Nat} {t : Q} {TA : Option Addr} {T : List Int} {SA : Option Addr} (h : Rf w w1 g5 t TA T SA) (t' : Q) : Rf w ((w1.alloc (.cells (q64 t') 3)).drew) w1.heap.size t' TA T SA := by
  obtain ⟨h1, h2, h3, h4, h5⟩ := h
  exact ⟨below_drew1 (below_alloc h1 _), heap_alloc_last w1 _, Kd.C_drew (Kd.C_alloc h3 _), Kd.C_drew (Kd.C_alloc h4 _), blk_alloc h5 _⟩
/-- The result, the first i bytes of which are laid. -/
def outF (u : Q) (i : Nat) : List Int := (outP u).take i ++ List.replicate (16 - i) 0
theorem outF_set (u : Q) (i : Nat) (h : i < 16) : (dgA (outF u i)).setIfInBounds i (.int .u8 (nth u (i / 4) / 256 ^ (i % 4) % 256)) = dgA (outF u (i + 1)) := by
  have : i = 0 ∨ i = 1 ∨ i = 2 ∨ i = 3 ∨ i = 4 ∨ i = 5 ∨ i = 6 ∨ i = 7 ∨ i = 8 ∨ i = 9 ∨ i = 10 ∨ i = 11 ∨ i = 12 ∨ i = 13 ∨ i = 14 ∨ i = 15 := by omega
  rcases this with rfl | rfl | rfl | rfl | rfl | rfl | rfl | rfl | rfl | rfl | rfl | rfl | rfl | rfl | rfl | rfl <;> rfl
theorem outF_at (u : Q) (i : Nat) (h : i < 16) : (dgA (outF u i))[i]? = some (.int .u8 0) := by
  have : i = 0 ∨ i = 1 ∨ i = 2 ∨ i = 3 ∨ i = 4 ∨ i = 5 ∨ i = 6 ∨ i = 7 ∨ i = 8 ∨ i = 9 ∨ i = 10 ∨ i = 11 ∨ i = 12 ∨ i = 13 ∨ i = 14 ∨ i = 15 := by omega
  rcases this with rfl | rfl | rfl | rfl | rfl | rfl | rfl | rfl | rfl | rfl | rfl | rfl | rfl | rfl | rfl | rfl <;> rfl
theorem pow256 : ∀ k : Nat, (0 : Int) ≤ 256 ^ k
  | 0 => by decide
  | k + 1 => by rw [Int.pow_succ]; exact Int.mul_nonneg (pow256 k) (by decide)
theorem q64_at (u : Q) (i : Nat) (h : i < 4) : (q64 u)[i]? = some (.int .i64 (nth u i)) := by
  rcases i with _ | _ | _ | _ | i <;> first | rfl | omega
theorem blk_mid (T : List Int) (a p : Nat) (h : p + 4 ≤ 64) : (T.take (a + p + 4)).drop (a + p) = (((T.drop a).take 64).take (p + 4)).drop p := by
  refine List.ext_getElem? fun j => ?_
  simp only [List.getElem?_drop, List.getElem?_take]
  by_cases hj : j < 4
  · rw [if_pos (by omega), if_pos (by omega), if_pos (by omega)]
    congr 1
    omega
  · rw [if_neg (by omega), if_neg (by omega)]
theorem sines_bd (i : Nat) (h : i < 64) : 0 ≤ rd sines (i : Int) ∧ rd sines (i : Int) < 4294967296 := by
  have hall : ∀ i : Nat, i < 64 → 0 ≤ rd sines (i : Int) ∧ rd sines (i : Int) < 4294967296 := by decide
  exact hall i h
set_option maxHeartbeats 4000000 in
set_option maxRecDepth 100000 in
theorem refof_any (w : World) (A : Option Addr) (cap : Nat) (l : List Int) (hr : Kd.C (Kd.int .u8) w A l.length l) (hc : l.length ≤ cap) (hx : ∀ x ∈ l, 0 ≤ x ∧ x < 256) (hl : l.length ≤ 200) :
    Calls Tryd.prog 11 #[.slice A l.length cap] w fun e w' => e = .returned (.agg (dgA (ofP l))) ∧ Below w.heap.size w w' := by
  have HR := Aside0.mk hr
  have HX := Aside0.mk (And.intro hc (And.intro hx hl))
  clear hr hc hx hl
  go_enter Tryd.func11, Tryd.ntmps11
  go_wp2_with fail
  have BW : Aside0 (Below w.heap.size w (w.alloc (.cells #[.int .u8 0, .int .u8 0, .int .u8 0, .int .u8 0, .int .u8 0, .int .u8 0, .int .u8 0, .int .u8 0, .int .u8 0, .int .u8 0, .int .u8 0, .int .u8 0, .int .u8 0, .int .u8 0, .int .u8 0, .int .u8 0] 24))) := ⟨below_alloc (Below.refl _ _) _⟩
  have GO : Aside0 ((w.alloc (.cells #[.int .u8 0, .int .u8 0, .int .u8 0, .int .u8 0, .int .u8 0, .int .u8 0, .int .u8 0, .int .u8 0, .int .u8 0, .int .u8 0, .int .u8 0, .int .u8 0, .int .u8 0, .int .u8 0, .int .u8 0, .int .u8 0] 24)).heap[w.heap.size]? = some (.cells zero16 24 (0, 0))) := ⟨heap_alloc_last w _⟩
  generalize w.alloc (.cells #[.int .u8 0, .int .u8 0, .int .u8 0, .int .u8 0, .int .u8 0, .int .u8 0, .int .u8 0, .int .u8 0, .int .u8 0, .int .u8 0, .int .u8 0, .int .u8 0, .int .u8 0, .int .u8 0, .int .u8 0, .int .u8 0] 24) = w1 at *
  refine (GDig.serinetteref05_Fill.calls 200 A cap l (fillP l) w1 (Kd.C_below HR.out BW.out) HX.out.1 (fill_val l (by have := HX.out.2.2; omega))).mono ?_
  rintro e w2 ⟨v3, rfl, ho, hb⟩
  obtain ⟨TA, Tc, e3⟩ := Kd.R_slice ho
  subst e3
  have CT := Aside0.mk (Kd.R_reads' ho).2
  have n_ := Aside0.mk (below_step BW.out hb); clear BW; have BW := n_; clear n_
  have n_ := Aside0.mk ((hb.block _ (blk_lt GO.out)).trans GO.out); clear GO; have GO := n_; clear n_
  have T64 := Aside0.mk (fillP_len l)
  have TLE : Aside0 ((fillP l).length ≤ 280) := ⟨by have := fillP_le l; have := HX.out.2.2; omega⟩
  have TB := Aside0.mk (fillP_byte l HX.out.2.1)
  have OF := Aside0.mk (ofP_fill l)
  clear ho hb HR HX
  obtain ⟨T, hT⟩ : ∃ T, T = fillP l := ⟨_, rfl⟩
  rw [← hT] at CT T64 TLE TB OF ⊢
  clear hT
  go_wp2_with fail
  refine (GDig.serinetteref05_Sines.calls sines w2 rfl).mono ?_
  rintro e w3 ⟨v4, rfl, ho, hb⟩
  obtain ⟨SA, Sc, e4⟩ := Kd.R_slice ho
  subst e4
  have CS := Aside0.mk (Kd.R_reads' ho).2
  obtain ⟨adS, eS, _⟩ := Kd.at_int CS.out.2 0 (by omega) (by decide)
  subst eS
  have n_ := Aside0.mk (And.intro CT.out.1 (Kd.C_below CT.out.2 hb)); clear CT; have CT := n_; clear n_
  have n_ := Aside0.mk (below_step BW.out hb); clear BW; have BW := n_; clear n_
  have n_ := Aside0.mk ((hb.block _ (blk_lt GO.out)).trans GO.out); clear GO; have GO := n_; clear n_
  clear ho hb
  go_wp2_with fail
  have RF : Aside0 (Rf w (w3.alloc (.cells #[.int .i64 1732584193, .int .i64 4023233417, .int .i64 2562383102, .int .i64 271733878] 3)) w3.heap.size init TA T (some adS)) := ⟨⟨below_alloc BW.out _, heap_alloc_last w3 _, Kd.C_alloc CT.out.2 _, Kd.C_alloc CS.out.2 _, blk_alloc GO.out _⟩⟩
  have TC : Aside0 (T.length ≤ Tc) := ⟨CT.out.1⟩
  have SC : Aside0 (sines.length ≤ Sc) := ⟨CS.out.1⟩
  clear CT CS BW GO
  go_loopw [5, 6] (fun v5 v6 wr => ∃ (g5 at_ : Nat), v5 = .slice (some ⟨g5, 0, none⟩) 4 4 ∧ v6 = .int .i64 at_ ∧ Aside0 (∃ k, at_ = 64 * k ∧ 64 * k ≤ T.length) ∧ Aside0 (Rf w wr g5 (stt (T.take at_)).1 TA T (some adS))) (fun _ v6 _ => T.length - (intOf v6).toNat)
  case atStart => exact ⟨w3.heap.size, 0, rfl, rfl, ⟨0, rfl, by omega⟩, ⟨RF.out⟩⟩
  case round =>
    clear RF
    obtain ⟨g5, at_, rfl, rfl, HA, RF⟩ := hrel
    have TI0 := Aside0.mk (stt_in (T.take at_))
    have tl := TLE.out
    by_cases hlt : at_ < T.length
    · have HB : Aside0 (at_ + 64 ≤ T.length) := ⟨by obtain ⟨k, e, h⟩ := HA.out; have := T64.out; omega⟩
      have BK := Aside0.mk (show (stt (T.take (at_ + 64))).1 = eatP ((T.drop at_).take 64) (stt (T.take at_)).1 by
        obtain ⟨k, e, h⟩ := HA.out
        rw [e]
        exact stt_block T k (by have := HB.out; omega))
      have a0 : (0 : Int) ≤ at_ := by omega
      have a1 : (at_ : Int) < (T.length : Int) := by omega
      have a2 : (at_ : Int) ≤ 216 := by have := HB.out; omega
      obtain ⟨t0, ht0⟩ : ∃ t0, t0 = (stt (T.take at_)).1 := ⟨_, rfl⟩
      obtain ⟨blk, hblk⟩ : ∃ blk, blk = (T.drop at_).take 64 := ⟨_, rfl⟩
      rw [← ht0] at RF TI0 BK
      rw [← hblk] at BK
      have HBK := Aside0.mk hblk
      clear ht0 hblk
      have q0 := (blk_cell (RF.out.2.1) 0).trans (show _ = some (Value.int .i64 t0.1) from rfl)
      have q1 := (blk_cell (RF.out.2.1) 1).trans (show _ = some (Value.int .i64 t0.2.1) from rfl)
      have q2 := (blk_cell (RF.out.2.1) 2).trans (show _ = some (Value.int .i64 t0.2.2.1) from rfl)
      have q3 := (blk_cell (RF.out.2.1) 3).trans (show _ = some (Value.int .i64 t0.2.2.2) from rfl)
      go_wp2_with fail
      clear q0 q1 q2 q3
      go_loopw [7, 8, 9, 10, 11] (fun v7 v8 v9 v10 v11 wj => ∃ i : Nat, i ≤ 64 ∧ v11 = .int .i64 i ∧ v7 = .int .i64 (runN blk i t0).1 ∧ v8 = .int .i64 (runN blk i t0).2.1 ∧ v9 = .int .i64 (runN blk i t0).2.2.1 ∧ v10 = .int .i64 (runN blk i t0).2.2.2 ∧ Aside0 (Rf w wj g5 t0 TA T (some adS))) (fun _ _ _ _ v11 _ => 64 - (intOf v11).toNat)
      case atStart => exact ⟨0, by omega, rfl, rfl, rfl, rfl, rfl, RF⟩
      case round =>
        clear RF
        obtain ⟨i, hi, rfl, rfl, rfl, rfl, rfl, RF⟩ := hrel
        by_cases hit : i < 64
        · have TI := Aside0.mk (runN_in (blk := blk) (i := i) TI0.out)
          have TS := Aside0.mk (show runN blk (i + 1) t0 = stp blk (i / 16) (i % 16) (runN blk i t0) from rfl)
          generalize runN blk i t0 = ti at *
          obtain ⟨p, q, r, s⟩ := ti
          have i0 : (0 : Int) ≤ i := by omega
          have i1 : (i : Int) < 64 := by omega
          obtain ⟨⟨p0, p1⟩, ⟨q0, q1⟩, ⟨r0, r1⟩, ⟨s0, s1⟩⟩ : ((0 ≤ p ∧ p < 4294967296) ∧ (0 ≤ q ∧ q < 4294967296) ∧ (0 ≤ r ∧ r < 4294967296) ∧ (0 ≤ s ∧ s < 4294967296)) := TI.out
          have IE : Aside0 (16 * ((i / 16 : Nat) : Int) + ((i % 16 : Nat) : Int) = (i : Int)) := ⟨by omega⟩
          have SV := step_val (i / 16) (i % 16) (by omega) (by omega) (show 0 ≤ q ∧ q < 4294967296 from ⟨q0, q1⟩) (show 0 ≤ r ∧ r < 4294967296 from ⟨r0, r1⟩) (show 0 ≤ s ∧ s < 4294967296 from ⟨s0, s1⟩)
          rw [IE.out] at SV
          obtain ⟨mx0, mx1⟩ := mix_bd (i / 16) (by omega) (show 0 ≤ q ∧ q < 4294967296 from ⟨q0, q1⟩) (show 0 ≤ r ∧ r < 4294967296 from ⟨r0, r1⟩) (show 0 ≤ s ∧ s < 4294967296 from ⟨s0, s1⟩)
          have tb := turn_bd (i / 16) (i % 16)
          have AX := idx_le (i / 16) (i % 16)
          have AT := Aside0.mk (at_idx (i / 16) (i % 16))
          go_wp2_with fail
          refine (GDig.serinetteref05_Step.calls _ _ _ _ _ _ _ wr SV).mono ?_
          rintro e w4 ⟨rfl, hb⟩
          have n_ := Aside0.mk (Rf_below RF.out hb); clear RF; have RF := n_; clear n_
          clear hb SV
          obtain ⟨mx, hmx⟩ : ∃ mx, mx = mix (i / 16) q r s := ⟨_, rfl⟩
          obtain ⟨tn, htn⟩ : ∃ tn, tn = turnOf (i / 16) (i % 16) := ⟨_, rfl⟩
          obtain ⟨ix, hix⟩ : ∃ ix, ix = idxOf (i / 16) (i % 16) := ⟨_, rfl⟩
          rw [← hmx] at mx0 mx1 ⊢
          rw [← htn] at tb ⊢
          rw [← hix] at AX AT ⊢
          have HM := Aside0.mk (And.intro hmx (And.intro htn hix))
          clear hmx htn hix
          have x0 : (0 : Int) ≤ ix := by omega
          have x1 : (ix : Int) ≤ 15 := by omega
          have ML : ((T.take (at_ + 4 * ix + 4)).drop (at_ + 4 * ix)).length = 4 := by rw [List.length_drop, List.length_take]; have := HB.out; omega
          obtain ⟨A2, hA2⟩ : ∃ A2, A2 = (if Tc = at_ + 4 * ix then TA else TA.map (·.add ((at_ + 4 * ix) * 1))) := ⟨_, rfl⟩
          have hsl : (Instr.slice 22 (.slice TA T.length Tc) (some (.int .i64 ((at_ : Int) + 4 * (ix : Int)))) (some (.int .i64 ((at_ : Int) + 4 * (ix : Int) + 4))) none).run Tryd.prog w4 = .ok (.slice A2 ((T.take (at_ + 4 * ix + 4)).drop (at_ + 4 * ix)).length (Tc - (at_ + 4 * ix))) w4 := by
            obtain ⟨i5, hi5, hs5⟩ := info5'
            have hC := TC.out
            have hL := HB.out
            have := cut_mid 22 5 .i64 .i64 Tryd.underlying22 hi5 1 hs5 TA T.length Tc ((at_ + 4 * ix : Nat) : Int) ((at_ + 4 * ix : Nat) + 4) (by omega) (by omega) (by omega) hC w4
            rw [show ((at_ : Int) + 4 * (ix : Int)) = ((at_ + 4 * ix : Nat) : Int) by omega, this, ML, hA2, Int.toNat_natCast]
            congr 2
            omega
          have HMC := Aside0.mk (Kd.C_mid (c := Tc) RF.out.2.2.1 (show at_ + 4 * ix ≤ at_ + 4 * ix + 4 by omega) (by have := HB.out; omega) TC.out)
          have n_ := Aside0.mk (show Kd.C (Kd.int .u8) w4 A2 ((T.take (at_ + 4 * ix + 4)).drop (at_ + 4 * ix)).length ((T.take (at_ + 4 * ix + 4)).drop (at_ + 4 * ix)) by rw [hA2]; exact HMC.out); clear HMC; have HMC := n_; clear n_
          have MB : Aside0 (∀ x ∈ (T.take (at_ + 4 * ix + 4)).drop (at_ + 4 * ix), 0 ≤ x ∧ x < 256) := ⟨fun x hx => TB.out x (List.mem_of_mem_take (List.mem_of_mem_drop hx))⟩
          have ME : Aside0 ((T.take (at_ + 4 * ix + 4)).drop (at_ + 4 * ix) = (blk.take (4 * ix + 4)).drop (4 * ix)) := ⟨by rw [HBK.out]; exact blk_mid T at_ (4 * ix) (by omega)⟩
          clear hA2
          obtain ⟨m, hm⟩ : ∃ m, m = (T.take (at_ + 4 * ix + 4)).drop (at_ + 4 * ix) := ⟨_, rfl⟩
          rw [← hm] at hsl HMC MB ME ML
          clear hm
          obtain ⟨y0, y1, y2, y3, em⟩ := list4 ML
          subst em
          go_wp2_with fail
          obtain ⟨ad2, e2, c0⟩ := Kd.at_int HMC.out 0 (by omega) (by simp)
          subst e2
          have c1 : w4.cell? ⟨ad2.block, ad2.off + 1, none⟩ = some (.int .u8 y1) := by obtain ⟨_, e, h⟩ := Kd.at_int HMC.out 1 (by omega) (by simp); injection e with e; rw [← e] at h; exact h
          have c2 : w4.cell? ⟨ad2.block, ad2.off + 2, none⟩ = some (.int .u8 y2) := by obtain ⟨_, e, h⟩ := Kd.at_int HMC.out 2 (by omega) (by simp); injection e with e; rw [← e] at h; exact h
          have c3 : w4.cell? ⟨ad2.block, ad2.off + 3, none⟩ = some (.int .u8 y3) := by obtain ⟨_, e, h⟩ := Kd.at_int HMC.out 3 (by omega) (by simp); injection e with e; rw [← e] at h; exact h
          have c0' : w4.cell? ad2 = some (.int .u8 y0) := by rw [show (ad2.add (0 : Int).toNat) = ad2 by cases ad2; simp [Addr.add]] at c0; exact c0
          obtain ⟨z0, z0'⟩ := MB.out y0 (by simp)
          obtain ⟨z1, z1'⟩ := MB.out y1 (by simp)
          obtain ⟨z2, z2'⟩ := MB.out y2 (by simp)
          obtain ⟨z3, z3'⟩ := MB.out y3 (by simp)
          have v0 : IntKind.i64.wrap y0 = y0 := by rw [IntKind.wrap_i64]; omega
          have v1 : IntKind.i64.wrap y1 = y1 := by rw [IntKind.wrap_i64]; omega
          have v2 : IntKind.i64.wrap y2 = y2 := by rw [IntKind.wrap_i64]; omega
          have v3 : IntKind.i64.wrap y3 = y3 := by rw [IntKind.wrap_i64]; omega
          have v4 : IntKind.i64.wrap (256 * y1) = 256 * y1 := by rw [IntKind.wrap_i64]; omega
          have v5 : IntKind.i64.wrap (65536 * y2) = 65536 * y2 := by rw [IntKind.wrap_i64]; omega
          have v6 : IntKind.i64.wrap (16777216 * y3) = 16777216 * y3 := by rw [IntKind.wrap_i64]; omega
          have v7 : IntKind.i64.wrap (y0 + 256 * y1) = y0 + 256 * y1 := by rw [IntKind.wrap_i64]; omega
          have v8 : IntKind.i64.wrap (y0 + 256 * y1 + 65536 * y2) = y0 + 256 * y1 + 65536 * y2 := by rw [IntKind.wrap_i64]; omega
          have v9 : IntKind.i64.wrap (y0 + 256 * y1 + 65536 * y2 + 16777216 * y3) = y0 + 256 * y1 + 65536 * y2 + 16777216 * y3 := by rw [IntKind.wrap_i64]; omega
          go_quiet (fail)
          clear v0 v1 v2 v3 v4 v5 v6 v7 v8 v9
          obtain ⟨xx, hxx⟩ : ∃ xx, xx = y0 + 256 * y1 + 65536 * y2 + 16777216 * y3 := ⟨_, rfl⟩
          rw [← hxx]
          have xx0 : 0 ≤ xx := by omega
          have xx1 : xx < 4294967296 := by omega
          have HXX := Aside0.mk hxx
          clear hxx z0 z1 z2 z3 z0' z1' z2' z3'
          have n_ := Aside0.mk (Rf_below RF.out (pw_below_drewN (Below.refl _ _) nq)); clear RF; have RF := n_; clear n_
          clear c0 c0' c1 c2 c3 HMC hsl
          generalize w4.drewN nq = w5 at *
          have cS : w5.cell? (adS.add i) = some (.int .i64 (rd sines i)) := by obtain ⟨_, e, h⟩ := Kd.at_int RF.out.2.2.2.1 (i : Int) (by omega) (by show (i : Int) < 64; omega); injection e with e; rw [e]; exact h
          obtain ⟨u0, u1⟩ := sines_bd i hit
          have sl : (i : Int) < (sines.length : Int) := by show (i : Int) < 64; omega
          have t1 := tb.1
          have t2 := tb.2
          go_wp2_with fail
          refine (word_same (p + mx + rd sines i + xx) w5 (by omega)).mono ?_
          rintro e w6 ⟨rfl, hw6⟩
          rw [hw6]
          clear hw6
          go_wp2_with fail
          refine (GDig.serinetteref05_turn.calls 33 ((p + mx + rd sines i + xx) % 4294967296) tn _ w5 (turn_val _ _ (by omega) (by omega) t1 t2)).mono ?_
          rintro e w6 ⟨rfl, ⟨nd, rfl⟩⟩
          have n_ := Aside0.mk (Rf_below RF.out (pw_below_drewN (Below.refl _ _) nd)); clear RF; have RF := n_; clear n_
          obtain ⟨b0, b1⟩ := rot_lt ((p + mx + rd sines i + xx) % 4294967296) tn (by omega) (by omega) t1 t2
          clear cS
          generalize w5.drewN nd = w7 at *
          have EQ : Aside0 ((stp blk (i / 16) (i % 16) (p, q, r, s)) = (s, (q + rot ((p + mx + rd sines i + xx) % 4294967296) tn) % 4294967296, q, r)) := ⟨by
            rw [HXX.out, HM.out.1, HM.out.2.1]
            unfold stp
            rw [IE.out, at_idx, ← HM.out.2.2, ← ME.out]
            simp only [wd]
            rfl⟩
          generalize rot ((p + mx + rd sines i + xx) % 4294967296) tn = rt at *
          go_wp2_with fail
          refine (word_same (q + rt) w7 (by omega)).mono ?_
          rintro e w8 ⟨rfl, hw8⟩
          rw [hw8]
          clear hw8
          go_wp2_with fail
          go_roundw
          case rel => exact ⟨i + 1, by omega, by go_num, by rw [TS.out, EQ.out], by rw [TS.out, EQ.out], by rw [TS.out, EQ.out], by rw [TS.out, EQ.out], RF⟩
          case measure => simp only [intOf]; omega
        · obtain rfl : i = 64 := by omega
          have EP := Aside0.mk (BK.out.trans (eatP_runN blk t0))
          have TI := Aside0.mk (runN_in (blk := blk) (i := 64) TI0.out)
          generalize runN blk 64 t0 = u at *
          obtain ⟨p, q, r, s⟩ := u
          obtain ⟨tp, tq, tr, ts⟩ := t0
          have q0 := (blk_cell (RF.out.2.1) 0).trans (show _ = some (Value.int .i64 tp) from rfl)
          have q1 := (blk_cell (RF.out.2.1) 1).trans (show _ = some (Value.int .i64 tq) from rfl)
          have q2 := (blk_cell (RF.out.2.1) 2).trans (show _ = some (Value.int .i64 tr) from rfl)
          have q3 := (blk_cell (RF.out.2.1) 3).trans (show _ = some (Value.int .i64 ts) from rfl)
          obtain ⟨⟨p0, p1⟩, ⟨r0, r1⟩, ⟨s0, s1⟩, ⟨x0, x1⟩⟩ : ((0 ≤ p ∧ p < 4294967296) ∧ (0 ≤ q ∧ q < 4294967296) ∧ (0 ≤ r ∧ r < 4294967296) ∧ (0 ≤ s ∧ s < 4294967296)) := TI.out
          obtain ⟨⟨y0, y1⟩, ⟨z0, z1⟩, ⟨u0, u1⟩, ⟨v0, v1⟩⟩ : ((0 ≤ tp ∧ tp < 4294967296) ∧ (0 ≤ tq ∧ tq < 4294967296) ∧ (0 ≤ tr ∧ tr < 4294967296) ∧ (0 ≤ ts ∧ ts < 4294967296)) := TI0.out
          go_wp2_with fail
          have g0 : IntKind.i64.wrap (tp + p) = tp + p := by rw [IntKind.wrap_i64]; omega
          have g1 : IntKind.i64.wrap (tq + q) = tq + q := by rw [IntKind.wrap_i64]; omega
          have g2 : IntKind.i64.wrap (tr + r) = tr + r := by rw [IntKind.wrap_i64]; omega
          have g3 : IntKind.i64.wrap (ts + s) = ts + s := by rw [IntKind.wrap_i64]; omega
          refine wp_region_still_tail 24 (by kernel_rfl) (by kernel_rfl) ?_
          simp only [List.take_succ_cons, List.take_zero, List.drop_succ_cons, List.drop_zero]
          iterate 5 still_step
          still_call (word_same (tp + p) _ (by omega))
          iterate 5 still_step
          still_call (word_same (tq + q) _ (by omega))
          iterate 5 still_step
          still_call (word_same (tr + r) _ (by omega))
          iterate 5 still_step
          still_call (word_same (ts + s) _ (by omega))
          refine wpStill_nil ?_
          change wpList _ _ _ _ _ (World.drew _)
          clear q0 q1 q2 q3
          go_wp2_with fail
          go_roundw
          case rel => exact ⟨wr.heap.size, at_ + 64, rfl, by go_num, ⟨by obtain ⟨k, e, h⟩ := HA.out; exact ⟨k + 1, by omega, by have := HB.out; omega⟩⟩, ⟨by rw [EP.out]; exact Rf_new RF.out ((tp + p) % 4294967296, (tq + q) % 4294967296, (tr + r) % 4294967296, (ts + s) % 4294967296)⟩⟩
          case measure => simp only [intOf]; omega
    · have TE : Aside0 (T.take at_ = T) := ⟨List.take_of_length_le (by omega)⟩
      rw [TE.out] at RF TI0
      have UI := Aside0.mk TI0.out
      generalize (stt T).1 = u at *
      go_wp2_with fail
      have GF : Aside0 (w.heap.size < wr.heap.size ∧ g5 < wr.heap.size) := ⟨⟨blk_lt RF.out.2.2.2.2, blk_lt RF.out.2.1⟩⟩
      have n_ : Aside0 (Rf w (wr.alloc (.cells #[.int .u8 0, .int .u8 0, .int .u8 0, .int .u8 0, .int .u8 0, .int .u8 0, .int .u8 0, .int .u8 0, .int .u8 0, .int .u8 0, .int .u8 0, .int .u8 0, .int .u8 0, .int .u8 0, .int .u8 0, .int .u8 0] 24)) g5 u TA T (some adS)) := ⟨Rf_below RF.out (below_alloc (Below.refl _ _) _)⟩; clear RF; have RF := n_; clear n_
      have OB : Aside0 ((wr.alloc (.cells #[.int .u8 0, .int .u8 0, .int .u8 0, .int .u8 0, .int .u8 0, .int .u8 0, .int .u8 0, .int .u8 0, .int .u8 0, .int .u8 0, .int .u8 0, .int .u8 0, .int .u8 0, .int .u8 0, .int .u8 0, .int .u8 0] 24)).heap[wr.heap.size]? = some (.cells (dgA (outF u 0)) 24 (0, 0))) := ⟨heap_alloc_last wr _⟩
      generalize wr.alloc (.cells #[.int .u8 0, .int .u8 0, .int .u8 0, .int .u8 0, .int .u8 0, .int .u8 0, .int .u8 0, .int .u8 0, .int .u8 0, .int .u8 0, .int .u8 0, .int .u8 0, .int .u8 0, .int .u8 0, .int .u8 0, .int .u8 0] 24) = w8 at *
      generalize wr.heap.size = g8 at *
      have R3 : Aside0 (Below w.heap.size w w8 ∧ w8.heap[g5]? = some (.cells (q64 u) 3 (0, 0)) ∧ w8.heap[w.heap.size]? = some (.cells zero16 24 (0, 0))) := ⟨⟨RF.out.1, RF.out.2.1, RF.out.2.2.2.2⟩⟩
      clear RF TC SC TB TLE T64 HA TI0 TE
      go_loopw [19] (fun v19 wr => ∃ i : Nat, i ≤ 16 ∧ v19 = .int .i64 i ∧ Aside0 (wr.heap[g8]? = some (.cells (dgA (outF u i)) 24 (0, 0))) ∧ Aside0 (Below w.heap.size w wr ∧ wr.heap[g5]? = some (.cells (q64 u) 3 (0, 0)) ∧ wr.heap[w.heap.size]? = some (.cells zero16 24 (0, 0)))) (fun v19 _ => 16 - (intOf v19).toNat)
      case atStart => exact ⟨0, by omega, rfl, OB, R3⟩
      case round =>
        clear OB R3
        obtain ⟨i, hi, rfl, OB, R3⟩ := hrel
        by_cases hit : i < 16
        · have i0 : (0 : Int) ≤ i := by omega
          have i1 : (i : Int) < 16 := by omega
          have ed : (i : Int).tdiv 4 = ((i / 4 : Nat) : Int) := by rw [Int.tdiv_eq_ediv_of_nonneg i0]; omega
          have em : (i : Int).tmod 4 = ((i % 4 : Nat) : Int) := by rw [Int.tmod_eq_emod_of_nonneg i0]; omega
          have ed' : (i : Int) / 4 = ((i / 4 : Nat) : Int) := by omega
          have em' : (i : Int) % 4 = ((i % 4 : Nat) : Int) := by omega
          have d0 : i / 4 < 4 := by omega
          have m0 : i % 4 < 4 := by omega
          have cN : wr.cell? ⟨g5, i / 4, none⟩ = some (.int .i64 (nth u (i / 4))) := (cell_of_row _ _ _ _ _ _ R3.out.2.1).trans (q64_at u _ d0)
          obtain ⟨n0, n1⟩ := nth_in UI.out (i / 4)
          have FS := Aside0.mk (outF_set u i hit)
          generalize nth u (i / 4) = N at *
          generalize i / 4 = id at *
          generalize i % 4 = im at *
          have d1 : (id : Int) < 4 := by omega
          go_wp2_with fail
          clear cN
          go_loopw [20, 21] (fun v20 v21 wj => ∃ k : Nat, k ≤ im ∧ v21 = .int .i64 k ∧ v20 = .int .i64 (N / 256 ^ k) ∧ wj = wr) (fun _ v21 _ => im - (intOf v21).toNat)
          case atStart => exact ⟨0, by omega, rfl, by simp, rfl⟩
          case round =>
            obtain ⟨k, hk, rfl, rfl, hwr⟩ := hrel
            subst hwr
            obtain ⟨M, hM⟩ : ∃ M, M = N / 256 ^ k := ⟨_, rfl⟩
            have M0 : 0 ≤ M := by rw [hM]; exact Int.ediv_nonneg n0 (pow256 k)
            have M1 : M < 4294967296 := by have := Int.ediv_le_self (256 ^ k) n0; omega
            have k0 : (0 : Int) ≤ k := by omega
            rw [← hM]
            by_cases hkt : k < im
            · have eD : M / 256 = N / 256 ^ (k + 1) := by rw [hM, Int.ediv_ediv_of_nonneg (pow256 k), Int.pow_succ]
              have k1 : (k : Int) < (im : Int) := by omega
              have HM := Aside0.mk hM
              clear hM
              go_wp2_with fail
              go_roundw
              case rel => exact ⟨k + 1, by omega, by go_num, by rw [← eD], trivial⟩
              case measure => simp only [intOf]; omega
            · obtain rfl : k = im := by omega
              have cO : wr.cell? ⟨g8, i, none⟩ = some (.int .u8 0) := (cell_of_row _ _ _ _ _ _ OB.out).trans (outF_at u i hit)
              have fO : wr.frozen? ⟨g8, i, none⟩ = false := blk_frozen OB.out i
              have em2 : M.tmod 256 = M % 256 := Int.tmod_eq_emod_of_nonneg M0
              have HM := Aside0.mk hM
              clear hM
              go_wp2_with fail
              go_roundw
              case rel =>
                refine ⟨i + 1, by omega, by go_num, ⟨?_⟩, ⟨⟨below_set R3.out.1 (Nat.le_of_lt GF.out.1), (blk_far R3.out.2.1 (p := ⟨g8, i, none⟩) (by have := GF.out.2; simp only; omega) _ : _), (blk_far R3.out.2.2 (p := ⟨g8, i, none⟩) (by have := GF.out.1; simp only; omega) _ : _)⟩⟩⟩
                rw [← FS.out, ← HM.out]
                exact blk_set OB.out i _
              case measure => simp only [intOf]; omega
        · obtain rfl : i = 16 := by omega
          go_wp2_with (first | ((with_reducible refine gate_dst (N := 158) rfl ?_); refine wpList_load_row rfl 24 (.tmp 18) rfl g8 rfl 24 (dgA (outF u 16)) (0, 0) _ OB.out Tryd.underlying24 rfl (by kernel_rfl) ?_) | ((with_reducible refine gate_store rfl ?_); refine wpList_store_row rfl 24 (.tmp 2) (.tmp 158) rfl _ _ rfl rfl 24 _ R3.out.2.2 ?hi1 ?ho1 ?ha1 ?_; (case hi1 => kernel_rfl); (case ho1 => rfl); (case ha1 => kernel_rfl)))
          refine bodyPost_ret (results_single (r := .cell 2 24) (v := .agg (dgA (outF u 16))) rfl (.cell w.heap.size 24 (dgA (outF u 16)) (0, 0) _ rfl (setRow_heap wr w.heap.size zero16 (dgA (outF u 16)) 24 (0, 0) R3.out.2.2) Tryd.underlying24 rfl (by kernel_rfl) .nil)) rfl ?_
          exact ⟨by rw [OF.out]; rfl, below_setRow R3.out.1 (Nat.le_refl _) _⟩
end Go.Proofs.YtldeigekagpekaaDoor.Dg
