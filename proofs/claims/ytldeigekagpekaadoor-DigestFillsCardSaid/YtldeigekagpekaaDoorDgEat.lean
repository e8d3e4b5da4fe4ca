/- The walk of digest.eat: a block goes through. Conditions: each lemma names its own. -/
import Derived.Test.YtldeigekagpekaaDoorDgOne
import Derived.Test.YtldeigekagpekaaDoorGDigx1
import Derived.Test.YtldeigekagpekaaDoorDgBits
import Derived.StillTailTactics
import Derived.Deep.DeepCutAuto
import Derived.Laws.CopyOwn
import Derived.BigRegion
set_option linter.unusedSimpArgs false
namespace Go.Proofs.YtldeigekagpekaaDoor.Dg
open Go.RowKit Go.Proofs.YtldeigekagpekaaDoorW.PrintWords Go.Proofs.YtldeigekagpekaaDoorW.PrintMore
set_option linter.unusedVariables false
/-- What is added in each step. -/
def sines : List Int := [3614090360, 3905402710, 606105819, 3250441966, 4118548399, 1200080426, 2821735955, 4249261313, 1770035416, 2336552879, 4294925233, 2304563134, 1804603682, 4254626195, 2792965006, 1236535329, 4129170786, 3225465664, 643717713, 3921069994, 3593408605, 38016083, 3634488961, 3889429448, 568446438, 3275163606, 4107603335, 1163531501, 2850285829, 4243563512, 1735328473, 2368359562, 4294588738, 2272392833, 1839030562, 4259657740, 2763975236, 1272893353, 4139469664, 3200236656, 681279174, 3936430074, 3572445317, 76029189, 3654602809, 3873151461, 530742520, 3299628645, 4096336452, 1126891415, 2878612391, 4237533241, 1700485571, 2399980690, 4293915773, 2240044497, 1873313359, 4264355552, 2734768916, 1309151649, 4149444226, 3174756917, 718787259, 3951481745]
/-- The table stands. -/
def Tab (w : World) : Prop := ∀ i, i < 64 → w.cell? ⟨0, i, none⟩ = some (.int .u32 (rd sines i))
def byOf (k : Nat) : Int := rd [1, 5, 3, 7] k
def fromOf (k : Nat) : Int := rd [0, 1, 5, 0] k
def turnOf (k j : Nat) : Int := rd [7, 12, 17, 22, 5, 9, 14, 20, 4, 11, 16, 23, 6, 10, 15, 21] (4 * k + j % 4 : Nat)
/-- Where a step's word begins. -/
def atOf (k j : Nat) : Nat := 4 * ((byOf k * (16 * k + j) + fromOf k) % 16).toNat
/-- The word of four bytes. -/
def wd (l : List Int) : Int := rd l 0 + 256 * rd l 1 + 65536 * rd l 2 + 16777216 * rd l 3
abbrev Q := Int × Int × Int × Int
/-- A step. -/
def stp (blk : List Int) (k j : Nat) (t : Q) : Q :=
  (t.2.2.2, (t.2.1 + rot ((t.1 + mix k t.2.1 t.2.2.1 t.2.2.2 + rd sines (16 * (k : Int) + j) + wd ((blk.take (atOf k j + 4)).drop (atOf k j))) % 4294967296) (turnOf k j)) % 4294967296, t.2.1, t.2.2.1)
def run16 (blk : List Int) (k : Nat) : Nat → Q → Q
  | 0, t => t
  | j + 1, t => stp blk k j (run16 blk k j t)
def run4 (blk : List Int) : Nat → Q → Q
  | 0, t => t
  | k + 1, t => run16 blk k 16 (run4 blk k t)
def eatP (blk : List Int) (t : Q) : Q := let u := run4 blk 4 t; ((t.1 + u.1) % 4294967296, (t.2.1 + u.2.1) % 4294967296, (t.2.2.1 + u.2.2.1) % 4294967296, (t.2.2.2 + u.2.2.2) % 4294967296)
def InW (t : Q) : Prop := (0 ≤ t.1 ∧ t.1 < 4294967296) ∧ (0 ≤ t.2.1 ∧ t.2.1 < 4294967296) ∧ (0 ≤ t.2.2.1 ∧ t.2.2.1 < 4294967296) ∧ (0 ≤ t.2.2.2 ∧ t.2.2.2 < 4294967296)
theorem stp_in {blk : List Int} {k j : Nat} {t : Q} (h : InW t) : InW (stp blk k j t) := by
  obtain ⟨h1, h2, h3, h4⟩ := h
  refine ⟨h4, ?_, h2, h3⟩
  simp only [stp]
  omega
theorem run16_in {blk : List Int} {k : Nat} : ∀ {j : Nat} {t : Q}, InW t → InW (run16 blk k j t)
  | 0, _, h => h
  | j + 1, _, h => stp_in (run16_in (j := j) h)
theorem run4_in {blk : List Int} : ∀ {k : Nat} {t : Q}, InW t → InW (run4 blk k t)
  | 0, _, h => h
  | k + 1, _, h => run16_in (run4_in (k := k) h)
theorem eatP_in {blk : List Int} {t : Q} : InW (eatP blk t) := by
  simp only [InW, eatP]
  omega
theorem atOf_le (k j : Nat) : atOf k j ≤ 60 := by
  have := Int.emod_lt_of_pos (byOf k * (16 * k + j) + fromOf k) (show (0 : Int) < 16 by omega)
  have := Int.emod_nonneg (byOf k * (16 * k + j) + fromOf k) (show (16 : Int) ≠ 0 by omega)
  simp only [atOf]
  omega
theorem sh0 (x : Nat) (h : x < 256) : shl .u32 ((x : Int) % 4294967296) 0 = ((2 ^ 0 * x : Nat) : Int) := by
  unfold shl
  rw [IntKind.wrap_u32, show (2 : Int) ^ min (Int.toNat 0) IntKind.u32.bits = 1 by decide]
  omega
theorem sh8 (x : Nat) (h : x < 256) : shl .u32 ((x : Int) % 4294967296) 8 = ((2 ^ 8 * x : Nat) : Int) := by
  unfold shl
  rw [IntKind.wrap_u32, show (2 : Int) ^ min (Int.toNat 8) IntKind.u32.bits = 256 by decide]
  omega
theorem sh16 (x : Nat) (h : x < 256) : shl .u32 ((x : Int) % 4294967296) 16 = ((2 ^ 16 * x : Nat) : Int) := by
  unfold shl
  rw [IntKind.wrap_u32, show (2 : Int) ^ min (Int.toNat 16) IntKind.u32.bits = 65536 by decide]
  omega
theorem sh24 (x : Nat) (h : x < 256) : shl .u32 ((x : Int) % 4294967296) 24 = ((2 ^ 24 * x : Nat) : Int) := by
  unfold shl
  rw [IntKind.wrap_u32, show (2 : Int) ^ min (Int.toNat 24) IntKind.u32.bits = 16777216 by decide]
  omega
theorem word_val (a b c d : Nat) (ha : a < 256) (hb : b < 256) (hc : c < 256) (hd : d < 256) : GDig.digest_word.f 5 [(a : Int), b, c, d] = some (wd [(a : Int), b, c, d]) := by
  have r0 : rd [(a : Int), b, c, d] 0 = a := rfl
  have r1 : rd [(a : Int), b, c, d] 1 = b := rfl
  have r2 : rd [(a : Int), b, c, d] 2 = c := rfl
  have r3 : rd [(a : Int), b, c, d] 3 = d := rfl
  have w0 : wrap64 (8 * 0) = 0 := by decide +kernel
  have w1 : wrap64 (8 * 1) = 8 := by decide +kernel
  have w2 : wrap64 (8 * 2) = 16 := by decide +kernel
  have w3 : wrap64 (8 * 3) = 24 := by decide +kernel
  have i0 : wrap64 (0 + 1) = 1 := by decide +kernel
  have i1 : wrap64 (1 + 1) = 2 := by decide +kernel
  have i2 : wrap64 (2 + 1) = 3 := by decide +kernel
  have i3 : wrap64 (3 + 1) = 4 := by decide +kernel
  have hl : (([(a : Int), b, c, d] : List Int).length : Int) = 4 := rfl
  unfold GDig.digest_word.f
  rw [hl]
  have o0 := or_add 0 a 0 (by omega) (by omega)
  have o1 := or_add (2 ^ 0 * a + 0) b 8 (by omega) (by omega)
  have o2 := or_add (2 ^ 8 * b + (2 ^ 0 * a + 0)) c 16 (by omega) (by omega)
  have o3 := or_add (2 ^ 16 * c + (2 ^ 8 * b + (2 ^ 0 * a + 0))) d 24 (by omega) (by omega)
  have z : ((0 : Nat) : Int) = 0 := rfl
  rw [z] at o0
  simp only [GDig.digest_word.l0, hl, r0, r1, r2, r3, w0, w1, w2, w3, i0, i1, i2, i3, sh0 a ha, sh8 b hb, sh16 c hc, sh24 d hd, o0, o1, o2, o3, wd]
  simp
  omega
theorem list4 {l : List Int} (hl : l.length = 4) : ∃ a b c d, l = [a, b, c, d] := by
  match l, hl with
  | [a, b, c, d], _ => exact ⟨a, b, c, d, rfl⟩
theorem word_any (A : Option Addr) (c : Nat) (l : List Int) (w : World) (hr : Kd.C (Kd.int .u8) w A l.length l) (hc : l.length ≤ c) (hl : l.length = 4) (hb : ∀ x ∈ l, 0 ≤ x ∧ x < 256) :
    Calls Tryd.prog 24 #[.slice A l.length c] w fun e w' => e = .returned (.int .u32 (wd l)) ∧ Below w.heap.size w w' := by
  refine (GDig.digest_word.calls 5 A c l (wd l) w hr hc ?_).mono ?_
  · obtain ⟨x, y, z, u, rfl⟩ := list4 hl
    obtain ⟨x, rfl⟩ := Int.eq_ofNat_of_zero_le (hb x (by simp)).1
    obtain ⟨y, rfl⟩ := Int.eq_ofNat_of_zero_le (hb y (by simp)).1
    obtain ⟨z, rfl⟩ := Int.eq_ofNat_of_zero_le (hb z (by simp)).1
    obtain ⟨u, rfl⟩ := Int.eq_ofNat_of_zero_le (hb u (by simp)).1
    have h0 := (hb x (by simp)).2
    have h1 := (hb y (by simp)).2
    have h2 := (hb z (by simp)).2
    have h3 := (hb u (by simp)).2
    exact word_val x y z u (by omega) (by omega) (by omega) (by omega)
  · rintro e w' ⟨rfl, ⟨n, rfl⟩⟩
    exact ⟨rfl, pw_below_drewN (Below.refl _ _) n⟩
theorem range4 {w : World} {g : Nat} {cs : Array Value} {t : TypeId} {fr : Nat × Nat} (h : w.heap[g]? = some (.cells cs t fr)) (o : Nat) (l : List Value) (hl : (cs.toList.drop o).take l.length = l) : w.rangeAt g o l := by
  intro j v hj
  have hlt : j < l.length := (List.getElem?_eq_some_iff.1 hj).1
  rw [cell_of_row w g (o + j) cs t fr h]
  rw [← hl, List.getElem?_take, if_pos hlt, List.getElem?_drop] at hj
  simpa using hj
/-- Four words' cells. -/
def qA (t : Q) : Array Value := #[.int .u32 t.1, .int .u32 t.2.1, .int .u32 t.2.2.1, .int .u32 t.2.2.2]
/-- A kind's cells. -/
def kA (f : Nat) (b o t0 t1 t2 t3 : Int) : Array Value := #[.func (.func f) #[] #[], .int .i64 b, .int .i64 o, .int .i64 t0, .int .i64 t1, .int .i64 t2, .int .i64 t3]
theorem idx_kind (k : Nat) (u : World) (hk : k < 4) : (Instr.index 55 (.agg kindsA) (.int .i64 (k : Int))).run Tryd.prog u = .ok (.agg (kA (26 + k) (byOf k) (fromOf k) (turnOf k 0) (turnOf k 1) (turnOf k 2) (turnOf k 3))) u := by
  rcases k with _ | _ | _ | _ | k
  · kernel_rfl
  · kernel_rfl
  · kernel_rfl
  · kernel_rfl
  · omega
theorem by_bd (k : Nat) (hk : k < 4) : 1 ≤ byOf k ∧ byOf k ≤ 7 := by
  rcases k with _ | _ | _ | _ | k
  · decide
  · decide
  · decide
  · decide
  · omega
theorem from_bd (k : Nat) (hk : k < 4) : 0 ≤ fromOf k ∧ fromOf k ≤ 5 := by
  rcases k with _ | _ | _ | _ | k
  · decide
  · decide
  · decide
  · decide
  · omega
theorem prod_bd (b n : Int) (b0 : 1 ≤ b) (b1 : b ≤ 7) (n0 : 0 ≤ n) (n1 : n < 64) : 0 ≤ b * n ∧ b * n ≤ 448 :=
  ⟨Int.mul_nonneg (by omega) n0, by have := Int.mul_le_mul b1 (show n ≤ 64 by omega) n0 (by omega); omega⟩
theorem at_val (k j : Nat) : ((atOf k j : Nat) : Int) = 4 * ((byOf k * (16 * (k : Int) + j) + fromOf k) % 16) := by
  have := Int.emod_nonneg (byOf k * (16 * (k : Int) + j) + fromOf k) (show (16 : Int) ≠ 0 by omega)
  simp only [atOf]
  omega
theorem info5' : ∃ i, Tryd.prog.info? 5 = some i ∧ i.size = 1 := by
  obtain ⟨i, h, e⟩ := Option.map_eq_some_iff.1 info5
  simp only [Prod.mk.injEq] at e
  exact ⟨i, h, e.2.1⟩
theorem mixf (k f : Nat) (hf : f = 26 + k) (hk : k < 4) (b c d : Int) (w : World) : Calls Tryd.prog f #[.int .u32 b, .int .u32 c, .int .u32 d] w fun e w' => e = .returned (.int .u32 (mix k b c d)) ∧ w' = w := by
  subst hf
  rcases k with _ | _ | _ | _ | k
  · exact (mix1 b c d w).mono fun _ _ h => ⟨h.1, h.2.symm⟩
  · exact (mix2 b c d w).mono fun _ _ h => ⟨h.1, h.2.symm⟩
  · exact (mix3 b c d w).mono fun _ _ h => ⟨h.1, h.2.symm⟩
  · exact (mix4 b c d w).mono fun _ _ h => ⟨h.1, h.2.symm⟩
  · omega
theorem callf (k f : Nat) (hf : f = 26 + k) (hk : k < 4) : ∀ (args : Array Value) (u : World), (callFunc f args).run Tryd.prog u = .ok (.enter f args) u := by
  subst hf
  intro args u
  rcases k with _ | _ | _ | _ | k
  · kernel_rfl
  · kernel_rfl
  · kernel_rfl
  · kernel_rfl
  · omega
theorem turn_bd (k j : Nat) : 0 ≤ turnOf k j ∧ turnOf k j < 32 := by
  have h : ∀ i : Nat, i < 16 → 0 ≤ rd [7, 12, 17, 22, 5, 9, 14, 20, 4, 11, 16, 23, 6, 10, 15, 21] (i : Nat) ∧ rd [7, 12, 17, 22, 5, 9, 14, 20, 4, 11, 16, 23, 6, 10, 15, 21] (i : Nat) < 32 := by decide
  by_cases hi : 4 * k + j % 4 < 16
  · exact h _ hi
  · have e : turnOf k j = 0 := by
      unfold turnOf rd
      rw [Int.toNat_natCast, List.getD_eq_getElem?_getD, List.getElem?_eq_none (by simp; omega)]
      rfl
    rw [e]; omega
/-- A state's block, the first i words of which took the new ones in. -/
def accA (t u : Q) (v : Value) (n : Int) (i : Nat) : Array Value := #[.int .u32 (if 0 < i then (t.1 + u.1) % 4294967296 else t.1), .int .u32 (if 1 < i then (t.2.1 + u.2.1) % 4294967296 else t.2.1), .int .u32 (if 2 < i then (t.2.2.1 + u.2.2.1) % 4294967296 else t.2.2.1), .int .u32 (if 3 < i then (t.2.2.2 + u.2.2.2) % 4294967296 else t.2.2.2), v, .int .i64 n]
def nth (t : Q) (i : Nat) : Int := match i with | 0 => t.1 | 1 => t.2.1 | 2 => t.2.2.1 | _ => t.2.2.2
theorem accA_at (t u : Q) (v : Value) (n : Int) (i : Nat) (h : i < 4) : (accA t u v n i)[i]? = some (.int .u32 (nth t i)) := by
  rcases i with _ | _ | _ | _ | i <;> first | rfl | omega
theorem qA_at (u : Q) (i : Nat) (h : i < 4) : (qA u)[i]? = some (.int .u32 (nth u i)) := by
  rcases i with _ | _ | _ | _ | i <;> first | rfl | omega
theorem accA_set (t u : Q) (v : Value) (n : Int) (i : Nat) (h : i < 4) : (accA t u v n i).setIfInBounds i (.int .u32 ((nth t i + nth u i) % 4294967296)) = accA t u v n (i + 1) := by
  rcases i with _ | _ | _ | _ | i <;> first | rfl | omega
set_option maxHeartbeats 4000000 in
set_option maxRecDepth 100000 in
theorem eat_any (w : World) (g : Nat) (t : Q) (v : Value) (n : Int) (A : Option Addr) (c : Nat) (blk : List Int) (hg : w.heap[g]? = some (.cells (stA t.1 t.2.1 t.2.2.1 t.2.2.2 v n) 48 (0, 0)))
    (hr : Kd.C (Kd.int .u8) w A blk.length blk) (hc : blk.length ≤ c) (hl : blk.length = 64) (hb : ∀ x ∈ blk, 0 ≤ x ∧ x < 256) (ht : Tab w) (hin : InW t) :
    Calls Tryd.prog 21 #[.pointer (some ⟨g, 0, none⟩), .slice A blk.length c] w fun e w' => e = .returned (.tuple #[]) ∧
      w'.heap[g]? = some (.cells (stA (eatP blk t).1 (eatP blk t).2.1 (eatP blk t).2.2.1 (eatP blk t).2.2.2 v n) 48 (0, 0)) ∧ w.grownBy w' (some g) := by
  obtain ⟨p, q, r, s⟩ := t
  have HG := Aside0.mk hg
  have GL := Aside0.mk (blk_lt hg)
  have HR := Aside0.mk hr
  have HC := Aside0.mk hc
  have HL := Aside0.mk hl
  have HB := Aside0.mk hb
  have HT := Aside0.mk ht
  have HI := Aside0.mk hin
  clear hg hr hc hl hb ht hin
  go_enter Tryd.func21, Tryd.ntmps21
  go_wp2_with (first | ((with_reducible refine gate_dst (N := 15) rfl ?_); refine wpList_load_mid rfl 46 (.tmp 14) rfl g 0 rfl [.int .u32 p, .int .u32 q, .int .u32 r, .int .u32 s] _ (range4 HG.out 0 _ rfl) Tryd.underlying46 rfl (by kernel_rfl) ?_) | ((with_reducible refine gate_store rfl ?_); refine wpList_store_row rfl 46 (.tmp 4) (.tmp 15) rfl _ _ rfl rfl 46 _ (heap_alloc_last _ _) ?hi1 ?ho1 ?ha1 ?_; (case hi1 => kernel_rfl); (case ho1 => rfl); (case ha1 => kernel_rfl); rw [World.setRow_alloc_new]))
  have BL := Aside0.mk (heap_alloc_last w (.cells (qA (p, q, r, s)) 46))
  have BW := Aside0.mk (below_alloc (Below.refl w.heap.size w) (.cells (qA (p, q, r, s)) 46))
  refine (kinds_any _).mono ?_
  rintro e w1 ⟨rfl, hb1⟩
  have n_ := Aside0.mk (below_step BW.out hb1); clear BW; have BW := n_; clear n_
  have n_ := Aside0.mk ((hb1.block w.heap.size (by simp)).trans BL.out); clear BL; have BL := n_; clear n_
  clear hb1
  go_wp2_with fail
  go_loopw [17] (fun v17 wr => ∃ k : Nat, k ≤ 4 ∧ v17 = .int .i64 k ∧ Aside0 (wr.heap[w.heap.size]? = some (.cells (qA (run4 blk k (p, q, r, s))) 46 (0, 0))) ∧ Aside0 (Below w.heap.size w wr)) (fun v17 _ => 4 - (intOf v17).toNat)
  case atStart => exact ⟨0, by omega, rfl, BL, BW⟩
  case round =>
    clear BL BW
    obtain ⟨k, hk, rfl, BL, BW⟩ := hrel
    by_cases hlt : k < 4
    · have TI := Aside0.mk (run4_in (blk := blk) (k := k) HI.out)
      have TS := Aside0.mk (show run16 blk k 16 (run4 blk k (p, q, r, s)) = run4 blk (k + 1) (p, q, r, s) from rfl)
      generalize run4 blk k (p, q, r, s) = tk at BL TI TS
      have hi := idx_kind k wr hlt
      obtain ⟨fk, hfk⟩ : ∃ f, f = 26 + k := ⟨_, rfl⟩
      rw [← hfk] at hi
      have FK := Aside0.mk hfk
      clear hfk
      go_wp2_with ((with_reducible refine gate_store rfl ?_); refine wpList_store_row rfl 54 (.tmp 6) (.tmp 20) rfl _ _ rfl rfl 54 _ (heap_alloc_last _ _) ?hi1 ?ho1 ?ha1 ?_; (case hi1 => kernel_rfl); (case ho1 => rfl); (case ha1 => kernel_rfl); rw [World.setRow_alloc_new])
      have BK := Aside0.mk (heap_alloc_last wr (.cells (kA (fk) (byOf k) (fromOf k) (turnOf k 0) (turnOf k 1) (turnOf k 2) (turnOf k 3)) 54))
      have n_ := Aside0.mk (blk_alloc BL.out (.cells (kA (fk) (byOf k) (fromOf k) (turnOf k 0) (turnOf k 1) (turnOf k 2) (turnOf k 3)) 54)); have NE : Aside0 (wr.heap.size ≠ w.heap.size) := ⟨by have := blk_lt BL.out; omega⟩; clear BL; have BL := n_; clear n_
      have G6 : Aside0 (w.heap.size ≤ wr.heap.size) := ⟨BW.out.size⟩
      have n_ := Aside0.mk (below_alloc BW.out (.cells (kA (fk) (byOf k) (fromOf k) (turnOf k 0) (turnOf k 1) (turnOf k 2) (turnOf k 3)) 54)); clear BW; have BW := n_; clear n_
      generalize wr.heap.size = g6 at *
      generalize wr.alloc (.cells (kA (fk) (byOf k) (fromOf k) (turnOf k 0) (turnOf k 1) (turnOf k 2) (turnOf k 3)) 54) = w2 at *
      clear hi
      go_loopw [21] (fun v21 wj => ∃ j : Nat, j ≤ 16 ∧ v21 = .int .i64 j ∧ Aside0 (wj.heap[w.heap.size]? = some (.cells (qA (run16 blk k j tk)) 46 (0, 0))) ∧ Aside0 (wj.heap[g6]? = some (.cells (kA (fk) (byOf k) (fromOf k) (turnOf k 0) (turnOf k 1) (turnOf k 2) (turnOf k 3)) 54 (0, 0))) ∧ Aside0 (Below w.heap.size w wj)) (fun v21 _ => 16 - (intOf v21).toNat)
      case atStart => exact ⟨0, by omega, rfl, BL, BK, BW⟩
      case round =>
        clear BL BK BW
        obtain ⟨j, hj, rfl, BL, BK, BW⟩ := hrel
        by_cases hjt : j < 16
        · have c61 : wr.cell? ⟨g6, 1, none⟩ = some (.int .i64 (byOf k)) := (cell_of_row _ _ 1 _ _ _ BK.out).trans rfl
          have c62 : wr.cell? ⟨g6, 2, none⟩ = some (.int .i64 (fromOf k)) := (cell_of_row _ _ 2 _ _ _ BK.out).trans rfl
          obtain ⟨b0, b1⟩ := by_bd k hlt
          obtain ⟨f0, f1⟩ := from_bd k hlt
          have k0 : (0 : Int) ≤ k := by omega
          have k1 : (k : Int) < 4 := by omega
          have j0 : (0 : Int) ≤ j := by omega
          have j1 : (j : Int) < 16 := by omega
          obtain ⟨p0, p1⟩ := prod_bd (byOf k) (16 * (k : Int) + j) b0 b1 (by omega) (by omega)
          have AV := Aside0.mk (at_val k j)
          have AL := Aside0.mk (atOf_le k j)
          have ml : ((blk.take (atOf k j + 4)).drop (atOf k j)).length = 4 := by rw [List.length_drop, List.length_take]; have := HL.out; have := AL.out; omega
          obtain ⟨A2, hA2⟩ : ∃ A2, A2 = (if c = atOf k j then A else A.map (·.add (atOf k j * 1))) := ⟨_, rfl⟩
          have hsl : (Instr.slice 22 (.slice A blk.length c) (some (.int .i64 (4 * ((byOf k * (16 * (k : Int) + j) + fromOf k) % 16)))) (some (.int .i64 (4 * ((byOf k * (16 * (k : Int) + j) + fromOf k) % 16) + 4))) none).run Tryd.prog wr = .ok (.slice A2 ((blk.take (atOf k j + 4)).drop (atOf k j)).length (c - atOf k j)) wr := by
            obtain ⟨i5, hi5, hs5⟩ := info5'
            have hC := HC.out
            have hL := HL.out
            have hA := AL.out
            have := cut_mid 22 5 .i64 .i64 Tryd.underlying22 hi5 1 hs5 A blk.length c (atOf k j : Nat) ((atOf k j : Nat) + 4) (by omega) (by omega) (by omega) hC wr
            rw [← AV.out, this, ml, hA2, Int.toNat_natCast]
            congr 2
            omega
          have HM := Aside0.mk (Kd.C_mid (c := c) HR.out (show atOf k j ≤ atOf k j + 4 by omega) (by have := HL.out; have := AL.out; omega) HC.out)
          have n_ := Aside0.mk (show Kd.C (Kd.int .u8) w A2 ((blk.take (atOf k j + 4)).drop (atOf k j)).length ((blk.take (atOf k j + 4)).drop (atOf k j)) by rw [hA2]; exact HM.out); clear HM; have HM := n_; clear n_
          have n_ := Aside0.mk (Kd.C_below HM.out BW.out); clear HM; have HM := n_; clear n_
          have MB : Aside0 (∀ x ∈ (blk.take (atOf k j + 4)).drop (atOf k j), 0 ≤ x ∧ x < 256) := ⟨fun x hx => HB.out x (List.mem_of_mem_take (List.mem_of_mem_drop hx))⟩
          have MC : Aside0 (((blk.take (atOf k j + 4)).drop (atOf k j)).length ≤ c - atOf k j) := ⟨by rw [ml]; have := HC.out; have := HL.out; have := AL.out; omega⟩
          have ML := Aside0.mk ml
          clear hA2 ml
          obtain ⟨m, hm⟩ : ∃ m, m = (blk.take (atOf k j + 4)).drop (atOf k j) := ⟨_, rfl⟩
          rw [← hm] at hsl HM MB MC ML
          have NM := Aside0.mk hm
          clear hm
          go_wp2_with fail
          refine (word_any A2 _ m wr HM.out MC.out ML.out MB.out).mono ?_
          rintro e w3 ⟨rfl, hb3⟩
          clear hsl
          have n_ := Aside0.mk ((hb3.block w.heap.size (blk_lt BL.out)).trans BL.out); clear BL; have BL := n_; clear n_
          have n_ := Aside0.mk ((hb3.block g6 (blk_lt BK.out)).trans BK.out); clear BK; have BK := n_; clear n_
          have n_ := Aside0.mk (below_step BW.out hb3); clear BW; have BW := n_; clear n_
          clear hb3
          go_wp2_with fail
          have JI := Aside0.mk (run16_in (blk := blk) (k := k) (j := j) TI.out)
          have JS := Aside0.mk (show stp blk k j (run16 blk k j tk) = run16 blk k (j + 1) tk from rfl)
          generalize run16 blk k j tk = tj at BL JI JS
          have c40 : w3.cell? ⟨w.heap.size, 0, none⟩ = some (.int .u32 tj.1) := (cell_of_row _ _ 0 _ _ _ BL.out).trans rfl
          have c41 : w3.cell? ⟨w.heap.size, 1, none⟩ = some (.int .u32 tj.2.1) := (cell_of_row _ _ 1 _ _ _ BL.out).trans rfl
          have c42 : w3.cell? ⟨w.heap.size, 2, none⟩ = some (.int .u32 tj.2.2.1) := (cell_of_row _ _ 2 _ _ _ BL.out).trans rfl
          have c43 : w3.cell? ⟨w.heap.size, 3, none⟩ = some (.int .u32 tj.2.2.2) := (cell_of_row _ _ 3 _ _ _ BL.out).trans rfl
          have c60 : w3.cell? ⟨g6, 0, none⟩ = some (.func (.func (fk)) #[] #[]) := (cell_of_row _ _ 0 _ _ _ BK.out).trans rfl
          have n0 : (16 * (k : Int) + j).toNat = 16 * k + j := by omega
          have q0 : 0 ≤ 16 * (k : Int) + j := by omega
          have q1 : 16 * (k : Int) + j < 64 := by omega
          have cs : w3.cell? ⟨0, 16 * k + j, none⟩ = some (.int .u32 (rd sines (16 * k + j : Nat))) := pw_cell_below BW.out (HT.out _ (by omega))
          have hcf := callf k fk FK.out hlt
          go_quiet (exact Calls.quiet_of_same (mixf k fk FK.out hlt _ _ _ _))
          go_wp2_with fail
          have d40 : (w3.drewN nq).cell? ⟨w.heap.size, 0, none⟩ = some (.int .u32 tj.1) := c40
          have d41 : (w3.drewN nq).cell? ⟨w.heap.size, 1, none⟩ = some (.int .u32 tj.2.1) := c41
          have d42 : (w3.drewN nq).cell? ⟨w.heap.size, 2, none⟩ = some (.int .u32 tj.2.2.1) := c42
          have d43 : (w3.drewN nq).cell? ⟨w.heap.size, 3, none⟩ = some (.int .u32 tj.2.2.2) := c43
          have n_ := Aside0.mk (show (w3.drewN nq).heap[w.heap.size]? = _ from BL.out); clear BL; have BL := n_; clear n_
          have n_ := Aside0.mk (show (w3.drewN nq).heap[g6]? = _ from BK.out); clear BK; have BK := n_; clear n_
          have n_ := Aside0.mk (pw_below_drewN BW.out nq); clear BW; have BW := n_; clear n_
          clear c40 c41 c42 c43 c60 cs hcf HM
          generalize w3.drewN nq = w4 at *
          have m2 : (j : Int).tmod 4 = ((j % 4 : Nat) : Int) := by rw [Int.tmod_eq_emod_of_nonneg j0]; omega
          have m0 : 0 ≤ (j : Int).tmod 4 := by omega
          have m1 : (j : Int).tmod 4 < 4 := by omega
          have ct : w4.cell? ⟨g6, 3 + ((j : Int).tmod 4).toNat, none⟩ = some (.int .i64 (turnOf k j)) := by
            rw [m2, Int.toNat_natCast, cell_of_row _ _ _ _ _ _ BK.out]
            have h4 : j % 4 < 4 := Nat.mod_lt _ (by omega)
            have ht : turnOf k j = turnOf k (j % 4) := by simp [turnOf]
            rw [ht]
            generalize j % 4 = i at h4
            rcases i with _ | _ | _ | _ | i <;> first | rfl | omega
          refine wp_region_still_tail 17 (by kernel_rfl) (by kernel_rfl) ?_
          simp only [List.take_succ_cons, List.take_zero, List.drop_succ_cons, List.drop_zero]
          clear m2
          repeat still_step
          still_call ((rot_any _ (turnOf k j) _ (turn_bd k j).1 (turn_bd k j).2 (by omega) (by omega)).mono fun _ _ h => ⟨h.1, h.2.symm⟩)
          repeat still_step
          refine wpStill_nil ?_
          change wpList _ _ _ _ _ w4.drew
          refine wpList_store_row rfl 46 (.tmp 4) (.tmp 79) rfl _ (qA (stp blk k j tj)) rfl ?hq1 46 _ (show w4.drew.heap[w.heap.size]? = _ from BL.out) ?hi1 ?ho1 ?ha1 ?_
          case hq1 => simp only [stp, NM.out]; rfl
          case hi1 => kernel_rfl
          case ho1 => rfl
          case ha1 => kernel_rfl
          have n_ := Aside0.mk (setRow_heap w4.drew w.heap.size _ (qA (stp blk k j tj)) 46 (0, 0) (show w4.drew.heap[w.heap.size]? = _ from BL.out)); clear BL; have BL := n_; clear n_
          have n_ := Aside0.mk ((setRow_other w4.drew w.heap.size g6 (qA (stp blk k j tj)) NE.out).trans (show w4.drew.heap[g6]? = _ from BK.out)); clear BK; have BK := n_; clear n_
          have n_ := Aside0.mk (below_setRow (below_drew1 BW.out) (Nat.le_refl _) (qA (stp blk k j tj))); clear BW; have BW := n_; clear n_
          generalize w4.drew.setRow w.heap.size (qA (stp blk k j tj)) = w5 at *
          rw [JS.out] at BL
          clear d40 d41 d42 d43 ct m0 m1
          go_wp2_with fail
          go_roundw
          case rel => exact ⟨j + 1, by omega, by go_num, BL, BK, BW⟩
          case measure => simp only [intOf]; omega
        · obtain rfl : j = 16 := by omega
          rw [TS.out] at BL
          go_wp2_with fail
          go_roundw
          case rel => exact ⟨k + 1, by omega, by go_num, BL, BW⟩
          case measure => simp only [intOf]; omega
    · obtain rfl : k = 4 := by omega
      go_wp2_with fail
      have GB := Aside0.mk (show w.grownBy wr (some g) from ⟨BW.out.os, BW.out.tape, BW.out.output, BW.out.size, fun i hi _ => BW.out.block i hi⟩)
      have n_ := Aside0.mk (show wr.heap[g]? = some (.cells (accA (p, q, r, s) (run4 blk 4 (p, q, r, s)) v n 0) 48 (0, 0)) from (BW.out.block g (blk_lt HG.out)).trans HG.out); clear HG; have HG := n_; clear n_
      have GN : Aside0 (w.heap.size ≠ g) := ⟨by have := GL.out; omega⟩
      have EP := Aside0.mk (show accA (p, q, r, s) (run4 blk 4 (p, q, r, s)) v n 4 = stA (eatP blk (p, q, r, s)).1 (eatP blk (p, q, r, s)).2.1 (eatP blk (p, q, r, s)).2.2.1 (eatP blk (p, q, r, s)).2.2.2 v n from rfl)
      generalize run4 blk 4 (p, q, r, s) = u at BL HG EP
      clear BW
      go_loopw [82] (fun v82 wr => ∃ i : Nat, i ≤ 4 ∧ v82 = .int .i64 i ∧ Aside0 (wr.heap[g]? = some (.cells (accA (p, q, r, s) u v n i) 48 (0, 0))) ∧ Aside0 (wr.heap[w.heap.size]? = some (.cells (qA u) 46 (0, 0))) ∧ Aside0 (w.grownBy wr (some g))) (fun v82 _ => 4 - (intOf v82).toNat)
      case atStart => exact ⟨0, by omega, rfl, HG, BL, GB⟩
      case round =>
        clear HG BL GB
        obtain ⟨i, hi, rfl, HG, BL, GB⟩ := hrel
        by_cases hit : i < 4
        · have cg : wr.cell? ⟨g, i, none⟩ = some (.int .u32 (nth (p, q, r, s) i)) := (cell_of_row _ _ _ _ _ _ HG.out).trans (accA_at _ _ _ _ _ hit)
          have fg : wr.frozen? ⟨g, i, none⟩ = false := blk_frozen HG.out i
          have c4 : wr.cell? ⟨w.heap.size, i, none⟩ = some (.int .u32 (nth u i)) := (cell_of_row _ _ _ _ _ _ BL.out).trans (qA_at _ _ hit)
          have i0 : (0 : Int) ≤ i := by omega
          have i1 : (i : Int) < 4 := by omega
          go_wp2_with fail
          go_region
          all_goals go_wp2_with fail
          go_roundw
          case rel =>
            refine ⟨i + 1, by omega, by go_num, ⟨?_⟩, ⟨(blk_far BL.out (p := ⟨g, i, none⟩) GN.out _ : _)⟩, ⟨?_⟩⟩
            · rw [← accA_set _ _ _ _ _ hit]
              exact blk_set HG.out i _
            · have hb := GB.out
              refine ⟨hb.os, hb.tape, hb.output, ?_, fun k hk hne => ?_⟩
              · exact Nat.le_trans hb.size (by simp [World.setCell, World.drew])
              · exact (Below.heap_setCell wr ⟨g, i, none⟩ _ k (fun e => hne (by rw [e]))).trans (hb.block k hk hne)
          case measure => simp only [intOf]; omega
        · obtain rfl : i = 4 := by omega
          rw [EP.out] at HG
          go_wp2_with fail
          refine bodyPost_end (results_none rfl _ _ _) rfl ?_
          exact ⟨rfl, HG.out, GB.out⟩
end Go.Proofs.YtldeigekagpekaaDoor.Dg
