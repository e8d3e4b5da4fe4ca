/- The walk of awake: the chapter's two examples stand. Condition: the table stands. -/
import Derived.Test.YtldeigekagpekaaDoorDgOf
import Derived.Lib.SlBytesConst
set_option linter.unusedSimpArgs false
set_option linter.unusedVariables false
namespace Go.Proofs.YtldeigekagpekaaDoor.Dg
open Go.RowKit Go.Proofs.YtldeigekagpekaaDoorW.PrintWords Go.Proofs.YtldeigekagpekaaDoorW.PrintMore
theorem ofP_nil : ofP [] = [0xd4,0x1d,0x8c,0xd9,0x8f,0x00,0xb2,0x04,0xe9,0x80,0x09,0x98,0xec,0xf8,0x42,0x7e] := by decide +kernel
theorem ofP_abc : ofP [97, 98, 99] = [0x90,0x01,0x50,0x98,0x3c,0xd2,0x4f,0xb0,0xd6,0x96,0x3f,0x7d,0x28,0xe1,0x7f,0x72] := by decide +kernel
set_option maxRecDepth 100000 in
set_option maxHeartbeats 4000000 in
/-- Two digests that are one are told equal. -/
theorem eq24 (l : List Int) (hl : l.length = 16) (w : World) : (Op.equalIn 10000 24 (.agg (dgA l)) (.agg (dgA l))).run Tryd.prog w = .ok true w := by
  match l, hl with
  | [a0, a1, a2, a3, a4, a5, a6, a7, a8, a9, a10, a11, a12, a13, a14, a15], _ =>
    have u3 := Tryd.underlying5
    have a3 := Tryd.isAgg5
    have z3 := Tryd.sizeOf5
    rw [show (10000 : Nat) = 9999 + 1 from rfl, Op.equalIn]
    simp only [Sem.run_bind, run_underlying Tryd.underlying24, Result.andThen_ok]
    simp only [Std.Legacy.Range.forIn_eq_forIn_range', Std.Legacy.Range.size, Nat.sub_zero, Nat.add_sub_cancel, Nat.div_one, List.range'_succ, List.range'_zero, List.forIn_cons, List.forIn_nil, dgA, List.map_cons, List.map_nil]
    go_simp
set_option maxHeartbeats 4000000 in
set_option maxRecDepth 100000 in
theorem awake_any (w : World) (ht : Tab w) : Calls Tryd.prog 9 #[] w fun e w' => e = .returned (.bool true) ∧ Below w.heap.size w w' := by
  have HT := Aside0.mk ht
  clear ht
  go_enter Tryd.func9, Tryd.ntmps9
  go_wp2_with fail
  refine (of_any w none 0 [] (Kd.C_nil _ _) (Nat.le_refl _) (fun x hx => by cases hx) HT.out (by simp)).mono ?_
  rintro e w1 ⟨rfl, hb1⟩
  have BW := Aside0.mk hb1
  clear hb1
  rw [ofP_nil]
  have cv := Joins.run_convert_bytes_const_at (P := Tryd.prog) (w1.alloc (.cells (dgA [0xd4,0x1d,0x8c,0xd9,0x8f,0x00,0xb2,0x04,0xe9,0x80,0x09,0x98,0xec,0xf8,0x42,0x7e]) 24)) 22 5 #[.int .u8 97, .int .u8 98, .int .u8 99] 3 3 (w1.heap.size + 1) (by simp) Tryd.underlying22 Tryd.underlying5
  go_wp2_with ((with_reducible refine gate_store rfl ?_); refine wpList_store_row rfl 24 (.tmp 1) (.tmp 3) rfl _ _ rfl rfl 24 _ (heap_alloc_last _ _) ?hi1 ?ho1 ?ha1 ?_; (case hi1 => kernel_rfl); (case ho1 => rfl); (case ha1 => kernel_rfl); rw [World.setRow_alloc_new])
  clear cv
  have n_ : Aside0 (Below w.heap.size w (w1.alloc (.cells (dgA [0xd4,0x1d,0x8c,0xd9,0x8f,0x00,0xb2,0x04,0xe9,0x80,0x09,0x98,0xec,0xf8,0x42,0x7e]) 24))) := ⟨below_alloc BW.out _⟩; clear BW; have BW := n_; clear n_
  have B1 : Aside0 ((w1.alloc (.cells (dgA [0xd4,0x1d,0x8c,0xd9,0x8f,0x00,0xb2,0x04,0xe9,0x80,0x09,0x98,0xec,0xf8,0x42,0x7e]) 24)).heap[w1.heap.size]? = some (.cells (dgA [0xd4,0x1d,0x8c,0xd9,0x8f,0x00,0xb2,0x04,0xe9,0x80,0x09,0x98,0xec,0xf8,0x42,0x7e]) 24 (0, 0))) := ⟨heap_alloc_last w1 _⟩
  have SZ : Aside0 (w1.heap.size + 1 = (w1.alloc (.cells (dgA [0xd4,0x1d,0x8c,0xd9,0x8f,0x00,0xb2,0x04,0xe9,0x80,0x09,0x98,0xec,0xf8,0x42,0x7e]) 24)).heap.size) := ⟨by simp⟩
  generalize w1.alloc (.cells (dgA [0xd4,0x1d,0x8c,0xd9,0x8f,0x00,0xb2,0x04,0xe9,0x80,0x09,0x98,0xec,0xf8,0x42,0x7e]) 24) = w2 at *
  generalize w1.heap.size = g1 at *
  have ABC : Aside0 (Kd.C (Kd.int .u8) (w2.alloc (.cells #[.int .u8 97, .int .u8 98, .int .u8 99] 5 (3, 4))) (some ⟨g1 + 1, 0, none⟩) [(97 : Int), 98, 99].length [97, 98, 99]) := ⟨by
    refine Kd.C_of_reads (d := (0 : Int)) (h1 := fun _ => rfl) ⟨rfl, by simp, fun _ => ⟨_, rfl, fun j hj => ?_⟩⟩
    have hj' : j < 3 := hj
    rw [SZ.out, add_plain, cell_of_row _ _ _ _ _ _ (heap_alloc_last w2 _)]
    rcases j with _ | _ | _ | j <;> first | rfl | omega⟩
  have n_ : Aside0 (Below w.heap.size w (w2.alloc (.cells #[.int .u8 97, .int .u8 98, .int .u8 99] 5 (3, 4)))) := ⟨below_alloc BW.out _⟩; clear BW; have BW := n_; clear n_
  have n_ := Aside0.mk (blk_alloc B1.out (.cells #[.int .u8 97, .int .u8 98, .int .u8 99] 5 (3, 4))); clear B1; have B1 := n_; clear n_
  refine (of_any _ (some ⟨g1 + 1, 0, none⟩) 3 [97, 98, 99] ABC.out (by simp) (by simp) (tab_below HT.out BW.out) (by simp)).mono ?_
  rintro e w3 ⟨rfl, hb3⟩
  have n_ := Aside0.mk (below_step BW.out hb3); clear BW; have BW := n_; clear n_
  have n_ := Aside0.mk ((hb3.block _ (blk_lt B1.out)).trans B1.out); clear B1; have B1 := n_; clear n_
  clear hb3 ABC SZ
  rw [ofP_abc]
  have a0 : (w3.alloc (.cells (dgA [0x90,0x01,0x50,0x98,0x3c,0xd2,0x4f,0xb0,0xd6,0x96,0x3f,0x7d,0x28,0xe1,0x7f,0x72]) 24)).cell? ⟨g1, 0, none⟩ = some (.int .u8 212) := (cell_of_row _ _ 0 _ _ _ (blk_alloc B1.out _)).trans rfl
  have a1 : (w3.alloc (.cells (dgA [0x90,0x01,0x50,0x98,0x3c,0xd2,0x4f,0xb0,0xd6,0x96,0x3f,0x7d,0x28,0xe1,0x7f,0x72]) 24)).cell? ⟨g1, 1, none⟩ = some (.int .u8 29) := (cell_of_row _ _ 1 _ _ _ (blk_alloc B1.out _)).trans rfl
  have a2 : (w3.alloc (.cells (dgA [0x90,0x01,0x50,0x98,0x3c,0xd2,0x4f,0xb0,0xd6,0x96,0x3f,0x7d,0x28,0xe1,0x7f,0x72]) 24)).cell? ⟨g1, 2, none⟩ = some (.int .u8 140) := (cell_of_row _ _ 2 _ _ _ (blk_alloc B1.out _)).trans rfl
  have a3 : (w3.alloc (.cells (dgA [0x90,0x01,0x50,0x98,0x3c,0xd2,0x4f,0xb0,0xd6,0x96,0x3f,0x7d,0x28,0xe1,0x7f,0x72]) 24)).cell? ⟨g1, 3, none⟩ = some (.int .u8 217) := (cell_of_row _ _ 3 _ _ _ (blk_alloc B1.out _)).trans rfl
  have b0 : (w3.alloc (.cells (dgA [0x90,0x01,0x50,0x98,0x3c,0xd2,0x4f,0xb0,0xd6,0x96,0x3f,0x7d,0x28,0xe1,0x7f,0x72]) 24)).cell? ⟨w3.heap.size, 0, none⟩ = some (.int .u8 144) := (cell_of_row _ _ 0 _ _ _ (heap_alloc_last w3 _)).trans rfl
  have b1 : (w3.alloc (.cells (dgA [0x90,0x01,0x50,0x98,0x3c,0xd2,0x4f,0xb0,0xd6,0x96,0x3f,0x7d,0x28,0xe1,0x7f,0x72]) 24)).cell? ⟨w3.heap.size, 1, none⟩ = some (.int .u8 1) := (cell_of_row _ _ 1 _ _ _ (heap_alloc_last w3 _)).trans rfl
  have b2 : (w3.alloc (.cells (dgA [0x90,0x01,0x50,0x98,0x3c,0xd2,0x4f,0xb0,0xd6,0x96,0x3f,0x7d,0x28,0xe1,0x7f,0x72]) 24)).cell? ⟨w3.heap.size, 2, none⟩ = some (.int .u8 80) := (cell_of_row _ _ 2 _ _ _ (heap_alloc_last w3 _)).trans rfl
  have b3 : (w3.alloc (.cells (dgA [0x90,0x01,0x50,0x98,0x3c,0xd2,0x4f,0xb0,0xd6,0x96,0x3f,0x7d,0x28,0xe1,0x7f,0x72]) 24)).cell? ⟨w3.heap.size, 3, none⟩ = some (.int .u8 152) := (cell_of_row _ _ 3 _ _ _ (heap_alloc_last w3 _)).trans rfl
  go_wp2_with ((with_reducible refine gate_store rfl ?_); refine wpList_store_row rfl 24 (.tmp 2) (.tmp 6) rfl _ _ rfl rfl 24 _ (heap_alloc_last _ _) ?hi1 ?ho1 ?ha1 ?_; (case hi1 => kernel_rfl); (case ho1 => rfl); (case ha1 => kernel_rfl); rw [World.setRow_alloc_new])
  go_ret
  exact ⟨rfl, below_alloc BW.out _⟩
end Go.Proofs.YtldeigekagpekaaDoor.Dg
