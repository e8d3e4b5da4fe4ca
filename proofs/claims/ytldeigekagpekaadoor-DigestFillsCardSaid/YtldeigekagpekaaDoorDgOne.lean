/- Walks of package digest: what each small call does. Conditions: each lemma names its own. -/
import Derived.Test.YtldeigekagpekaaDoorProg
import Derived.WalkKit
import Derived.WalkSpells
import Derived.WalkLawsBesides
import Derived.Deep.QuietTactic
import Derived.BigQuiet
import Derived.RegionTactic
import Derived.Lib.Hide
import Derived.KernelRfl
import Derived.Laws.Rows
import Derived.Laws.Tables
import Derived.Deep.WholeRow
import Derived.Deep.MidRow
import Derived.Test.YtldeigekagpekaaDoorWMore
set_option linter.unusedSimpArgs false
set_option linter.unusedVariables false
namespace Go.Proofs.YtldeigekagpekaaDoor.Dg
open Go.RowKit Go.Proofs.YtldeigekagpekaaDoorW.PrintWords Go.Proofs.YtldeigekagpekaaDoorW.PrintMore
theorem ret_int {k : IntKind} {a b : Int} (h : a = b) : Ending.returned (.int k a) = .returned (.int k b) := by rw [h]
/-- How three words are mixed in the step's round k. -/
def mix (k : Nat) (b c d : Int) : Int := match k with
  | 0 => bits .or .u32 (bits .and .u32 b c) (bits .and .u32 (bits .xor .u32 IntKind.u32.max b) d)
  | 1 => bits .or .u32 (bits .and .u32 d b) (bits .and .u32 (bits .xor .u32 IntKind.u32.max d) c)
  | 2 => bits .xor .u32 (bits .xor .u32 b c) d
  | _ => bits .xor .u32 c (bits .or .u32 b (bits .xor .u32 IntKind.u32.max d))
set_option maxHeartbeats 400000 in
theorem mix1 (b c d : Int) (w : World) : Calls Tryd.prog 26 #[.int .u32 b, .int .u32 c, .int .u32 d] w fun e w' => e = .returned (.int .u32 (mix 0 b c d)) ∧ w = w' := by
  go_enter Tryd.func26, Tryd.ntmps26
  go_wp2
  go_ret
  exact ⟨rfl, rfl⟩
set_option maxHeartbeats 400000 in
theorem mix4 (b c d : Int) (w : World) : Calls Tryd.prog 29 #[.int .u32 b, .int .u32 c, .int .u32 d] w fun e w' => e = .returned (.int .u32 (mix 3 b c d)) ∧ w = w' := by
  go_enter Tryd.func29, Tryd.ntmps29
  go_wp2
  go_ret
  exact ⟨rfl, rfl⟩
set_option maxHeartbeats 400000 in
theorem mix2 (b c d : Int) (w : World) : Calls Tryd.prog 27 #[.int .u32 b, .int .u32 c, .int .u32 d] w fun e w' => e = .returned (.int .u32 (mix 1 b c d)) ∧ w = w' := by
  go_enter Tryd.func27, Tryd.ntmps27
  go_wp2
  go_ret
  exact ⟨rfl, rfl⟩
set_option maxHeartbeats 400000 in
theorem mix3 (b c d : Int) (w : World) : Calls Tryd.prog 28 #[.int .u32 b, .int .u32 c, .int .u32 d] w fun e w' => e = .returned (.int .u32 (mix 2 b c d)) ∧ w = w' := by
  go_enter Tryd.func28, Tryd.ntmps28
  go_wp2
  go_ret
  exact ⟨rfl, rfl⟩
/-- Turned by so many bits, in 32. -/
def rot (n s : Int) : Int := bits .or .u32 (n * 2 ^ s.toNat % 4294967296) (n / 2 ^ (32 - s).toNat)
theorem and31 (s : Int) (s0 : 0 ≤ s) (s1 : s < 32) : bits .and .u64 s 31 = s := by
  obtain ⟨k, rfl⟩ : ∃ k : Nat, s = (k : Int) := ⟨s.toNat, by omega⟩
  have hk : k < 32 := by omega
  clear s0 s1
  revert k
  decide +kernel
set_option maxHeartbeats 400000 in
theorem rot_any (n s : Int) (w : World) (s0 : 0 ≤ s) (s1 : s < 32) (n0 : 0 ≤ n) (n1 : n < 4294967296) : Calls Tryd.prog 25 #[.int .u32 n, .int .i64 s] w fun e w' => e = .returned (.int .u32 (rot n s)) ∧ w = w' := by
  have e := and31 s s0 s1
  go_enter Tryd.func25, Tryd.ntmps25
  go_wp2
  go_ret
  exact ⟨ret_int (by unfold rot; rfl), rfl⟩
/-- The four kinds of steps. -/
def kindsA : Array Value := #[.func (.func 26) #[] #[], .int .i64 1, .int .i64 0, .int .i64 7, .int .i64 12, .int .i64 17, .int .i64 22,
  .func (.func 27) #[] #[], .int .i64 5, .int .i64 1, .int .i64 5, .int .i64 9, .int .i64 14, .int .i64 20,
  .func (.func 28) #[] #[], .int .i64 3, .int .i64 5, .int .i64 4, .int .i64 11, .int .i64 16, .int .i64 23,
  .func (.func 29) #[] #[], .int .i64 7, .int .i64 0, .int .i64 6, .int .i64 10, .int .i64 15, .int .i64 21]
theorem kinds_any (w : World) : Calls Tryd.prog 23 #[] w fun e w' => e = .returned (.agg kindsA) ∧ Below w.heap.size w w' := by
  go_enter Tryd.func23, Tryd.ntmps23
  go_wp2_with ((with_reducible refine gate_store rfl ?_); refine wpList_store_row rfl 55 (.tmp 0) (.tmp 9) rfl _ _ rfl rfl 55 _ (heap_alloc_last _ _) ?hi1 ?ho1 ?ha1 ?_; (case hi1 => kernel_rfl); (case ho1 => rfl); (case ha1 => kernel_rfl); rw [World.setRow_alloc_new])
  refine bodyPost_ret (results_single (r := .cell 0 55) (v := .agg kindsA) rfl (.cell w.heap.size 55 kindsA (0, 0) _ rfl (heap_alloc_last _ _) Tryd.underlying55 rfl (by kernel_rfl) .nil)) rfl ?_
  exact ⟨rfl, below_alloc (Below.refl _ _) _⟩
/-- A state's block. -/
def stA (p q r s : Int) (v : Value) (n : Int) : Array Value := #[.int .u32 p, .int .u32 q, .int .u32 r, .int .u32 s, v, .int .i64 n]
theorem new_any (w : World) : Calls Tryd.prog 12 #[] w fun e w' => e = .returned (.pointer (some ⟨w.heap.size, 0, none⟩)) ∧ w' = w.alloc (.cells (stA 1732584193 4023233417 2562383102 271733878 (.slice none 0 0) 0) 48) := by
  go_enter Tryd.func12, Tryd.ntmps12
  go_wp2
  go_ret
  exact ⟨rfl, rfl⟩
theorem len_any (w : World) (g : Nat) (p q r s : Int) (v : Value) (n : Int) (h : w.heap[g]? = some (.cells (stA p q r s v n) 48 (0, 0))) : Calls Tryd.prog 15 #[.pointer (some ⟨g, 0, none⟩)] w fun e w' => e = .returned (.int .i64 n) ∧ w = w' := by
  have hc : w.cell? ⟨g, 5, none⟩ = some (.int .i64 n) := (blk_cell h 5).trans rfl
  clear h
  go_enter Tryd.func15, Tryd.ntmps15
  go_wp2
  go_ret
  exact ⟨rfl, rfl⟩
/-- A number's bytes, the lowest one first: the first i of many; the others are 0. -/
def part (n : Int) (many i : Nat) : List Int := (List.range many).map fun j => if j < i then n / 2 ^ (8 * j) % 256 else 0
theorem part_len (n : Int) (many i : Nat) : (part n many i).length = many := by simp [part]
theorem part_zero (n : Int) (many : Nat) : part n many 0 = List.replicate many 0 := by
  refine List.ext_getElem? fun j => ?_
  simp only [part, List.getElem?_map, List.getElem?_replicate]
  by_cases h : j < many
  · rw [List.getElem?_range h]; simp [h]
  · rw [List.getElem?_eq_none (by simp; omega)]; simp [h]
theorem part_set (n : Int) (many i : Nat) (h : i < many) : (part n many i).set i (n / 2 ^ (8 * i) % 256) = part n many (i + 1) := by
  refine List.ext_getElem? fun j => ?_
  by_cases hj : j < many
  · by_cases e : i = j
    · subst e
      rw [List.getElem?_set_self (by rw [part_len]; exact h)]
      simp [part, List.getElem?_range hj]
    · rw [List.getElem?_set_ne e]
      simp only [part, List.getElem?_map, List.getElem?_range hj, Option.map_some]
      by_cases hl : j < i
      · rw [if_pos hl, if_pos (by omega)]
      · rw [if_neg hl, if_neg (by omega)]
  · rw [List.getElem?_eq_none (by rw [List.length_set, part_len]; omega), List.getElem?_eq_none (by rw [part_len]; omega)]
theorem info5 : (Tryd.prog.info? 5).map (fun i => (i.zero, i.size, i.bytes)) = some (some (.int .u8 0), 1, 1) := by kernel_rfl
set_option maxHeartbeats 800000 in
theorem little_any (n : Int) (many : Nat) (w : World) (hm : many ≤ 8) :
    Calls Tryd.prog 22 #[.int .u64 n, .int .i64 many] w fun e w' => ∃ v, e = .returned v ∧ Kd.R (Kd.int .u8) 5 w' w.heap.size (fun _ => True) v (part n many many) ∧ Below w.heap.size w w' := by
  have HB := Aside0.mk (Below.refl w.heap.size w)
  have HM := Aside0.mk hm
  have hm0 : (0 : Int) ≤ many := by omega
  have e0 : ((many : Int)).toNat = many := Int.toNat_natCast many
  have hm1 : (many : Int).toNat ≤ 281474976710656 := by omega
  clear hm
  go_enter Tryd.func22, Tryd.ntmps22
  go_wp2_with (first | ((with_reducible refine gate_dst (N := 8) rfl ?_); refine Kd.R_make (Kd.int .u8) _ 5 rfl (N := 8) rfl 22 _ _ rfl many rfl rfl Tryd.underlying22 (.int .u8 0) 1 info5 rfl (by decide) (by omega) 0 (ok := fun _ => True) (okp := fun _ => True) rfl (fun _ hk => hk) trivial hm0 (by omega) (Below.refl _ _) (Nat.le_refl _) ?_; intro v1 w1 ho hb hg_ hnew_; clear hg_ hnew_; rw [e0, ← part_zero n many] at ho; obtain ⟨A, c, e⟩ := Kd.R_slice ho; rw [part_len] at e; subst e; have HO := Aside0.mk ho; have HB1 := Aside0.mk hb; clear ho hb))
  go_loopw [6, 11] (fun v6 v11 wr => ∃ k : Nat, k ≤ many ∧ v11 = .int .i64 k ∧ Aside0 (Kd.R (Kd.int .u8) 5 wr w.heap.size (fun _ => True) (.slice A many c) (part n many k)) ∧ Aside0 (Below w.heap.size w wr)) (fun _ v11 _ => many - (intOf v11).toNat)
  case atStart => exact ⟨0, Nat.zero_le _, rfl, HO, HB1⟩
  case round =>
    clear HO HB1
    obtain ⟨k, hk, rfl, HO, HB1⟩ := hrel
    by_cases hlt : k < many
    · have hm8 := HM.out
      have i0 : (0 : Int) ≤ (k : Int) := by omega
      have i1 : (k : Int) < (many : Int) := by omega
      have i2 : (k : Int) < 8 := by omega
      obtain ⟨go13, co13, eo13, gb13, gl13, cl13, HG13⟩ := Kd.R_form HO.out (by rw [part_len]; omega)
      injection eo13 with ea en ec
      subst ea; subst ec
      have GB13 := Aside0.mk gb13
      clear en gl13 HG13 cl13 gb13
      obtain ⟨hx0, hf0⟩ := Kd.R_celln 0 HO.out (k : Int) i0 i1
      rw [Int.toNat_natCast] at hx0 hf0
      have hsh : ((8 * (k : Int)).toNat) = 8 * k := by omega
      have HP := Aside0.mk (Kd.R_putg HO.out (k : Int) (n / 2 ^ (8 * k) % 256))
      have HS := Aside0.mk (part_set n many k hlt)
      go_wp2_with fail
      go_roundw
      case rel => exact ⟨k + 1, by omega, by go_num, ⟨by rw [← HS.out]; exact HP.out.1⟩, ⟨below_set HB1.out GB13.out⟩⟩
      case measure => simp [intOf]; omega
    · obtain rfl : k = many := by omega
      go_wp2_with fail
      go_ret
      exact ⟨_, rfl, HO.out, HB1.out⟩
end Go.Proofs.YtldeigekagpekaaDoor.Dg
