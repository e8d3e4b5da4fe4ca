/- The walk of Build: it makes the two tables in a new block and leaves what was there. No condition. -/
import Derived.Test.YtafnlnmhjgnddaaCkOne
import Derived.ChangeAlike
namespace Go.Proofs.Ytafnlnmhjgnddaa.Ck
open Go.RowKit Go.Proofs.YtafnlnmhjgnddaaW.PrintWords
def s8 (a : Int) : Int := if (bits .and .u8 a 128 != 0) = true then bits .xor .u8 (a * 2 % 256) 7 else a * 2 % 256
def s16 (a : Int) : Int := if (bits .and .u16 a 32768 != 0) = true then bits .xor .u16 (IntKind.u16.wrap (a * 2)) 32773 else IntKind.u16.wrap (a * 2)
def r8 : Nat → Int → Int | 0, a => a | n + 1, a => s8 (r8 n a)
def r16 : Nat → Int → Int | 0, a => a | n + 1, a => s16 (r16 n a)
theorem s8_bd (a : Int) : 0 ≤ s8 a ∧ s8 a < 256 := by
  unfold s8; split
  · exact u8_bd _ _
  · omega
theorem s16_bd (a : Int) : 0 ≤ s16 a ∧ s16 a < 65536 := by
  unfold s16; split
  · exact u16_bd _ _
  · rw [IntKind.wrap_u16]; omega
theorem r8_bd (n : Nat) (a : Int) (h0 : 0 ≤ a) (h1 : a < 256) : 0 ≤ r8 n a ∧ r8 n a < 256 := by
  cases n with
  | zero => exact ⟨h0, h1⟩
  | succ n => exact s8_bd _
theorem r16_bd (n : Nat) (a : Int) (h0 : 0 ≤ a) (h1 : a < 65536) : 0 ≤ r16 n a ∧ r16 n a < 65536 := by
  cases n with
  | zero => exact ⟨h0, h1⟩
  | succ n => exact s16_bd _
theorem made8 : ∀ k : Nat, k < 16 → r8 4 ((k : Int) * 16) = t8.getD k 0 := by decide +kernel
theorem made16 : ∀ k : Nat, k < 16 → r16 4 ((k : Int) * 4096) = t16.getD k 0 := by decide +kernel
theorem tab_grows {w : World} {g k : Nat} {cs : Array Value} (hb : w.heap[g]? = some (.cells cs 41 (0, 0))) (hs : cs.size = 32) (hk : k < 16)
    (hv : ∀ j, j < k → cs[j]? = some (.int .u8 (t8.getD j 0)) ∧ cs[16 + j]? = some (.int .u16 (t16.getD j 0))) :
    ∃ cs' : Array Value, (((w.setCell ⟨g, k, none⟩ (.int .u8 (t8[k]?.getD 0))).setCell ⟨g, 16 + k, none⟩ (.int .u16 (t16[k]?.getD 0))).drew).heap[g]? = some (.cells cs' 41 (0, 0)) ∧ cs'.size = 32 ∧
      (∀ j, j < k + 1 → cs'[j]? = some (.int .u8 (t8.getD j 0)) ∧ cs'[16 + j]? = some (.int .u16 (t16.getD j 0))) := by
  refine ⟨_, blk_drew (blk_set (blk_set hb k _) (16 + k) _), by simpa using hs, fun j hj => ?_⟩
  simp only [Array.getElem?_setIfInBounds, Array.size_setIfInBounds, List.getD_eq_getElem?_getD]
  by_cases h : j = k
  · subst h
    rw [if_neg (by omega), if_pos rfl, if_pos (by omega), if_pos rfl, if_pos (by omega)]; exact ⟨rfl, rfl⟩
  · rw [if_neg (by omega), if_neg (by omega), if_neg (by omega), if_neg (by omega)]
    have := hv j (by omega)
    simpa [List.getD_eq_getElem?_getD] using this
theorem tab_whole {w : World} {g : Nat} {cs : Array Value} (hb : w.heap[g]? = some (.cells cs 41 (0, 0)))
    (hv : ∀ j, j < 16 → cs[j]? = some (.int .u8 (t8.getD j 0)) ∧ cs[16 + j]? = some (.int .u16 (t16.getD j 0))) : Tab w g :=
  ⟨fun i hi => (blk_cell hb i).trans (hv i hi).1, fun i hi => (blk_cell hb (16 + i)).trans (hv i hi).2⟩
set_option maxHeartbeats 1000000 in
theorem build_any (w : World) :
    Calls Try.prog 10 #[] w fun e w' => e = .returned (.pointer (some ⟨w.heap.size, 0, none⟩)) ∧ Below w.heap.size w w' ∧ Tab w' w.heap.size := by
  go_enter Try.func10, Try.ntmps10
  go_wp2
  go_loopw [9] (fun i wr => ∃ k : Nat, k ≤ 16 ∧ i = .int .i64 k ∧ Aside0 (Below w.heap.size w wr) ∧ Aside0 (∃ cs : Array Value, wr.heap[w.heap.size]? = some (.cells cs 41 (0, 0)) ∧ cs.size = 32 ∧ (∀ j, j < k → cs[j]? = some (.int .u8 (t8.getD j 0)) ∧ cs[16 + j]? = some (.int .u16 (t16.getD j 0))))) (fun i _ => 16 - (intOf i).toNat)
  case atStart => exact ⟨0, by omega, rfl, ⟨(Below.refl _ _).alloc (Nat.le_refl _) _⟩, ⟨_, heap_alloc_new _ _, rfl, fun j hj => absurd hj (by omega)⟩⟩
  case round =>
    obtain ⟨k, hk, rfl, HB, HC⟩ := hrel
    obtain ⟨cs, hb, hs, hv⟩ := HC.out
    clear HC
    by_cases hlt : k < 16
    · go_wp2
      go_loop [3, 4, 18] (fun a b j => ∃ m : Nat, m ≤ 4 ∧ j = .int .i64 m ∧ a = .int .u8 (r8 m ((k : Int) * 16)) ∧ b = .int .u16 (r16 m ((k : Int) * 4096))) (fun _ _ j => 4 - (intOf j).toNat)
      case atStart => exact ⟨0, by omega, rfl, rfl, rfl⟩
      case round =>
        obtain ⟨m, hm, rfl, rfl, rfl⟩ := hrel
        obtain ⟨a0, a1⟩ := r8_bd m ((k : Int) * 16) (by omega) (by omega)
        obtain ⟨b0, b1⟩ := r16_bd m ((k : Int) * 4096) (by omega) (by omega)
        by_cases hm4 : m < 4
        · have ea : r8 (m + 1) ((k : Int) * 16) = s8 (r8 m ((k : Int) * 16)) := rfl
          have eb : r16 (m + 1) ((k : Int) * 4096) = s16 (r16 m ((k : Int) * 4096)) := rfl
          generalize r8 m ((k : Int) * 16) = a at *
          generalize r16 m ((k : Int) * 4096) = b at *
          have EA := Aside0.mk ea
          have EB := Aside0.mk eb
          clear ea eb
          cases ta : (bits .and .u8 a 128 != 0) <;> cases tb : (bits .and .u16 b 32768 != 0)
          all_goals
            go_wp2
            go_round
            case rel => exact ⟨m + 1, by omega, by go_num, by rw [EA.out]; unfold s8; rw [ta]; simp, by rw [EB.out]; unfold s16; rw [tb]; simp⟩
            case measure => simp [intOf]; omega
        · obtain rfl : m = 4 := by omega
          have e1 := made8 k hlt
          have e2 := made16 k hlt
          rw [e1, e2]
          have hf8 := blk_frozen hb k
          have hf16 := blk_frozen hb (16 + k)
          have hc8 : wr.cell? ⟨w.heap.size, k, none⟩ = some cs[k] := by rw [blk_cell hb]; exact Array.getElem?_eq_getElem (by omega)
          have hc16 : wr.cell? ⟨w.heap.size, 16 + k, none⟩ = some cs[16 + k] := by rw [blk_cell hb]; exact Array.getElem?_eq_getElem (by omega)
          have HBK := Aside0.mk hb
          have HV := Aside0.mk hv
          clear hb hv e1 e2
          have HS := Aside0.mk hs
          generalize cs[k] = o8 at hc8
          generalize cs[16 + k] = o16 at hc16
          clear hs
          go_wp2
          go_region
          go_wp2
          go_roundw
          case rel => exact ⟨k + 1, by omega, by go_num, ⟨((HB.out.setCell (Nat.le_refl _) _).setCell (Nat.le_refl _) _).drew⟩, ⟨tab_grows HBK.out HS.out hlt HV.out⟩⟩
          case measure => simp [intOf]; omega
    · obtain rfl : k = 16 := by omega
      have HBK := Aside0.mk hb
      have HV := Aside0.mk hv
      clear hb hv
      go_wp2
      go_ret
      exact ⟨rfl, HB.out, tab_whole HBK.out HV.out⟩
end Go.Proofs.Ytafnlnmhjgnddaa.Ck
