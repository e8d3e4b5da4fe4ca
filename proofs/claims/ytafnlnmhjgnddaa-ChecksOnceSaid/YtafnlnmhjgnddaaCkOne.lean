/- Walks of package checks: what each call does. Conditions: each lemma names its own. -/
import Derived.Test.YtafnlnmhjgnddaaProg
import Derived.WalkKit
import Derived.WalkSpells
import Derived.WalkLawsBesides
import Derived.Deep.QuietTactic
import Derived.BigQuiet
import Derived.RegionTactic
import Derived.Lib.Hide
import Derived.KernelRfl
import Derived.Test.YtafnlnmhjgnddaaWMore
namespace Go.Proofs.Ytafnlnmhjgnddaa.Ck
open Go.RowKit Go.Proofs.YtafnlnmhjgnddaaW.PrintWords

def t8 : List Int := [0, 7, 14, 9, 28, 27, 18, 21, 56, 63, 54, 49, 36, 35, 42, 45]
def t16 : List Int := [0, 32773, 32783, 10, 32795, 30, 20, 32785, 32819, 54, 60, 32825, 40, 32813, 32807, 34]
/-- The tables stand at a block's begin. -/
def Tab (w : World) (g : Nat) : Prop := (∀ i, i < 16 → w.cell? ⟨g, i, none⟩ = some (.int .u8 (t8.getD i 0))) ∧ (∀ i, i < 16 → w.cell? ⟨g, 16 + i, none⟩ = some (.int .u16 (t16.getD i 0)))

theorem xor16 {a b : Int} (a0 : 0 ≤ a) (a1 : a < 16) (b0 : 0 ≤ b) (b1 : b < 16) : 0 ≤ bits .xor .u8 a b ∧ bits .xor .u8 a b < 16 := by
  rw [u8_xor a b a0 (by omega) b0 (by omega)]
  have := Nat.xor_lt_two_pow (n := 4) (x := a.toNat) (y := b.toNat) (by omega) (by omega)
  omega
theorem u8_bd (a b : Int) : 0 ≤ bits .xor .u8 a b ∧ bits .xor .u8 a b < 256 := by
  unfold bits; simp only [IntKind.wrap_u8]; omega
theorem u16_bd (a b : Int) : 0 ≤ bits .xor .u16 a b ∧ bits .xor .u16 a b < 65536 := by
  unfold bits; simp only [IntKind.wrap_u16]; omega
/-- A register of 8 bits, into which four bits went; of 16 bits. -/
def f8 (c x : Int) : Int := bits .xor .u8 (c * 16 % 256) (t8.getD (bits .xor .u8 (c / 16) x).toNat 0)
def f16 (c x : Int) : Int := bits .xor .u16 (c * 16 % 65536) (t16.getD (bits .xor .u8 (c / 4096) x).toNat 0)
theorem f8_bd (c x : Int) : 0 ≤ f8 c x ∧ f8 c x < 256 := u8_bd _ _
theorem f16_bd (c x : Int) : 0 ≤ f16 c x ∧ f16 c x < 65536 := u16_bd _ _
/-- Into which all bytes went. -/
def e8 (c : Int) (l : List Int) : Int := l.foldl (fun c x => f8 (f8 c (x / 16)) (x % 16)) c
def e16 (c : Int) (l : List Int) : Int := l.foldl (fun c x => f16 (f16 c (x / 16)) (x % 16)) c
theorem ret_int {k : IntKind} {a b : Int} (h : a = b) : Ending.returned (.int k a) = .returned (.int k b) := by rw [h]

set_option maxHeartbeats 400000 in
theorem four_any (g : Nat) (c x : Int) (w : World) (c0 : 0 ≤ c) (c1 : c < 256) (x0 : 0 ≤ x) (x1 : x < 16) (ht : Tab w g) :
    Calls Try.prog 17 #[.pointer (some ⟨g, 0, none⟩), .int .u8 c, .int .u8 x] w fun e w' => e = .returned (.int .u8 (f8 c x)) ∧ w = w' := by
  obtain ⟨h0, h1⟩ := xor16 (a := c / 16) (b := x) (by omega) (by omega) x0 x1
  have hc := ht.1 (bits .xor .u8 (c / 16) x).toNat (by omega)
  clear ht
  go_enter Try.func17, Try.ntmps17
  go_wp2
  go_ret
  exact ⟨ret_int (by unfold f8; rfl), rfl⟩
set_option maxHeartbeats 400000 in
theorem more_any (g : Nat) (c x : Int) (w : World) (c0 : 0 ≤ c) (c1 : c < 65536) (x0 : 0 ≤ x) (x1 : x < 16) (ht : Tab w g) :
    Calls Try.prog 20 #[.pointer (some ⟨g, 0, none⟩), .int .u16 c, .int .u8 x] w fun e w' => e = .returned (.int .u16 (f16 c x)) ∧ w = w' := by
  obtain ⟨h0, h1⟩ := xor16 (a := c / 4096) (b := x) (by omega) (by omega) x0 x1
  have hc := ht.2 (bits .xor .u8 (c / 4096) x).toNat (by omega)
  clear ht
  go_enter Try.func20, Try.ntmps20
  go_wp2
  go_ret
  exact ⟨ret_int (by unfold f16; rfl), rfl⟩
theorem e8_bd (c : Int) (l : List Int) (c0 : 0 ≤ c) (c1 : c < 256) : 0 ≤ e8 c l ∧ e8 c l < 256 := by
  unfold e8
  induction l generalizing c with
  | nil => exact ⟨c0, c1⟩
  | cons x l ih => exact ih _ (f8_bd _ _).1 (f8_bd _ _).2
theorem e8_snoc (c : Int) (l : List Int) (x : Int) : e8 c (l ++ [x]) = f8 (f8 (e8 c l) (x / 16)) (x % 16) := by
  unfold e8; rw [List.foldl_append]; rfl
set_option maxHeartbeats 400000 in
theorem eight_any (g : Nat) (c : Int) (A : Option Addr) (cap : Nat) (l : List Int) (w : World) (c0 : 0 ≤ c) (c1 : c < 256) (ht : Tab w g) (hr : Kd.C (Kd.int .u8) w A l.length l) (_hc : l.length ≤ cap) (hb : ∀ x ∈ l, 0 ≤ x ∧ x < 256) :
    Calls Try.prog 11 #[.pointer (some ⟨g, 0, none⟩), .int .u8 c, .slice A l.length cap] w fun e w' => e = .returned (.int .u8 (e8 c l)) ∧ w = w' := by
  have hlen : l.length ≤ 9223372036854775807 := hr.2.1
  have HR := Aside0.mk hr
  have HT := Aside0.mk ht
  have HB := Aside0.mk hb
  clear hr ht hb
  go_enter Try.func11, Try.ntmps11
  go_wp2
  go_loop [1, 11] (fun c' i => ∃ k : Nat, k ≤ l.length ∧ i = .int .i64 k ∧ c' = .int .u8 (e8 c (l.take k))) (fun _ i => l.length - (intOf i).toNat)
  case atStart => exact ⟨0, Nat.zero_le _, rfl, rfl⟩
  case round =>
    obtain ⟨k, hk, rfl, rfl⟩ := hrel
    obtain ⟨e0, e1⟩ := e8_bd c (l.take k) c0 c1
    by_cases hlt : k < l.length
    · obtain ⟨ad, ea, hcell⟩ := Kd.at_int HR.out k (by omega) (by omega)
      subst ea
      have hx := HB.out _ (List.getElem_mem hlt)
      have hrd : rd l k = l[k] := by unfold rd; simp [List.getD_eq_getElem?_getD, List.getElem?_eq_getElem hlt]
      rw [hrd] at hcell
      rw [Int.toNat_natCast] at hcell
      have hs := e8_snoc c (l.take k) l[k]
      rw [← List.take_succ_eq_append_getElem hlt] at hs
      have HS := Aside0.mk hs
      clear hs hrd
      obtain ⟨x0, x1⟩ := hx
      obtain ⟨f0, f1⟩ := f8_bd (e8 c (l.take k)) (l[k] / 16)
      go_wp2_with fail
      refine (four_any _ _ _ _ (by omega) (by omega) (by omega) (by omega) HT.out).mono ?_
      rintro e w' ⟨rfl, rfl⟩
      go_wp2_with fail
      refine (four_any _ _ _ _ (by omega) (by omega) (by omega) (by omega) HT.out).mono ?_
      rintro e w' ⟨rfl, rfl⟩
      go_wp2
      go_round
      case rel => exact ⟨k + 1, by omega, by go_num, by rw [HS.out]⟩
      case measure => simp [intOf]; omega
    · go_wp2
      go_ret
      exact ⟨ret_int (by rw [List.take_of_length_le (by omega)]), rfl⟩
theorem e16_bd (c : Int) (l : List Int) (c0 : 0 ≤ c) (c1 : c < 65536) : 0 ≤ e16 c l ∧ e16 c l < 65536 := by
  unfold e16
  induction l generalizing c with
  | nil => exact ⟨c0, c1⟩
  | cons x l ih => exact ih _ (f16_bd _ _).1 (f16_bd _ _).2
theorem e16_snoc (c : Int) (l : List Int) (x : Int) : e16 c (l ++ [x]) = f16 (f16 (e16 c l) (x / 16)) (x % 16) := by
  unfold e16; rw [List.foldl_append]; rfl
set_option maxHeartbeats 400000 in
theorem sixteen_any (g : Nat) (c : Int) (A : Option Addr) (cap : Nat) (l : List Int) (w : World) (c0 : 0 ≤ c) (c1 : c < 65536) (ht : Tab w g) (hr : Kd.C (Kd.int .u8) w A l.length l) (_hc : l.length ≤ cap) (hb : ∀ x ∈ l, 0 ≤ x ∧ x < 256) :
    Calls Try.prog 13 #[.pointer (some ⟨g, 0, none⟩), .int .u16 c, .slice A l.length cap] w fun e w' => e = .returned (.int .u16 (e16 c l)) ∧ w = w' := by
  have hlen : l.length ≤ 9223372036854775807 := hr.2.1
  have HR := Aside0.mk hr
  have HT := Aside0.mk ht
  have HB := Aside0.mk hb
  clear hr ht hb
  go_enter Try.func13, Try.ntmps13
  go_wp2
  go_loop [1, 11] (fun c' i => ∃ k : Nat, k ≤ l.length ∧ i = .int .i64 k ∧ c' = .int .u16 (e16 c (l.take k))) (fun _ i => l.length - (intOf i).toNat)
  case atStart => exact ⟨0, Nat.zero_le _, rfl, rfl⟩
  case round =>
    obtain ⟨k, hk, rfl, rfl⟩ := hrel
    obtain ⟨e0, e1⟩ := e16_bd c (l.take k) c0 c1
    by_cases hlt : k < l.length
    · obtain ⟨ad, ea, hcell⟩ := Kd.at_int HR.out k (by omega) (by omega)
      subst ea
      have hx := HB.out _ (List.getElem_mem hlt)
      have hrd : rd l k = l[k] := by unfold rd; simp [List.getD_eq_getElem?_getD, List.getElem?_eq_getElem hlt]
      rw [hrd] at hcell
      rw [Int.toNat_natCast] at hcell
      have hs := e16_snoc c (l.take k) l[k]
      rw [← List.take_succ_eq_append_getElem hlt] at hs
      have HS := Aside0.mk hs
      clear hs hrd
      obtain ⟨x0, x1⟩ := hx
      obtain ⟨f0, f1⟩ := f16_bd (e16 c (l.take k)) (l[k] / 16)
      go_wp2_with fail
      refine (more_any _ _ _ _ (by omega) (by omega) (by omega) (by omega) HT.out).mono ?_
      rintro e w' ⟨rfl, rfl⟩
      go_wp2_with fail
      refine (more_any _ _ _ _ (by omega) (by omega) (by omega) (by omega) HT.out).mono ?_
      rintro e w' ⟨rfl, rfl⟩
      go_wp2
      go_round
      case rel => exact ⟨k + 1, by omega, by go_num, by rw [HS.out]⟩
      case measure => simp [intOf]; omega
    · go_wp2
      go_ret
      exact ⟨ret_int (by rw [List.take_of_length_le (by omega)]), rfl⟩
end Go.Proofs.Ytafnlnmhjgnddaa.Ck
