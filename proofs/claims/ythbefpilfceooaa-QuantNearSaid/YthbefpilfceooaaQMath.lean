/- The plain law of quantising: what the two texts compute, on lists and numbers alone. Conditions: none beyond those that each lemma names. -/
import Derived.Test.YthbefpilfceooaaWMore
namespace Go.Proofs.Ythbefpilfceooaa.QMath
open Go.RowKit Go.Proofs.YthbefpilfceooaaW.PrintWords

/-- How far from 0 any number is, from t on. -/
def far : List Int → Int → Int
  | [], t => t
  | x :: xs, t => far xs (mx (mx t x) (-x))
/-- The greatest shift below n by which the top fits. -/
def sh (top H : Int) : Nat → Int
  | 0 => -1
  | n + 1 => if top * 2 ^ n < H then (n : Int) else sh top H n
/-- One factor: what is wanted, told by so few bits. -/
def one (half w : Int) : Int := mx (-half) (mn ((w + 524288) / 1048576) (half - 1))
/-- All factors, what was lost carried on. -/
def qs (half P : Int) : Int → List Int → List Int
  | _, [] => []
  | c, x :: xs => one half (c + x * P) :: qs half P (c + x * P - one half (c + x * P) * 1048576) xs
/-- The whole. -/
def model (l : List Int) (p : Int) : Int × Int × List Int × Int :=
  if l.length = 0 ∨ 32 < l.length ∨ p < 2 ∨ 15 < p then (0, 0, [], 1)
  else if sh (far l 0) (2 ^ (p - 1).toNat * 1048576) 16 < 0 ∨ far l 0 = 0 then (0, 0, [], 6)
  else (sh (far l 0) (2 ^ (p - 1).toNat * 1048576) 16, p, qs (2 ^ (p - 1).toNat) (2 ^ (sh (far l 0) (2 ^ (p - 1).toNat * 1048576) 16).toNat) 0 l, 0)
def NearL (l : List Int) : Prop := ∀ x ∈ l, -1099511627776 ≤ x ∧ x ≤ 1099511627776

theorem rd_at (l : List Int) (j : Nat) (h : j < l.length) : rd l (j : Int) = l[j] := by
  unfold rd; simp [List.getD_eq_getElem?_getD, List.getElem?_eq_getElem h]
theorem getD_at (l : List Int) (j : Nat) (h : j < l.length) : l.getD j 0 = l[j] := by
  simp [List.getD_eq_getElem?_getD, List.getElem?_eq_getElem h]
theorem wrap_id {n : Int} (h0 : -9223372036854775808 ≤ n) (h1 : n ≤ 9223372036854775807) : wrap64 n = n := by unfold wrap64; omega
theorem i64_wrap (n : Int) : IntKind.i64.wrap n = wrap64 n := by
  rw [IntKind.wrap_i64]; unfold wrap64; rfl
theorem shl_id {x s : Int} (h0 : s ≤ 15) (h1 : -9223372036854775808 ≤ x * 2 ^ s.toNat) (h2 : x * 2 ^ s.toNat ≤ 9223372036854775807) : shl .i64 x s = x * 2 ^ s.toNat := by
  unfold shl
  have : min s.toNat IntKind.i64.bits = s.toNat := by
    have : IntKind.i64.bits = 64 := rfl
    omega
  rw [this, i64_wrap, wrap_id h1 h2]
theorem pow_le (s : Nat) (h : s ≤ 15) : (1 : Int) ≤ 2 ^ s ∧ (2 : Int) ^ s ≤ 32768 := by
  rcases s with _ | _ | _ | _ | _ | _ | _ | _ | _ | _ | _ | _ | _ | _ | _ | _ | s
  all_goals first | decide | omega
theorem shl_one {p : Int} (h0 : 2 ≤ p) (h1 : p ≤ 15) : shl .i64 1 (wrap64 (p - 1)) = 2 ^ (p - 1).toNat := by
  rw [wrap_id (by omega) (by omega)]
  have := pow_le (p - 1).toNat (by omega)
  rw [shl_id (by omega) (by omega) (by omega)]; omega
theorem half_bd {p : Int} (h0 : 2 ≤ p) (h1 : p ≤ 15) : (2 : Int) ≤ 2 ^ (p - 1).toNat ∧ (2 : Int) ^ (p - 1).toNat ≤ 16384 := by
  obtain ⟨n, hn⟩ : ∃ n : Nat, (p - 1).toNat = n + 1 ∧ n ≤ 13 := ⟨(p - 1).toNat - 1, by omega, by omega⟩
  rw [hn.1]
  rcases n with _ | _ | _ | _ | _ | _ | _ | _ | _ | _ | _ | _ | _ | _ | n
  all_goals first | decide | omega

theorem far_ge : ∀ (l : List Int) (t : Int), t ≤ far l t ∧ ∀ x ∈ l, x ≤ far l t ∧ -x ≤ far l t
  | [], t => ⟨Int.le_refl _, by simp⟩
  | y :: l, t => by
    obtain ⟨h1, h2⟩ := far_ge l (mx (mx t y) (-y))
    have h3 : t ≤ mx (mx t y) (-y) ∧ y ≤ mx (mx t y) (-y) ∧ -y ≤ mx (mx t y) (-y) := by unfold mx; split <;> split at * <;> omega
    refine ⟨by simp only [far]; omega, fun x hx => ?_⟩
    simp only [far]
    rcases List.mem_cons.1 hx with rfl | hx
    · omega
    · exact h2 x hx
theorem far_le : ∀ (l : List Int) (t B : Int), t ≤ B → (∀ x ∈ l, -B ≤ x ∧ x ≤ B) → far l t ≤ B
  | [], t, B, h, _ => h
  | y :: l, t, B, h, hl => by
    have hy := hl y (by simp)
    exact far_le l _ B (by unfold mx; split <;> split at * <;> omega) (fun x hx => hl x (List.mem_cons_of_mem _ hx))
theorem far_twice : ∀ (l : List Int) (t : Int), far (l.map (2 * ·)) (2 * t) = 2 * far l t
  | [], t => rfl
  | y :: l, t => by
    simp only [List.map_cons, far]
    rw [← far_twice l]
    congr 1
    unfold mx; split <;> split <;> split <;> split <;> omega
theorem far_zero : ∀ (l : List Int) (t : Int), 0 ≤ t → far l t = 0 → ∀ x ∈ l, x = 0 := by
  intro l t ht h x hx
  have := far_ge l t
  have := this.2 x hx
  omega
theorem sh_lt (top H : Int) : ∀ n, sh top H n < n ∧ -1 ≤ sh top H n
  | 0 => by simp [sh]
  | n + 1 => by
    have := sh_lt top H n
    simp only [sh]; split <;> omega
theorem sh_fits (top H : Int) : ∀ n, 0 ≤ sh top H n → top * 2 ^ (sh top H n).toNat < H
  | 0, h => by simp [sh] at h
  | n + 1, h => by
    simp only [sh] at h ⊢
    split at h
    · rename_i hc; rw [if_pos hc]; simpa using hc
    · rename_i hc; rw [if_neg hc]; exact sh_fits top H n h
theorem one_bd {half w : Int} (h : 1 ≤ half) : -half ≤ one half w ∧ one half w ≤ half - 1 := by
  unfold one mx mn; split <;> split at * <;> omega
theorem qs_length (half P : Int) : ∀ (l : List Int) (c : Int), (qs half P c l).length = l.length
  | [], _ => rfl
  | x :: l, c => by simp [qs, qs_length half P l]
theorem qs_bd {half P : Int} (h : 1 ≤ half) : ∀ (l : List Int) (c : Int), ∀ n ∈ qs half P c l, -half ≤ n ∧ n ≤ half - 1
  | [], _ => by simp [qs]
  | x :: l, c => by
    intro n hn
    simp only [qs, List.mem_cons] at hn
    rcases hn with rfl | hn
    · exact one_bd h
    · exact qs_bd h l _ n hn
theorem mul_bd {x top P H : Int} (hP : 1 ≤ P) (h0 : -x ≤ top) (h1 : x ≤ top) (h : top * P < H) : -H < x * P ∧ x * P < H := by
  have a : x * P ≤ top * P := Int.mul_le_mul_of_nonneg_right h1 (by omega)
  have b : -x * P ≤ top * P := Int.mul_le_mul_of_nonneg_right h0 (by omega)
  rw [Int.neg_mul] at b
  omega
/-- What a factor leaves to be carried. -/
theorem carry_bd {half w B : Int} (h : 2 ≤ half) (hh : half ≤ 16384) (hB : 17179869184 ≤ B) (h0 : -B ≤ w) (h1 : w ≤ B) :
    -B ≤ w - one half w * 1048576 ∧ w - one half w * 1048576 ≤ B := by
  unfold one mx mn; split <;> split at * <;> omega
end Go.Proofs.Ythbefpilfceooaa.QMath
