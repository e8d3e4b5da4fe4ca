/- What the document's answer reckons, in plain words: turn, Step and Fill are what the program's own words are. No walk. -/
import Derived.Test.YtldeigekagpekaaDoorDgOf
import Derived.Test.YtldeigekagpekaaDoorGDigx2
import Derived.Test.YtldeigekagpekaaDoorGDigx3
set_option linter.unusedVariables false
set_option linter.unusedSimpArgs false
namespace Go.Proofs.YtldeigekagpekaaDoor.Dg
open Go.IntWalk (wrap64_in)
open Go.RowKit Go.Proofs.YtldeigekagpekaaDoorW.PrintWords Go.Proofs.YtldeigekagpekaaDoorW.PrintMore
/-- Turned by s bits, in 32, as a sum. -/
def rotN (n s : Nat) : Nat := n * 2 ^ s % 4294967296 + n / 2 ^ (32 - s)
theorem rotN_zero (n : Nat) (h : n < 4294967296) : rotN n 0 = n := by
  simp only [rotN]
  omega
theorem rotN_lt (n s : Nat) (h : n < 4294967296) (hs : s < 32) : rotN n s < 4294967296 := by
  have : s = 0 ∨ s = 1 ∨ s = 2 ∨ s = 3 ∨ s = 4 ∨ s = 5 ∨ s = 6 ∨ s = 7 ∨ s = 8 ∨ s = 9 ∨ s = 10 ∨ s = 11 ∨ s = 12 ∨ s = 13 ∨ s = 14 ∨ s = 15 ∨ s = 16 ∨ s = 17 ∨ s = 18 ∨ s = 19 ∨ s = 20 ∨ s = 21 ∨ s = 22 ∨ s = 23 ∨ s = 24 ∨ s = 25 ∨ s = 26 ∨ s = 27 ∨ s = 28 ∨ s = 29 ∨ s = 30 ∨ s = 31 := by omega
  rcases this with rfl | rfl | rfl | rfl | rfl | rfl | rfl | rfl | rfl | rfl | rfl | rfl | rfl | rfl | rfl | rfl | rfl | rfl | rfl | rfl | rfl | rfl | rfl | rfl | rfl | rfl | rfl | rfl | rfl | rfl | rfl | rfl <;> simp only [rotN, Nat.reducePow, Nat.reduceSub] <;> omega
theorem rotN_step (n s : Nat) (h : n < 4294967296) (hs : s < 31) : 2 * rotN n s % 4294967296 + rotN n s / 2147483648 = rotN n (s + 1) := by
  have hP : 0 < 2 ^ (31 - s) := Nat.two_pow_pos _
  have hS : 0 < 2 ^ s := Nat.two_pow_pos _
  have e31 : 2 ^ s * 2 ^ (31 - s) = 2147483648 := by rw [← Nat.pow_add, show s + (31 - s) = 31 by omega]
  have e1 : 2 ^ (32 - s) = 2 * 2 ^ (31 - s) := by rw [show 32 - s = (31 - s) + 1 by omega, Nat.pow_succ, Nat.mul_comm]
  have e2 : 2 ^ (s + 1) = 2 * 2 ^ s := by rw [Nat.pow_succ, Nat.mul_comm]
  have e3 : 32 - (s + 1) = 31 - s := by omega
  unfold rotN
  rw [e1, e2, e3]
  generalize 2 ^ (31 - s) = P at *
  generalize 2 ^ s = S at *
  obtain ⟨m, u, hm, rfl⟩ : ∃ m u, m < P ∧ n = P * u + m := ⟨n % P, n / P, Nat.mod_lt _ hP, (Nat.div_add_mod n P).symm⟩
  obtain ⟨q, b, hb, rfl⟩ : ∃ q b, b < 2 ∧ u = 2 * q + b := ⟨u / 2, u % 2, Nat.mod_lt _ (by omega), by omega⟩
  have hSm : S * m < 2147483648 := by rw [← e31]; exact Nat.mul_lt_mul_of_pos_left hm hS
  have d1 : (P * (2 * q + b) + m) / P = 2 * q + b := by rw [Nat.mul_add_div hP, Nat.div_eq_of_lt hm, Nat.add_zero]
  have d2 : (P * (2 * q + b) + m) / (2 * P) = q := by rw [Nat.mul_comm 2 P, ← Nat.div_div_eq_div_mul, d1]; omega
  have f1 : (P * (2 * q + b) + m) * S = 2147483648 * (2 * q + b) + S * m := by
    rw [Nat.add_mul, Nat.mul_comm m S, ← e31]
    congr 1
    rw [Nat.mul_comm (P * (2 * q + b)) S, ← Nat.mul_assoc]
  have f2 : (P * (2 * q + b) + m) * (2 * S) = 2 * (2147483648 * (2 * q + b) + S * m) := by rw [← f1, Nat.mul_comm 2 S, ← Nat.mul_assoc, Nat.mul_comm]
  have hq : q < S := by
    have : P * (2 * q + b) < 2 * (S * P) := by rw [e31]; omega
    have h2 : P * (2 * q) ≤ P * (2 * q + b) := Nat.mul_le_mul_left _ (by omega)
    have h3 : (2 * P) * q < (2 * P) * S := by
      have e : (2 * P) * q = P * (2 * q) := by rw [Nat.mul_comm 2 P, Nat.mul_assoc]
      have e' : (2 * P) * S = 2 * (S * P) := by rw [Nat.mul_assoc, Nat.mul_comm P S]
      omega
    exact Nat.lt_of_mul_lt_mul_left h3
  have hSm2 : S * m + S ≤ 2147483648 := by
    have : S * (m + 1) ≤ S * P := Nat.mul_le_mul_left _ hm
    rw [e31, Nat.mul_add, Nat.mul_one] at this
    exact this
  rw [d1, d2, f1, f2]
  generalize S * m = r at *
  have g1 : (2147483648 * (2 * q + b) + r) % 4294967296 = 2147483648 * b + r := by omega
  have g2 : 2 * (2147483648 * (2 * q + b) + r) % 4294967296 = 2 * r := by omega
  rw [g1, g2]
  have hrq : r + q < 2147483648 := by omega
  clear hSm2 g1 g2 f1 f2 d1 d2 e31 hSm
  rcases (show b = 0 ∨ b = 1 by omega) with rfl | rfl <;> omega
theorem rot_rotN (n s : Nat) (h : n < 4294967296) (hs : s < 32) : rot (n : Int) (s : Int) = ((rotN n s : Nat) : Int) := by
  have hl : n / 2 ^ (32 - s) < 2 ^ s := by
    rw [Nat.div_lt_iff_lt_mul (Nat.two_pow_pos _), ← Nat.pow_add]
    have : s + (32 - s) = 32 := by omega
    rw [this]; omega
  have hm : n * 2 ^ s % 4294967296 = 2 ^ s * (n % 2 ^ (32 - s)) := by
    have e : (4294967296 : Nat) = 2 ^ (32 - s) * 2 ^ s := by rw [← Nat.pow_add, show 32 - s + s = 32 by omega]
    rw [e, Nat.mul_mod_mul_right, Nat.mul_comm]
  have hr : 2 ^ s * (n % 2 ^ (32 - s)) + n / 2 ^ (32 - s) < 4294967296 := by
    have := rotN_lt n s h hs
    unfold rotN at this
    rw [hm] at this
    exact this
  have e1 : ((n : Int) * 2 ^ ((s : Int).toNat) % 4294967296) = ((2 ^ s * (n % 2 ^ (32 - s)) : Nat) : Int) := by
    rw [← hm, Int.toNat_natCast]; simp
  have e2 : ((n : Int) / 2 ^ ((32 - (s : Int)).toNat)) = ((n / 2 ^ (32 - s) : Nat) : Int) := by
    have : (32 - (s : Int)).toNat = 32 - s := by omega
    rw [this]; simp
  unfold rot
  rw [e1, e2, or_u32 (by omega) (by omega), Nat.or_comm]
  congr 1
  have := or_add (n / 2 ^ (32 - s)) (n % 2 ^ (32 - s)) s hl hr
  rw [or_u32 (by omega) (by omega)] at this
  have h2 : (n / 2 ^ (32 - s)) ||| (2 ^ s * (n % 2 ^ (32 - s))) = 2 ^ s * (n % 2 ^ (32 - s)) + n / 2 ^ (32 - s) := by exact_mod_cast this
  rw [h2]
  unfold rotN
  rw [hm]
theorem turn_l0 (n s : Nat) (h : n < 4294967296) (hs : s < 32) : ∀ (d i k : Nat), s = i + d → d < k → GDig.serinetteref05_turn.l0 k ((rotN n i : Nat) : Int) (s : Int) (i : Int) = some ((rotN n s : Nat) : Int)
  | 0, i, k + 1, hd, _ => by
    subst hd
    unfold GDig.serinetteref05_turn.l0
    rw [if_neg (by omega)]
  | d + 1, i, k + 1, hd, hk => by
    unfold GDig.serinetteref05_turn.l0
    have hl := rotN_lt n i h (by omega)
    rw [if_pos (by omega)]
    unfold GDig.serinetteref05_word.f
    rw [Option.bind_some, wrap64_in (2 * ((rotN n i : Nat) : Int)) (by omega)]
    have st := rotN_step n i h (by omega)
    have e1 : Int.tmod (2 * ((rotN n i : Nat) : Int)) 4294967296 = ((2 * rotN n i % 4294967296 : Nat) : Int) := by rw [Int.tmod_eq_emod_of_nonneg (by omega)]; omega
    have e2 : Int.tdiv ((rotN n i : Nat) : Int) 2147483648 = ((rotN n i / 2147483648 : Nat) : Int) := by rw [Int.tdiv_eq_ediv_of_nonneg (by omega)]; omega
    rw [e1, e2, wrap64_in ((rotN n i / 2147483648 : Nat) : Int) (by omega), wrap64_in (((2 * rotN n i % 4294967296 : Nat) : Int) + ((rotN n i / 2147483648 : Nat) : Int)) (by omega), wrap64_in ((i : Int) + 1) (by omega)]
    have e3 : ((2 * rotN n i % 4294967296 : Nat) : Int) + ((rotN n i / 2147483648 : Nat) : Int) = ((rotN n (i + 1) : Nat) : Int) := by rw [← st]; omega
    rw [e3]
    exact turn_l0 n s h hs d (i + 1) k (by omega) (by omega)
theorem turn_val (n s : Int) (n0 : 0 ≤ n) (n1 : n < 4294967296) (s0 : 0 ≤ s) (s1 : s < 32) : GDig.serinetteref05_turn.f 33 n s = some (rot n s) := by
  obtain ⟨a, rfl⟩ := Int.eq_ofNat_of_zero_le n0
  obtain ⟨b, rfl⟩ := Int.eq_ofNat_of_zero_le s0
  unfold GDig.serinetteref05_turn.f
  have := turn_l0 a b (by omega) (by omega) b 0 33 (by omega) (by omega)
  rw [rotN_zero a (by omega)] at this
  rw [rot_rotN a b (by omega) (by omega)]
  exact this
theorem rot_lt (n s : Int) (n0 : 0 ≤ n) (n1 : n < 4294967296) (s0 : 0 ≤ s) (s1 : s < 32) : 0 ≤ rot n s ∧ rot n s < 4294967296 := by
  obtain ⟨a, rfl⟩ := Int.eq_ofNat_of_zero_le n0
  obtain ⟨b, rfl⟩ := Int.eq_ofNat_of_zero_le s0
  rw [rot_rotN a b (by omega) (by omega)]
  have := rotN_lt a b (by omega) (by omega)
  omega
theorem word_f (n : Int) (h0 : 0 ≤ n) : GDig.serinetteref05_word.f n = some (n % 4294967296) := by
  unfold GDig.serinetteref05_word.f
  rw [Int.tmod_eq_emod_of_nonneg h0]
/-- The index of the word that comes. -/
def idxOf (k j : Nat) : Nat := ((byOf k * (16 * k + j) + fromOf k) % 16).toNat
theorem at_idx (k j : Nat) : atOf k j = 4 * idxOf k j := rfl
theorem idx_le (k j : Nat) : idxOf k j ≤ 15 := by
  have := atOf_le k j
  rw [at_idx] at this
  omega
theorem mix0 {b c d : Int} (hb : 0 ≤ b ∧ b < 4294967296) (hc : 0 ≤ c ∧ c < 4294967296) (hd : 0 ≤ d ∧ d < 4294967296) : bits .or .i64 (bits .and .i64 b c) (bits .and .i64 (wrap64 (4294967295 - b)) d) = mix 0 b c d ∧ 0 ≤ mix 0 b c d ∧ mix 0 b c d < 4294967296 := by
  obtain ⟨b, rfl⟩ := Int.eq_ofNat_of_zero_le hb.1
  obtain ⟨c, rfl⟩ := Int.eq_ofNat_of_zero_le hc.1
  obtain ⟨d, rfl⟩ := Int.eq_ofNat_of_zero_le hd.1
  have b1 : b < 4294967296 := by omega
  have c1 : c < 4294967296 := by omega
  have d1 : d < 4294967296 := by omega
  have e : (4294967295 - (b : Int)) = ((4294967295 - b : Nat) : Int) := by omega
  have n1 : 4294967295 - b < 4294967296 := by omega
  have l1 := and_lt32 (y := c) b1
  have l2 := and_lt32 (y := d) n1
  have l3 := or_lt32 l1 l2
  rw [wrap64_in _ (by omega), e, and_i64 b1 c1, and_i64 n1 d1, or_i64 l1 l2]
  simp only [mix]
  rw [not_u32 b b1, and_u32 b1 c1, and_u32 n1 d1, or_u32 l1 l2]
  exact ⟨rfl, by omega, by omega⟩
theorem mix1' {b c d : Int} (hb : 0 ≤ b ∧ b < 4294967296) (hc : 0 ≤ c ∧ c < 4294967296) (hd : 0 ≤ d ∧ d < 4294967296) : bits .or .i64 (bits .and .i64 d b) (bits .and .i64 (wrap64 (4294967295 - d)) c) = mix 1 b c d ∧ 0 ≤ mix 1 b c d ∧ mix 1 b c d < 4294967296 := mix0 hd hb hc
theorem mix2' {b c d : Int} (hb : 0 ≤ b ∧ b < 4294967296) (hc : 0 ≤ c ∧ c < 4294967296) (hd : 0 ≤ d ∧ d < 4294967296) : bits .xor .i64 (bits .xor .i64 b c) d = mix 2 b c d ∧ 0 ≤ mix 2 b c d ∧ mix 2 b c d < 4294967296 := by
  obtain ⟨b, rfl⟩ := Int.eq_ofNat_of_zero_le hb.1
  obtain ⟨c, rfl⟩ := Int.eq_ofNat_of_zero_le hc.1
  obtain ⟨d, rfl⟩ := Int.eq_ofNat_of_zero_le hd.1
  have b1 : b < 4294967296 := by omega
  have c1 : c < 4294967296 := by omega
  have d1 : d < 4294967296 := by omega
  have l1 := xor_lt32 b1 c1
  have l2 := xor_lt32 l1 d1
  rw [xor_i64 b1 c1, xor_i64 l1 d1]
  simp only [mix]
  rw [xor_u32 b1 c1, xor_u32 l1 d1]
  exact ⟨rfl, by omega, by omega⟩
theorem mix3' {b c d : Int} (hb : 0 ≤ b ∧ b < 4294967296) (hc : 0 ≤ c ∧ c < 4294967296) (hd : 0 ≤ d ∧ d < 4294967296) : bits .xor .i64 c (bits .or .i64 b (wrap64 (4294967295 - d))) = mix 3 b c d ∧ 0 ≤ mix 3 b c d ∧ mix 3 b c d < 4294967296 := by
  obtain ⟨b, rfl⟩ := Int.eq_ofNat_of_zero_le hb.1
  obtain ⟨c, rfl⟩ := Int.eq_ofNat_of_zero_le hc.1
  obtain ⟨d, rfl⟩ := Int.eq_ofNat_of_zero_le hd.1
  have b1 : b < 4294967296 := by omega
  have c1 : c < 4294967296 := by omega
  have d1 : d < 4294967296 := by omega
  have e : (4294967295 - (d : Int)) = ((4294967295 - d : Nat) : Int) := by omega
  have n1 : 4294967295 - d < 4294967296 := by omega
  have l1 := or_lt32 b1 n1
  have l2 := xor_lt32 c1 l1
  rw [wrap64_in _ (by omega), e, or_i64 b1 n1, xor_i64 c1 l1]
  simp only [mix]
  rw [not_u32 d d1, or_u32 b1 n1, xor_u32 c1 l1]
  exact ⟨rfl, by omega, by omega⟩
theorem mix_bd (k : Nat) (hk : k < 4) {b c d : Int} (hb : 0 ≤ b ∧ b < 4294967296) (hc : 0 ≤ c ∧ c < 4294967296) (hd : 0 ≤ d ∧ d < 4294967296) : 0 ≤ mix k b c d ∧ mix k b c d < 4294967296 := by
  rcases k with _ | _ | _ | _ | k
  · exact (mix0 hb hc hd).2
  · exact (mix1' hb hc hd).2
  · exact (mix2' hb hc hd).2
  · exact (mix3' hb hc hd).2
  · omega
theorem tmod4 (k j : Nat) : Int.tmod (16 * (k : Int) + j) 4 = ((j % 4 : Nat) : Int) := by
  rw [Int.tmod_eq_emod_of_nonneg (by omega)]
  omega
theorem turns4 (k j : Nat) (hk : k < 4) : turnOf k j = rd (([[7, 12, 17, 22], [5, 9, 14, 20], [4, 11, 16, 23], [6, 10, 15, 21]] : List (List Int)).getD k []) ((j % 4 : Nat) : Int) := by
  have e : turnOf k j = turnOf k (j % 4) := by simp [turnOf]
  rw [e]
  have h4 : j % 4 < 4 := Nat.mod_lt _ (by omega)
  generalize j % 4 = m at h4
  have hall : ∀ k : Nat, k < 4 → ∀ m : Nat, m < 4 → turnOf k m = rd (([[7, 12, 17, 22], [5, 9, 14, 20], [4, 11, 16, 23], [6, 10, 15, 21]] : List (List Int)).getD k []) (m : Int) := by decide
  exact hall k hk m h4
theorem step_val (k j : Nat) (hk : k < 4) (hj : j < 16) {b c d : Int} (hb : 0 ≤ b ∧ b < 4294967296) (hc : 0 ≤ c ∧ c < 4294967296) (hd : 0 ≤ d ∧ d < 4294967296) :
    GDig.serinetteref05_Step.f (16 * (k : Int) + j) b c d = some (mix k b c d, (idxOf k j : Int), turnOf k j) := by
  have h4 : j % 4 < 4 := Nat.mod_lt _ (by omega)
  unfold GDig.serinetteref05_Step.f
  rw [tmod4, turns4 k j hk]
  rcases k with _ | _ | _ | _ | k
  · have ei : ((idxOf 0 j : Nat) : Int) = 16 * ((0 : Nat) : Int) + j := by simp only [idxOf]; show ((((1 : Int) * (16 * ((0 : Nat) : Int) + j) + 0) % 16).toNat : Int) = _; omega
    rw [if_pos (by omega), Option.bind_some, if_pos (by omega), if_pos (by simp; omega), ei, (mix0 hb hc hd).1]
    rfl
  · have ei : ((idxOf 1 j : Nat) : Int) = Int.tmod (wrap64 ((wrap64 (5 * (16 * (((0 + 1 : Nat)) : Int) + j))) + 1)) 16 := by
      rw [wrap64_in (5 * (16 * (((0 + 1 : Nat)) : Int) + j)) (by omega), wrap64_in _ (by omega), Int.tmod_eq_emod_of_nonneg (by omega)]
      simp only [idxOf]; show ((((5 : Int) * (16 * ((1 : Nat) : Int) + j) + 1) % 16).toNat : Int) = _; omega
    rw [if_neg (by omega), if_pos (by omega), Option.bind_some, if_pos (by omega), if_pos (by simp; omega), ei, (mix1' hb hc hd).1]
    rfl
  · have ei : ((idxOf 2 j : Nat) : Int) = Int.tmod (wrap64 ((wrap64 (3 * (16 * (((0 + 1 + 1 : Nat)) : Int) + j))) + 5)) 16 := by
      rw [wrap64_in (3 * (16 * (((0 + 1 + 1 : Nat)) : Int) + j)) (by omega), wrap64_in _ (by omega), Int.tmod_eq_emod_of_nonneg (by omega)]
      simp only [idxOf]; show ((((3 : Int) * (16 * ((2 : Nat) : Int) + j) + 5) % 16).toNat : Int) = _; omega
    rw [if_neg (by omega), if_neg (by omega), if_pos (by omega), Option.bind_some, if_pos (by omega), if_pos (by simp; omega), ei, (mix2' hb hc hd).1]
    rfl
  · have ei : ((idxOf 3 j : Nat) : Int) = Int.tmod (wrap64 (7 * (16 * (((0 + 1 + 1 + 1 : Nat)) : Int) + j))) 16 := by
      rw [wrap64_in _ (by omega), Int.tmod_eq_emod_of_nonneg (by omega)]
      simp only [idxOf]; show ((((7 : Int) * (16 * ((3 : Nat) : Int) + j) + 0) % 16).toNat : Int) = _; omega
    rw [if_neg (by omega), if_neg (by omega), if_neg (by omega), Option.bind_some, if_pos (by omega), if_pos (by simp; omega), ei, (mix3' hb hc hd).1]
    rfl
  · omega
/-- The text, filled. -/
def zeros (l : Nat) : Nat := (120 - (l + 1) % 64) % 64
def fillP (l : List Int) : List Int := l ++ [128] ++ List.replicate (zeros l.length) 0 ++ part (8 * (l.length : Int)) 8 8
theorem pow_nn (i : Nat) : (0 : Int) ≤ 2 ^ i := by exact_mod_cast Nat.zero_le (2 ^ i)
theorem fill_l1 (n : Nat) : ∀ (d i k : Nat) (x : List Int), i + d = 8 → d < k → x.length < 1000000 → n < 1000000 →
    GDig.serinetteref05_Fill.l1 k (x ++ (part (n : Int) 8 8).take i) ((n : Int) / 2 ^ (8 * i)) (i : Int) = some (x ++ part (n : Int) 8 8)
  | 0, i, k + 1, x, hd, hk, hx, hn => by
    obtain rfl : i = 8 := by omega
    unfold GDig.serinetteref05_Fill.l1
    rw [if_neg (by decide), List.take_of_length_le (by rw [part_len]; omega)]
  | d + 1, i, k + 1, x, hd, hk, hx, hn => by
    unfold GDig.serinetteref05_Fill.l1
    have hlt : i < 8 := by omega
    have hp := part_len (n : Int) 8 8
    have h0 : (0 : Int) ≤ (n : Int) / 2 ^ (8 * i) := Int.ediv_nonneg (by omega) (pow_nn _)
    have h1 : (n : Int) / 2 ^ (8 * i) ≤ n := Int.ediv_le_self _ (by omega)
    rw [if_pos (by omega), if_pos (by rw [List.length_append, List.length_take, hp]; omega)]
    rw [Int.tmod_eq_emod_of_nonneg h0, Int.emod_emod_of_dvd _ (Int.dvd_refl 256), Int.tdiv_eq_ediv_of_nonneg h0, wrap64_in _ (by have := Int.ediv_nonneg h0 (show (0 : Int) ≤ 256 by omega); have := Int.ediv_le_self 256 h0; omega), wrap64_in ((i : Int) + 1) (by omega)]
    have e1 : (n : Int) / 2 ^ (8 * i) / 256 = (n : Int) / 2 ^ (8 * (i + 1)) := by
      rw [Int.ediv_ediv_of_nonneg (pow_nn _)]
      congr 1
      rw [show 8 * (i + 1) = 8 * i + 8 by omega, Int.pow_add]
      rfl
    have e2 : (x ++ (part (n : Int) 8 8).take i) ++ [(n : Int) / 2 ^ (8 * i) % 256] = x ++ (part (n : Int) 8 8).take (i + 1) := by
      rw [List.append_assoc]
      congr 1
      rw [List.take_add_one]
      congr 1
      have : (part (n : Int) 8 8)[i]? = some ((n : Int) / 2 ^ (8 * i) % 256) := by
        unfold part
        rw [List.getElem?_map, List.getElem?_range hlt, Option.map_some, if_pos hlt]
      rw [this]
      rfl
    rw [e1, e2]
    exact fill_l1 n d (i + 1) k x (by omega) (by omega) hx hn
theorem fill_l0 (l : List Int) (hl : l.length ≤ 1000) : ∀ (d k : Nat) (x : List Int), x.length % 64 + d = (if x.length % 64 ≤ 56 then 56 else 120) → d + 20 < k → x.length + d ≤ 2000 →
    GDig.serinetteref05_Fill.l0 k l x = some (x ++ List.replicate d 0 ++ part (8 * (l.length : Int)) 8 8)
  | 0, k + 1, x, hd, hk, hx => by
    unfold GDig.serinetteref05_Fill.l0
    rw [if_pos (by split at hd <;> omega)]
    have e : (8 * (l.length : Int)) = ((8 * l.length : Nat) : Int) := by omega
    rw [wrap64_in _ (by omega), e]
    have := fill_l1 (8 * l.length) 8 0 k x (by omega) (by omega) (by omega) (by omega)
    simp only [List.take_zero, List.append_nil] at this
    have e2 : ((8 * l.length : Nat) : Int) / 2 ^ (8 * 0) = ((8 * l.length : Nat) : Int) := by simp
    rw [e2] at this
    rw [List.replicate_zero, List.append_nil]
    exact this
  | d + 1, k + 1, x, hd, hk, hx => by
    unfold GDig.serinetteref05_Fill.l0
    rw [if_neg (by split at hd <;> omega), if_pos (by omega)]
    rw [fill_l0 l hl d k (x ++ [0]) (by rw [List.length_append, List.length_singleton]; split at hd <;> split <;> omega) (by omega) (by rw [List.length_append, List.length_singleton]; omega)]
    rw [List.replicate_succ, List.append_assoc x [0]]
    rfl
theorem fill_val (l : List Int) (hl : l.length ≤ 1000) : GDig.serinetteref05_Fill.f 200 l = some (fillP l) := by
  unfold GDig.serinetteref05_Fill.f
  rw [Option.bind_some, if_pos (by simp; omega), Option.bind_some, List.nil_append, if_pos (by omega)]
  have := fill_l0 l hl (zeros l.length) 200 (l ++ [128]) (by rw [List.length_append, List.length_singleton]; unfold zeros; split <;> omega) (by unfold zeros; omega) (by rw [List.length_append, List.length_singleton]; unfold zeros; omega)
  exact this
theorem fillP_len (l : List Int) : (fillP l).length % 64 = 0 := by
  unfold fillP
  rw [List.length_append, List.length_append, List.length_append, List.length_singleton, List.length_replicate, part_len]
  unfold zeros
  omega
theorem fillP_le (l : List Int) : (fillP l).length ≤ l.length + 73 := by
  unfold fillP
  rw [List.length_append, List.length_append, List.length_append, List.length_singleton, List.length_replicate, part_len]
  unfold zeros
  omega
theorem part_byte (n : Int) (a b : Nat) : ∀ x ∈ part n a b, 0 ≤ x ∧ x < 256 := fun x hx => by
  simp only [part, List.mem_map] at hx
  obtain ⟨j, _, rfl⟩ := hx
  split <;> omega
theorem fillP_byte (l : List Int) (h : ∀ x ∈ l, 0 ≤ x ∧ x < 256) : ∀ x ∈ fillP l, 0 ≤ x ∧ x < 256 := fun x hx => by
  unfold fillP at hx
  rcases List.mem_append.1 hx with hx | hx
  · rcases List.mem_append.1 hx with hx | hx
    · rcases List.mem_append.1 hx with hx | hx
      · exact h x hx
      · simp only [List.mem_singleton] at hx; omega
    · have := (List.mem_replicate.1 hx).2; omega
  · exact part_byte _ _ _ x hx
/-- Noughts: the state that padK leaves is that of the text with its noughts. -/
theorem padK_stt : ∀ (d k : Nat) (x : List Int), x.length % 64 + d = (if x.length % 64 ≤ 56 then 56 else 120) → d ≤ k → padK k (stt x) = stt (x ++ List.replicate d 0)
  | 0, k, x, hd, _ => by
    have hl : (stt x).2.length = x.length % 64 := (feed_len _ init x (Nat.le_refl _)).2.2.2
    rw [padK_done (by rw [hl]; split at hd <;> omega), List.replicate_zero, List.append_nil]
  | d + 1, k + 1, x, hd, hk => by
    have hl : (stt x).2.length = x.length % 64 := (feed_len _ init x (Nat.le_refl _)).2.2.2
    rw [padK_step (by rw [hl]; split at hd <;> omega), stt_add, padK_stt d k (x ++ [0]) (by rw [List.length_append, List.length_singleton]; split at hd <;> split <;> omega) (by omega)]
    rw [List.replicate_succ, List.append_assoc]
    rfl
theorem sum_fill (l : List Int) : sumP (stt l).1 (stt l).2 (l.length : Int) = (stt (fillP l)).1 := by
  unfold sumP
  rw [stt_add, padK_stt (zeros l.length) 128 (l ++ [128]) (by rw [List.length_append, List.length_singleton]; unfold zeros; split <;> omega) (by unfold zeros; omega)]
  show (feed (stt _).1 ((stt _).2 ++ _)).1 = _
  rw [stt_add]
  rfl
theorem ofP_fill (l : List Int) : ofP l = outP (stt (fillP l)).1 := by unfold ofP; rw [sum_fill]
theorem stt_block (x : List Int) (k : Nat) (h : 64 * (k + 1) ≤ x.length) : (stt (x.take (64 * (k + 1)))).1 = eatP ((x.drop (64 * k)).take 64) (stt (x.take (64 * k))).1 := by
  have e : x.take (64 * (k + 1)) = x.take (64 * k) ++ (x.drop (64 * k)).take 64 := by
    rw [show 64 * (k + 1) = 64 * k + 64 by omega, List.take_add]
  have hl : (stt (x.take (64 * k))).2.length = 0 := by
    show (feed init (x.take (64 * k))).2.length = 0
    rw [(feed_len _ init (x.take (64 * k)) (Nat.le_refl _)).2.2.2, List.length_take]; omega
  have hb : ((x.drop (64 * k)).take 64).length = 64 := by rw [List.length_take, List.length_drop]; omega
  rw [e, ← stt_add, List.eq_nil_of_length_eq_zero hl, List.nil_append]
  generalize (x.drop (64 * k)).take 64 = b at hb
  have t1 : b.take 64 = b := List.take_of_length_le (by omega)
  have t2 : b.drop 64 = [] := List.drop_of_length_le (by omega)
  rw [feed_step (by omega), t1, t2, feed_done (by simp)]
end Go.Proofs.YtldeigekagpekaaDoor.Dg
