/- The document's two checks are what the program's tables tell. Conditions: bytes from 0 to 255, a register that fits. -/
import Derived.Test.YtafnlnmhjgnddaaPChecksTellx1
import Derived.Test.YtafnlnmhjgnddaaCkMath
namespace Go.Proofs.Ytafnlnmhjgnddaa.TellMath
open Go.RowKit Go.Proofs.Ytafnlnmhjgnddaa.PChecksTell Go.Proofs.YtafnlnmhjgnddaaW.PrintWords Go.Proofs.YtafnlnmhjgnddaaW.PrintLast Go.Proofs.Ytafnlnmhjgnddaa.Ck Go.Proofs.Ytafnlnmhjgnddaa.CkMath
theorem rd_at (l : List Int) (j : Nat) (h : j < l.length) : rd l (j : Int) = l[j] := by
  unfold rd; simp [List.getD_eq_getElem?_getD, List.getElem?_eq_getElem h]
theorem rdb_at (l : List Bool) (j : Nat) (h : j < l.length) : rdOf false l (j : Int) = l[j] := by
  unfold rdOf; simp [List.getD_eq_getElem?_getD, List.getElem?_eq_getElem h]
theorem wrap_id {n : Int} (h0 : -9223372036854775808 ≤ n) (h1 : n ≤ 9223372036854775807) : wrap64 n = n := by unfold wrap64; omega
theorem digits_all : ∀ n, n < 256 → serinetteref01_Digits.f 12 ((n : Nat) : Int) 8 = some (bits8 n) := by decide +kernel
theorem digits_is (n : Nat) (h : n < 256) : Ev (fun k => serinetteref01_Digits.f k ((n : Nat) : Int) 8) (bits8 n) := Ev.of (serinetteref01_Digits.mono _ _) (digits_all n h)
theorem u64_wrap {n : Int} (h0 : 0 ≤ n) (h1 : n < 256) : IntKind.u64.wrap n = n := by rw [IntKind.wrap_u64]; omega
theorem bitsL_snoc (l : List Int) (x : Int) : bitsL (l ++ [x]) = bitsL l ++ bits8 x.toNat := by rw [bitsL_append]; show _ ++ (_ ++ []) = _; rw [List.append_nil]
theorem bitsL_len : ∀ a : List Int, (bitsL a).length = 8 * a.length
  | [] => rfl
  | x :: a => by
    show (bits8 x.toNat ++ bitsL a).length = _
    rw [List.length_append, bits8_len, bitsL_len a]; simp; omega
theorem bits_loop (l : List Int) (hl : l.length ≤ 200) (hb : ∀ x ∈ l, 0 ≤ x ∧ x < 256) (d : Nat) : ∀ j : Nat, l.length - j = d → j ≤ l.length → Ev (fun k => serinetteref01_Bits.l0 k l (bitsL (l.take j)) (j : Int)) (bitsL l) := by
  induction d with
  | zero =>
    intro j hd hj
    obtain rfl : j = l.length := by omega
    rw [List.take_length]
    exact Ev.step (f := fun _ => some (bitsL l)) (fun k => by simp only [serinetteref01_Bits.l0]; rw [if_neg (by omega)]) (Ev.now _)
  | succ d ih =>
    intro j hd hj
    have hlt : j < l.length := by omega
    have hx := hb _ (List.getElem_mem hlt)
    have hlen : (bitsL (l.take j)).length = 8 * j := by rw [bitsL_len]; simp; omega
    obtain ⟨n, hn⟩ := Int.eq_ofNat_of_zero_le hx.1
    refine Ev.step (fun k => by simp only [serinetteref01_Bits.l0]; rw [if_pos (by omega), if_pos (by omega), rd_at l j hlt, u64_wrap hx.1 hx.2, hn]) (Ev.bind (digits_is n (by omega)) ?_)
    have := ih (j + 1) (by omega) (by omega)
    rw [List.take_succ_eq_append_getElem hlt, bitsL_snoc, hn, Int.toNat_natCast] at this
    refine Ev.congr (fun k => ?_) this
    rw [if_pos (by rw [hlen, bits8_len]; omega), wrap_id (n := (j : Int) + 1) (by omega) (by omega)]; rfl
theorem bits_is (l : List Int) (hl : l.length ≤ 200) (hb : ∀ x ∈ l, 0 ≤ x ∧ x < 256) : Ev (fun k => serinetteref01_Bits.f k l) (bitsL l) := by
  have := bits_loop l hl hb l.length 0 (by omega) (by omega)
  simpa [serinetteref01_Bits.f, bitsL] using this
theorem pow_bd (w : Nat) (h : w ≤ 16) : (1 : Int) ≤ 2 ^ w ∧ (2 : Int) ^ w ≤ 65536 := by
  rcases w with _ | _ | _ | _ | _ | _ | _ | _ | _ | _ | _ | _ | _ | _ | _ | _ | _ | w
  all_goals first | decide | omega
theorem go_size (w : Nat) (hw : w ≤ 16) (c by_ : Int) (L : List Bool) (r) (hk : Ev (fun k => serinetteref04_Go.l1 k c L by_ (2 ^ w) 0) r) (d : Nat) : ∀ j : Nat, w - j = d → j ≤ w →
    Ev (fun k => serinetteref04_Go.l0 k c L (w : Int) by_ (2 ^ j) (j : Int)) r := by
  induction d with
  | zero =>
    intro j hd hj
    obtain rfl : j = w := by omega
    exact Ev.step (fun k => by simp only [serinetteref04_Go.l0]; rw [if_neg (by omega)]) hk
  | succ d ih =>
    intro j hd hj
    have hp := pow_bd j (by omega)
    refine Ev.step (fun k => ?_) (ih (j + 1) (by omega) (by omega))
    simp only [serinetteref04_Go.l0]
    rw [if_pos (by omega), wrap_id (n := 2 * 2 ^ j) (by omega) (by omega), wrap_id (n := (j : Int) + 1) (by omega) (by omega), Int.pow_succ, Int.mul_comm]; rfl
theorem i64_xor (a b : Nat) (ha : a < 65536) (hb : b < 65536) : bits .xor .i64 ((a : Nat) : Int) ((b : Nat) : Int) = ((a ^^^ b : Nat) : Int) := by
  have hx : a ^^^ b < 2 ^ 16 := Nat.xor_lt_two_pow (by omega) (by omega)
  have h1 : (BitVec.ofInt 64 (a : Int)).toNat = a := by
    rw [BitVec.ofInt_natCast, BitVec.toNat_ofNat]; exact Nat.mod_eq_of_lt (by omega)
  have h2 : (BitVec.ofInt 64 (b : Int)).toNat = b := by
    rw [BitVec.ofInt_natCast, BitVec.toNat_ofNat]; exact Nat.mod_eq_of_lt (by omega)
  show IntKind.i64.wrap ((BitVec.ofInt 64 (a : Int) ^^^ BitVec.ofInt 64 (b : Int)).toNat : Int) = _
  rw [BitVec.toNat_xor, h1, h2, IntKind.wrap_i64]
  omega
theorem go_loop_ (w b : Nat) (hw0 : 1 ≤ w) (hw : w ≤ 16) (hb : b < 2 ^ w) (L : List Bool) (hL : L.length ≤ 1600) (d : Nat) : ∀ (j c : Nat), L.length - j = d → j ≤ L.length → c < 2 ^ w →
    Ev (fun k => serinetteref04_Go.l1 k ((c : Nat) : Int) L ((b : Nat) : Int) (2 ^ w) (j : Int)) ((run w b c (L.drop j) : Nat) : Int) := by
  have hpw := pow_bd w hw
  have hcast : ((2 ^ w : Nat) : Int) = 2 ^ w := by push_cast; rfl
  induction d with
  | zero =>
    intro j c hd hj hc
    obtain rfl : j = L.length := by omega
    rw [List.drop_length]
    exact Ev.step (f := fun _ => some _) (fun k => by simp only [serinetteref04_Go.l1]; rw [if_neg (by omega)]; rfl) (Ev.now _)
  | succ d ih =>
    intro j c hd hj hc
    have hlt : j < L.length := by omega
    rw [List.drop_eq_getElem_cons hlt, run_cons]
    refine Ev.step (fun k => ?_) (ih (j + 1) (st w b c L[j]) (by omega) (by omega) (st_lt w b c _ hb))
    have t := top_bit w c hw0 hc
    have e2 : 2 ^ w = 2 * 2 ^ (w - 1) := by
      obtain ⟨v, rfl⟩ : ∃ v, w = v + 1 := ⟨w - 1, by omega⟩
      rw [Nat.add_sub_cancel, Nat.pow_succ, Nat.mul_comm]
    have eh : decide (2 * ((c : Nat) : Int) ≥ 2 ^ w) = c.testBit (w - 1) := by
      rw [t]
      by_cases h : 2 ^ (w - 1) ≤ c
      · rw [decide_eq_true h]; exact decide_eq_true (by rw [← hcast]; omega)
      · rw [decide_eq_false h]; exact decide_eq_false (by rw [← hcast]; omega)
    have em : Int.tmod (2 * ((c : Nat) : Int)) (2 ^ w) = ((2 * c % 2 ^ w : Nat) : Int) := by
      rw [Int.tmod_eq_emod_of_nonneg (by omega), ← hcast, Int.natCast_emod, Int.natCast_mul]; rfl
    have hm : 2 * c % 2 ^ w < 2 ^ w := Nat.mod_lt _ (Nat.two_pow_pos w)
    simp only [serinetteref04_Go.l1]
    rw [if_pos (by omega), if_neg (by omega), if_pos (by omega), wrap_id (n := 2 * ((c : Nat) : Int)) (by omega) (by omega), eh, rdb_at L j hlt, em, wrap_id (n := (j : Int) + 1) (by omega) (by omega), i64_xor _ _ (by omega) (by omega)]
    unfold st
    by_cases h : (c.testBit (w - 1) != L[j]) = true
    · rw [if_pos h, if_pos h]; rfl
    · rw [if_neg h, if_neg h, Nat.xor_zero]; rfl
theorem ref_eight (c : Int) (l : List Int) (c0 : 0 ≤ c) (c1 : c < 256) (hl : l.length ≤ 200) (hb : ∀ x ∈ l, 0 ≤ x ∧ x < 256) : Ev (fun k => serinetteref04_Eight.f k c l) (e8 c l) := by
  obtain ⟨n, rfl⟩ := Int.eq_ofNat_of_zero_le c0
  have hlen := bitsL_len l
  have k1 := lt8 (bitsL l) n (by omega)
  have hg : Ev (fun k => serinetteref04_Go.f k ((n : Nat) : Int) (bitsL l) 8 7) ((run 8 7 n (bitsL l) : Nat) : Int) := go_size 8 (by omega) _ _ _ _ (go_loop_ 8 7 (by omega) (by omega) (by omega) (bitsL l) (by omega) (bitsL l).length 0 n (by omega) (by omega) (by omega)) 8 0 (by omega) (by omega)
  rw [e8_is l n (by omega) hb]
  refine Ev.bind (bits_is l hl hb) ?_
  rw [wrap_id (by omega) (by omega)]
  refine Ev.bind hg (Ev.congr (f := fun _ => some _) (fun k => ?_) (Ev.now _))
  congr 1; omega
theorem ref_sixteen (c : Int) (l : List Int) (c0 : 0 ≤ c) (c1 : c < 65536) (hl : l.length ≤ 200) (hb : ∀ x ∈ l, 0 ≤ x ∧ x < 256) : Ev (fun k => serinetteref04_Sixteen.f k c l) (e16 c l) := by
  obtain ⟨n, rfl⟩ := Int.eq_ofNat_of_zero_le c0
  have hlen := bitsL_len l
  have k1 := lt16 (bitsL l) n (by omega)
  have hg : Ev (fun k => serinetteref04_Go.f k ((n : Nat) : Int) (bitsL l) 16 32773) ((run 16 32773 n (bitsL l) : Nat) : Int) := go_size 16 (by omega) _ _ _ _ (go_loop_ 16 32773 (by omega) (by omega) (by omega) (bitsL l) (by omega) (bitsL l).length 0 n (by omega) (by omega) (by omega)) 16 0 (by omega) (by omega)
  rw [e16_is l n (by omega) hb]
  refine Ev.bind (bits_is l hl hb) ?_
  rw [wrap_id (by omega) (by omega)]
  refine Ev.bind hg (Ev.congr (f := fun _ => some _) (fun k => ?_) (Ev.now _))
  congr 1; rw [IntKind.wrap_u16]; omega
end Go.Proofs.Ytafnlnmhjgnddaa.TellMath
