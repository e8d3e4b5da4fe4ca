/- The call of ChecksBursts answers true for all bytes, places and patterns: what differs within 8 bits in a row, or 16, has another check. No condition beyond what a Go value can be. -/
import Derived.Test.YtafnlnmhjgnddaaGChecksBurstsx1
import Derived.Test.YtafnlnmhjgnddaaCkMath
namespace Go.Proofs.Ytafnlnmhjgnddaa.Pure
open Go.RowKit Go.Proofs.Ytafnlnmhjgnddaa.GChecksBursts Go.Proofs.YtafnlnmhjgnddaaW.PrintWords Go.Proofs.YtafnlnmhjgnddaaW.PrintLast Go.Proofs.Ytafnlnmhjgnddaa.Ck Go.Proofs.Ytafnlnmhjgnddaa.CkMath
namespace BurstsAid
theorem u8_wf {x : Int} (h : (Lit.int .u8 x).wf = true) : 0 ≤ x ∧ x < 256 := by
  have e1 : IntKind.u8.min = 0 := by decide
  have e2 : IntKind.u8.max = 255 := by decide
  simp [Lit.wf, e1, e2] at h; omega
theorem u16_wf {x : Int} (h : (Lit.int .u16 x).wf = true) : 0 ≤ x ∧ x < 65536 := by
  have e1 : IntKind.u16.min = 0 := by decide
  have e2 : IntKind.u16.max = 65535 := by decide
  simp [Lit.wf, e1, e2] at h; omega
theorem eight {l : List Int} (h : Given.Bytes l) : Given.checks_Eight.f l = some ((run 8 7 0 (bitsL l) : Nat) : Int) := by
  unfold Given.checks_Eight.f; rw [if_pos h]; congr 1; exact e8_is l 0 (by omega) h
theorem sixteen {l : List Int} (h : Given.Bytes l) : Given.checks_Sixteen.f l = some ((run 16 32773 0 (bitsL l) : Nat) : Int) := by
  unfold Given.checks_Sixteen.f; rw [if_pos h]; congr 1; exact e16_is l 0 (by omega) h
theorem rd_at (l : List Int) (j : Nat) (h : j < l.length) : rd l (j : Int) = l[j] := by
  unfold rd; simp [List.getD_eq_getElem?_getD, List.getElem?_eq_getElem h]
theorem wrap_id {n : Int} (h0 : -9223372036854775808 ≤ n) (h1 : n ≤ 9223372036854775807) : wrap64 n = n := by unfold wrap64; omega

abbrev zs (n : Nat) : List Bool := List.replicate n false
theorem xorL_zeros' : ∀ l : List Bool, xorL l (zs l.length) = l
  | [] => rfl
  | b :: l => by
    show (b != false) :: xorL l (zs l.length) = b :: l
    rw [xorL_zeros' l]; simp
theorem xorL_len (a b : List Bool) (h : a.length = b.length) : (xorL a b).length = a.length := by simp [xorL, h]
/-- One bit. -/
def sg (n p : Nat) : List Bool := zs p ++ true :: zs (n - 1 - p)
theorem sg_len (n p : Nat) (h : p < n) : (sg n p).length = n := by simp [sg]; omega
theorem bitsL_len : ∀ a : List Int, (bitsL a).length = 8 * a.length
  | [] => rfl
  | x :: a => by
    show (bits8 x.toNat ++ bitsL a).length = _
    rw [List.length_append, bits8_len, bitsL_len a]; simp; omega
theorem mask_bits : ∀ r, r < 8 → bits8 (128 / 2 ^ r) = zs r ++ true :: zs (7 - r) := by decide
/-- One bit of one byte is another. -/
theorem flip (l : List Int) (q r : Nat) (hq : q < l.length) (hr : r < 8) (hb : Given.Bytes l) :
    bitsL (l.set q (bits .xor .u8 l[q] ((128 / 2 ^ r : Nat) : Int))) = xorL (bitsL l) (sg (8 * l.length) (8 * q + r)) := by
  have hx := hb _ (List.getElem_mem hq)
  have hm : 128 / 2 ^ r < 256 := Nat.lt_of_le_of_lt (Nat.div_le_self _ _) (by omega)
  have e1 : l.set q (bits .xor .u8 l[q] ((128 / 2 ^ r : Nat) : Int)) = l.take q ++ (bits .xor .u8 l[q] ((128 / 2 ^ r : Nat) : Int)) :: l.drop (q + 1) := by
    rw [List.set_eq_take_append_cons_drop, if_pos hq]
  have e2 : l = l.take q ++ l[q] :: l.drop (q + 1) := by
    rw [← List.drop_eq_getElem_cons hq, List.take_append_drop]
  have e3 : sg (8 * l.length) (8 * q + r) = zs (8 * q) ++ (bits8 (128 / 2 ^ r) ++ zs (8 * (l.length - q - 1))) := by
    rw [mask_bits r hr]
    unfold sg
    rw [show zs (8 * q + r) = zs (8 * q) ++ zs r from (List.replicate_append_replicate).symm, show 8 * l.length - 1 - (8 * q + r) = (7 - r) + 8 * (l.length - q - 1) by omega,
      show zs (7 - r + 8 * (l.length - q - 1)) = zs (7 - r) ++ zs (8 * (l.length - q - 1)) from (List.replicate_append_replicate).symm]
    simp only [List.append_assoc, List.cons_append]
  have e4 : bitsL l = bitsL (l.take q) ++ (bits8 l[q].toNat ++ bitsL (l.drop (q + 1))) := by
    conv => lhs; rw [e2]
    rw [bitsL_append]; rfl
  have e5 : bitsL (l.take q ++ (bits .xor .u8 l[q] ((128 / 2 ^ r : Nat) : Int)) :: l.drop (q + 1)) = bitsL (l.take q) ++ (bits8 (bits .xor .u8 l[q] ((128 / 2 ^ r : Nat) : Int)).toNat ++ bitsL (l.drop (q + 1))) := by
    rw [bitsL_append]; rfl
  have l1 : (bitsL (l.take q)).length = 8 * q := by rw [bitsL_len]; simp; omega
  have l2 : (bitsL (l.drop (q + 1))).length = 8 * (l.length - q - 1) := by rw [bitsL_len]; simp; omega
  rw [e1, e5, e3, e4, xorL_append _ _ _ _ (by rw [l1]; simp), xorL_append _ _ _ _ (by simp [bits8_len]), ← bits8_xor]
  rw [show zs (8 * q) = zs (bitsL (l.take q)).length by rw [l1], xorL_zeros', show zs (8 * (l.length - q - 1)) = zs (bitsL (l.drop (q + 1))).length by rw [l2], xorL_zeros']
  generalize 128 / 2 ^ r = mm at *
  rw [u8_xor _ _ hx.1 hx.2 (Int.natCast_nonneg _) (by omega), Int.toNat_natCast, Int.toNat_natCast]
theorem flip_bytes (l : List Int) (q : Nat) (m : Int) (hb : Given.Bytes l) : Given.Bytes (l.set q (bits .xor .u8 (l.getD q 0) m)) := by
  intro x hx
  rcases List.mem_or_eq_of_mem_set hx with h | rfl
  · exact hb x h
  · exact u8_bd _ _
/-- Bits in a row, from the k-th of n on. -/
def row (n k : Nat) (P : List Bool) : List Bool := zs k ++ (P ++ zs (n - k - P.length))
theorem row_len (n k : Nat) (P : List Bool) (h : k + P.length ≤ n) : (row n k P).length = n := by simp [row]; omega
theorem row_snoc (n k : Nat) (P : List Bool) (b : Bool) (h : k + P.length < n) : row n k (P ++ [b]) = xorL (row n k P) (if b = true then sg n (k + P.length) else zs n) := by
  obtain ⟨m, hm⟩ : ∃ m, n - k - P.length = m + 1 := ⟨n - k - P.length - 1, by omega⟩
  have e1 : n - k - (P ++ [b]).length = m := by simp; omega
  have hz : ∀ a : Nat, ∀ c : Nat, zs (a + c) = zs a ++ zs c := fun a c => (List.replicate_append_replicate).symm
  unfold row
  rw [e1, hm]
  cases b
  · have e2 : zs n = zs (zs k ++ (P ++ zs (m + 1))).length := by congr 1; simp; omega
    simp only [Bool.false_eq_true, if_false]
    rw [e2, xorL_zeros', show zs (m + 1) = false :: zs m from List.replicate_succ]
    simp
  · simp only [if_true]
    have e2 : sg n (k + P.length) = zs k ++ (zs P.length ++ (true :: zs m)) := by
      unfold sg
      rw [hz, show n - 1 - (k + P.length) = m by omega]; simp only [List.append_assoc]
    rw [e2, xorL_append _ _ _ _ rfl, xorL_append _ _ _ _ (by simp), xorL_zeros', show zs (m + 1) = false :: zs m from List.replicate_succ]
    have e3 : xorL (zs k) (zs k) = zs k := by rw [xorL_same]; simp
    have e4 : xorL (false :: zs m) (true :: zs m) = true :: zs m := by
      show (false != true) :: xorL (zs m) (zs m) = _
      rw [xorL_same]; simp
    rw [e3, e4]; simp
def num8 (a b c d e f g h : Bool) : Nat := 128 * a.toNat + 64 * b.toNat + 32 * c.toNat + 16 * d.toNat + 8 * e.toNat + 4 * f.toNat + 2 * g.toNat + h.toNat
theorem num8_lt (a b c d e f g h : Bool) : num8 a b c d e f g h < 256 := by revert a b c d e f g h; decide +kernel
theorem bits_num8 (a b c d e f g h : Bool) : bits8 (num8 a b c d e f g h) = [a, b, c, d, e, f, g, h] := by revert a b c d e f g h; decide +kernel
theorem num8_zero (a b c d e f g h : Bool) : num8 a b c d e f g h = 0 ↔ ([a, b, c, d, e, f, g, h].any id = false) := by revert a b c d e f g h; decide +kernel
theorem eight_of : ∀ L : List Bool, L.length = 8 → ∃ a b c d e f g h, L = [a, b, c, d, e, f, g, h]
  | [a, b, c, d, e, f, g, h], _ => ⟨a, b, c, d, e, f, g, h, rfl⟩
/-- Eight bits leave 0 if none is set alone; so do sixteen. -/
theorem none8 (L : List Bool) (hL : L.length = 8) : run 8 7 0 L = 0 ↔ L.any id = false := by
  obtain ⟨a, b, c, d, e, f, g, h, rfl⟩ := eight_of L hL
  rw [← bits_num8, enter8 0 _ (by omega) (num8_lt ..), bits_num8, ← num8_zero]
  exact eq_comm
theorem none16 (L : List Bool) (hL : L.length = 16) : run 16 32773 0 L = 0 ↔ L.any id = false := by
  obtain ⟨a, b, c, d, e, f, g, h, h1⟩ := eight_of (L.take 8) (by simp [hL])
  obtain ⟨a', b', c', d', e', f', g', h', h2⟩ := eight_of (L.drop 8) (by simp [hL])
  have hs : L = [a, b, c, d, e, f, g, h] ++ [a', b', c', d', e', f', g', h'] := by rw [← h1, ← h2, List.take_append_drop]
  have n1 := num8_lt a b c d e f g h
  have n2 := num8_lt a' b' c' d' e' f' g' h'
  have z1 := num8_zero a b c d e f g h
  have z2 := num8_zero a' b' c' d' e' f' g' h'
  have hb : L = bits16 (256 * num8 a b c d e f g h + num8 a' b' c' d' e' f' g' h') := by
    unfold bits16
    rw [show (256 * num8 a b c d e f g h + num8 a' b' c' d' e' f' g' h') / 256 = num8 a b c d e f g h by omega, show (256 * num8 a b c d e f g h + num8 a' b' c' d' e' f' g' h') % 256 = num8 a' b' c' d' e' f' g' h' by omega, bits_num8, bits_num8]
    exact hs
  have ha : L.any id = false ↔ ([a, b, c, d, e, f, g, h].any id = false ∧ [a', b', c', d', e', f', g', h'].any id = false) := by
    rw [hs, List.any_append, Bool.or_eq_false_iff]
  rw [ha, ← z1, ← z2]
  rw [hb, enter16 0 _ (by omega) (by omega)]
  constructor
  · intro h; omega
  · rintro ⟨h, h'⟩; omega
theorem any_zeros (n : Nat) (P : List Bool) : (zs n ++ P).any id = P.any id := by
  rw [List.any_append]
  have : (zs n).any id = false := by rw [List.any_eq_false]; intro x hx; simp [List.mem_replicate] at hx; simp [hx]
  rw [this, Bool.false_or]
theorem row8 (n k : Nat) (P : List Bool) (hP : P.length ≤ 8) : run 8 7 0 (row n k P) = 0 ↔ P.any id = false := by
  unfold row
  rw [run_append, run_zero, run_append]
  have k1 := lt8 P 0 (by omega)
  constructor
  · intro h
    have := run_zeros 8 7 (by decide) rfl (by decide) _ _ k1 h
    have h2 : run 8 7 0 (zs (8 - P.length) ++ P) = 0 := by rw [run_append, run_zero]; exact this
    rw [none8 _ (by simp; omega), any_zeros] at h2
    exact h2
  · intro h
    have h2 := (none8 (zs (8 - P.length) ++ P) (by simp; omega)).2 (by rw [any_zeros]; exact h)
    rw [run_append, run_zero] at h2
    rw [h2, run_zero]
theorem row16 (n k : Nat) (P : List Bool) (hP : P.length ≤ 16) : run 16 32773 0 (row n k P) = 0 ↔ P.any id = false := by
  unfold row
  rw [run_append, run_zero, run_append]
  have k1 := lt16 P 0 (by omega)
  constructor
  · intro h
    have := run_zeros 16 32773 (by decide) rfl (by decide) _ _ k1 h
    have h2 : run 16 32773 0 (zs (16 - P.length) ++ P) = 0 := by rw [run_append, run_zero]; exact this
    rw [none16 _ (by simp; omega), any_zeros] at h2
    exact h2
  · intro h
    have h2 := (none16 (zs (16 - P.length) ++ P) (by simp; omega)).2 (by rw [any_zeros]; exact h)
    rw [run_append, run_zero] at h2
    rw [h2, run_zero]
theorem xor_ne (a c : Nat) : a ^^^ c = a ↔ c = 0 := by
  constructor
  · intro h
    have : a ^^^ (a ^^^ c) = a ^^^ a := by rw [h]
    rwa [← Nat.xor_assoc, Nat.xor_self, Nat.zero_xor] at this
  · rintro rfl; simp
theorem told (a c : Nat) (b : Bool) (h : c = 0 ↔ b = false) : ((((a ^^^ c : Nat) : Int) != ((a : Nat) : Int)) == b) = true := by
  cases b
  · have : c = 0 := h.2 rfl
    subst this; simp
  · have h1 : c ≠ 0 := fun e => by have := h.1 e; simp at this
    have h2 : a ^^^ c ≠ a := fun e => h1 ((xor_ne a c).1 e)
    have : (((a ^^^ c : Nat) : Int) != ((a : Nat) : Int)) = true := by simp; omega
    rw [this]; rfl
/-- What the loop keeps: x and y differ from b by the bits that came, of x the first eight. -/
structure Keeps (b x y : List Int) (k : Nat) (P : List Bool) : Prop where
  bx : Given.Bytes x
  by_ : Given.Bytes y
  lx : x.length = b.length
  ly : y.length = b.length
  e8 : bitsL x = xorL (bitsL b) (row (8 * b.length) k (P.take 8))
  e16 : bitsL y = xorL (bitsL b) (row (8 * b.length) k P)
theorem stop (b x y : List Int) (k : Nat) (P : List Bool) (hb : Given.Bytes b) (hk : Keeps b x y k P) (hP : P.length ≤ 16) (hkP : k + P.length ≤ 8 * b.length) (by_ : Int) (kk i : Int) :
    Ev (fun n => serinettelaw04_ChecksBursts.j2 n b by_ true x y kk ((P.take 8).any id) (P.any id) i false) true := by
  have l8 := run_lin 8 7 (bitsL b) (row (8 * b.length) k (P.take 8)) 0 0 (by rw [bitsL_len, row_len]; simp; omega)
  have l16 := run_lin 16 32773 (bitsL b) (row (8 * b.length) k P) 0 0 (by rw [bitsL_len, row_len _ _ _ hkP])
  rw [Nat.xor_zero, ← hk.e8] at l8
  rw [Nat.xor_zero, ← hk.e16] at l16
  refine Ev.step (f := fun _ => some true) (fun n => ?_) (Ev.now _)
  simp only [serinettelaw04_ChecksBursts.j2]
  rw [if_neg (by decide), if_pos trivial, eight hk.bx, eight hb, sixteen hk.by_, sixteen hb, l8, l16]
  simp only [Option.bind_some]
  rw [told _ _ _ (row8 _ _ _ (by simp; omega)), told _ _ _ (row16 _ _ _ hP)]; rfl
theorem shr_mask (r : Nat) (h : r < 8) : shr .u8 128 (r : Int) = ((128 / 2 ^ r : Nat) : Int) := by
  unfold shr
  have : min (r : Int).toNat IntKind.u8.bits = r := by
    have : IntKind.u8.bits = 8 := rfl
    omega
  rw [this]; simp
theorem getD_at (l : List Int) (j : Nat) (h : j < l.length) : l.getD j 0 = l[j] := by
  simp [List.getD_eq_getElem?_getD, List.getElem?_eq_getElem h]
theorem xorL_assoc : ∀ a b c : List Bool, xorL (xorL a b) c = xorL a (xorL b c)
  | [], _, _ => by simp [xorL]
  | _ :: _, [], _ => by simp [xorL]
  | _ :: _, _ :: _, [] => by simp [xorL]
  | a :: l, b :: m, c :: n => by
    show (((a != b) != c) :: xorL (xorL l m) n) = ((a != (b != c)) :: xorL l (xorL m n))
    rw [xorL_assoc l m n]; cases a <;> cases b <;> cases c <;> rfl
theorem loop (b : List Int) (k : Nat) (hl : b.length ≤ 200) (hb : Given.Bytes b) (d : Nat) : ∀ (x y : List Int) (P : List Bool) (by_ : Int), Keeps b x y k P → P.length + d = 16 → k + P.length ≤ 8 * b.length → 0 ≤ by_ → by_ < 65536 →
    Ev (fun n => serinettelaw04_ChecksBursts.l0 n b by_ true x y (k : Int) ((P.take 8).any id) (P.any id) (P.length : Int)) true := by
  induction d with
  | zero =>
    intro x y P by_ hk hd hkP _ _
    refine Ev.step (fun n => ?_) (stop b x y k P hb hk (by omega) hkP by_ (k : Int) (P.length : Int))
    simp only [serinettelaw04_ChecksBursts.l0]; rw [if_neg (by omega)]
  | succ d ih =>
    intro x y P by_ hk hd hkP b0 b1
    refine Ev.step (fun n => by simp only [serinettelaw04_ChecksBursts.l0]; rw [if_pos (by omega), wrap_id (n := (k : Int) + P.length) (by omega) (by omega), wrap_id (n := 8 * (b.length : Int)) (by omega) (by omega)]) ?_
    by_cases hend : k + P.length = 8 * b.length
    · rw [show decide ((k : Int) + P.length < 8 * (b.length : Int)) = false by simp; omega]
      exact stop b x y k P hb hk (by omega) hkP by_ (k : Int) (P.length : Int)
    · rw [show decide ((k : Int) + P.length < 8 * (b.length : Int)) = true by simp; omega]
      have hlx := hk.lx
      have hly := hk.ly
      obtain ⟨q, hq⟩ : ∃ q : Nat, q = (k + P.length) / 8 := ⟨_, rfl⟩
      obtain ⟨r, hr⟩ : ∃ r : Nat, r = (k + P.length) % 8 := ⟨_, rfl⟩
      have hqr : 8 * q + r = k + P.length := by omega
      have hr8 : r < 8 := by omega
      have hql : q < b.length := by omega
      have em : Int.tmod ((k : Int) + P.length) 8 = (r : Int) := by rw [Int.tmod_eq_emod_of_nonneg (by omega)]; omega
      have ed : Int.tdiv ((k : Int) + P.length) 8 = (q : Int) := by rw [Int.tdiv_eq_ediv_of_nonneg (by omega)]; omega
      have e2 : Int.tmod by_ 2 = by_ % 2 := Int.tmod_eq_emod_of_nonneg b0
      have e3 : IntKind.u16.wrap (Int.tdiv by_ 2) = by_ / 2 := by rw [Int.tdiv_eq_ediv_of_nonneg b0, IntKind.wrap_u16]; omega
      have next : ∀ (bit : Bool) (x' y' : List Int), Keeps b x' y' k (P ++ [bit]) → Ev (fun n => serinettelaw04_ChecksBursts.l0 n b (by_ / 2) true x' y' (k : Int) (((P ++ [bit]).take 8).any id) ((P ++ [bit]).any id) ((P.length : Int) + 1)) true := fun bit x' y' h => by
        have := ih x' y' (P ++ [bit]) (by_ / 2) h (by simp; omega) (by simp; omega) (by omega) (by omega)
        simpa using this
      by_cases hbit : by_ % 2 = 1
      · have hyq : q < y.length := by omega
        have hxq : q < x.length := by omega
        have fy : bitsL (y.set q (bits .xor .u8 y[q] ((128 / 2 ^ r : Nat) : Int))) = xorL (bitsL b) (row (8 * b.length) k (P ++ [true])) := by
          rw [flip y q r hyq hr8 hk.by_, hk.e16, hly, hqr, row_snoc _ _ _ _ (by omega), if_pos rfl, xorL_assoc]
        have byY : Given.Bytes (y.set q (bits .xor .u8 y[q] ((128 / 2 ^ r : Nat) : Int))) := by have := flip_bytes y q ((128 / 2 ^ r : Nat) : Int) hk.by_; rwa [getD_at y q hyq] at this
        by_cases h8 : P.length < 8
        · have t8 : P.take 8 = P := List.take_of_length_le (by omega)
          have t8' : (P ++ [true]).take 8 = P ++ [true] := List.take_of_length_le (by simp; omega)
          have fx : bitsL (x.set q (bits .xor .u8 x[q] ((128 / 2 ^ r : Nat) : Int))) = xorL (bitsL b) (row (8 * b.length) k ((P ++ [true]).take 8)) := by
            rw [flip x q r hxq hr8 hk.bx, hk.e8, hlx, hqr, t8, t8', row_snoc _ _ _ _ (by omega), if_pos rfl, xorL_assoc]
          have byX : Given.Bytes (x.set q (bits .xor .u8 x[q] ((128 / 2 ^ r : Nat) : Int))) := by have := flip_bytes x q ((128 / 2 ^ r : Nat) : Int) hk.bx; rwa [getD_at x q hxq] at this
          refine Ev.step (fun n => ?_) (next true _ _ ⟨byX, byY, by simpa using hlx, by simpa using hly, fx, fy⟩)
          simp only [serinettelaw04_ChecksBursts.j2]
          rw [if_pos trivial, e2, if_pos hbit, wrap_id (n := (k : Int) + P.length) (by omega) (by omega), em, ed, wrap_id (n := (q : Int)) (by omega) (by omega), if_pos (by omega), if_pos (by omega), if_pos (by omega)]
          simp only [Option.bind_some]
          rw [if_pos (by omega), if_pos (by omega), e3, shr_mask r hr8, rd_at x q hxq, rd_at y q hyq, Int.toNat_natCast, wrap_id (n := (P.length : Int) + 1) (by omega) (by omega), t8']
          simp
        · have t8 : (P ++ [true]).take 8 = P.take 8 := List.take_append_of_le_length (by omega)
          refine Ev.step (fun n => ?_) (next true x _ ⟨hk.bx, byY, hlx, by simpa using hly, by rw [t8]; exact hk.e8, fy⟩)
          simp only [serinettelaw04_ChecksBursts.j2]
          rw [if_pos trivial, e2, if_pos hbit, wrap_id (n := (k : Int) + P.length) (by omega) (by omega), em, ed, wrap_id (n := (q : Int)) (by omega) (by omega), if_pos (by omega), if_pos (by omega), if_pos (by omega)]
          simp only [Option.bind_some]
          rw [if_neg (by omega), e3, shr_mask r hr8, rd_at y q hyq, Int.toNat_natCast, wrap_id (n := (P.length : Int) + 1) (by omega) (by omega), t8]
          simp
      · have same : ∀ Q : List Bool, k + Q.length < 8 * b.length → row (8 * b.length) k (Q ++ [false]) = row (8 * b.length) k Q := fun Q hQ => by
          rw [row_snoc _ _ _ _ hQ, if_neg (by decide), show zs (8 * b.length) = zs (row (8 * b.length) k Q).length by rw [row_len _ _ _ (by omega)], xorL_zeros']
        have fx : bitsL x = xorL (bitsL b) (row (8 * b.length) k ((P ++ [false]).take 8)) := by
          by_cases h8 : P.length < 8
          · rw [hk.e8, List.take_of_length_le (by omega), List.take_of_length_le (by simp; omega), same P (by omega)]
          · rw [List.take_append_of_le_length (by omega)]; exact hk.e8
        have a8 : ((P ++ [false]).take 8).any id = (P.take 8).any id := by
          by_cases h8 : P.length < 8
          · rw [List.take_of_length_le (by simp; omega), List.take_of_length_le (by omega)]; simp
          · rw [List.take_append_of_le_length (by omega)]
        refine Ev.step (fun n => ?_) (next false x y ⟨hk.bx, hk.by_, hlx, hly, fx, by rw [same P (by omega)]; exact hk.e16⟩)
        simp only [serinettelaw04_ChecksBursts.j2]
        rw [if_pos trivial, e2, if_neg hbit, e3, wrap_id (n := (P.length : Int) + 1) (by omega) (by omega), a8]
        simp
end BurstsAid
open BurstsAid
/-- YOURS -/
theorem ChecksBursts : serinettelaw04_ChecksBursts.Pure := by
  intro l0 a1 a2 _ _ hw h1 h2
  have hb : Given.Bytes l0 := fun x hx => u8_wf (hw x hx)
  have b1 := u16_wf h1
  have b2 := u16_wf h2
  have h : Ev (fun k => serinettelaw04_ChecksBursts.f k l0 a1 a2) true := by
    have bad : Ev (fun k => serinettelaw04_ChecksBursts.j0 k l0 a1 a2 true true) true := Ev.step (f := fun _ => some true) (fun k => by simp only [serinettelaw04_ChecksBursts.j0]; rw [if_pos trivial]) (Ev.now _)
    by_cases c1 : (l0.length : Int) = 0
    · exact Ev.congr (fun k => by unfold serinettelaw04_ChecksBursts.f Given.awake.f; simp only [Option.bind_some]; rw [if_pos c1]) bad
    · by_cases c2 : (l0.length : Int) > 200
      · exact Ev.congr (fun k => by unfold serinettelaw04_ChecksBursts.f Given.awake.f; simp only [Option.bind_some]; rw [if_neg c1, decide_eq_true c2]) bad
      · refine Ev.congr (f := fun k => serinettelaw04_ChecksBursts.j0 k l0 a1 a2 true false) (fun k => by unfold serinettelaw04_ChecksBursts.f Given.awake.f; simp only [Option.bind_some]; rw [if_neg c1, decide_eq_false c2]) ?_
        obtain ⟨k, hk⟩ : ∃ k : Nat, (k : Int) = a1 % (8 * (l0.length : Int)) := ⟨(a1 % (8 * (l0.length : Int))).toNat, by have := Int.emod_nonneg a1 (b := 8 * (l0.length : Int)) (by omega); omega⟩
        have hk2 := Int.emod_lt_of_pos a1 (b := 8 * (l0.length : Int)) (by omega)
        have hrow : row (8 * l0.length) k [] = zs (bitsL l0).length := by
          unfold row
          rw [List.nil_append, List.replicate_append_replicate, bitsL_len]; congr 1; simp; omega
        have := loop l0 k (by omega) hb 16 l0 l0 [] a2 ⟨hb, hb, rfl, rfl, by rw [List.take_nil, hrow, xorL_zeros'], by rw [hrow, xorL_zeros']⟩ rfl (by simp; omega) b2.1 b2.2
        refine Ev.step (fun n => ?_) this
        simp only [serinettelaw04_ChecksBursts.j0]
        rw [if_neg (by decide)]
        simp only [Option.bind_some]
        rw [if_pos (by simp; omega), if_pos (by simp; omega), wrap_id (n := 8 * (l0.length : Int)) (by omega) (by omega), if_neg (by omega), wrap_id (n := a1) (by omega) (by omega), Int.tmod_eq_emod_of_nonneg b1.1, ← hk]
        simp
  exact h.rounds
end Go.Proofs.Ytafnlnmhjgnddaa.Pure
