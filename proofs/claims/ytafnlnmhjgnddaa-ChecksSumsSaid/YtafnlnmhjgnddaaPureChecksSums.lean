/- The call of ChecksSums answers true: of two texts of one length the checks' exclusive or is the check of theirs; bytes 0 ahead of others change nothing. No condition beyond what a Go value can be. -/
import Derived.Test.YtafnlnmhjgnddaaGChecksSumsx1
import Derived.Test.YtafnlnmhjgnddaaCkMath
namespace Go.Proofs.Ytafnlnmhjgnddaa.Pure
open Go.RowKit Go.Proofs.Ytafnlnmhjgnddaa.GChecksSums Go.Proofs.YtafnlnmhjgnddaaW.PrintWords Go.Proofs.YtafnlnmhjgnddaaW.PrintLast Go.Proofs.Ytafnlnmhjgnddaa.Ck Go.Proofs.Ytafnlnmhjgnddaa.CkMath
namespace SumsAid
theorem u8_wf {x : Int} (h : (Lit.int .u8 x).wf = true) : 0 ≤ x ∧ x < 256 := by
  have e1 : IntKind.u8.min = 0 := by decide
  have e2 : IntKind.u8.max = 255 := by decide
  simp [Lit.wf, e1, e2] at h; omega
theorem eight {l : List Int} (h : Given.Bytes l) : Given.checks_Eight.f l = some ((run 8 7 0 (bitsL l) : Nat) : Int) := by
  unfold Given.checks_Eight.f; rw [if_pos h]; congr 1; exact e8_is l 0 (by omega) h
theorem sixteen {l : List Int} (h : Given.Bytes l) : Given.checks_Sixteen.f l = some ((run 16 32773 0 (bitsL l) : Nat) : Int) := by
  unfold Given.checks_Sixteen.f; rw [if_pos h]; congr 1; exact e16_is l 0 (by omega) h
theorem rd_at (l : List Int) (j : Nat) (h : j < l.length) : rd l (j : Int) = l[j] := by
  unfold rd; simp [List.getD_eq_getElem?_getD, List.getElem?_eq_getElem h]
theorem wrap_id {n : Int} (h0 : -9223372036854775808 ≤ n) (h1 : n ≤ 9223372036854775807) : wrap64 n = n := by unfold wrap64; omega
/-- The two, one by one. -/
def both (a b : List Int) : List Int := List.zipWith (fun x y => bits .xor .u8 x y) a b
theorem both_bytes : ∀ (a b : List Int), Given.Bytes (both a b)
  | [], _ => by intro x hx; simp [both] at hx
  | _ :: _, [] => by intro x hx; simp [both] at hx
  | a :: l, b :: m => by
    intro x hx
    simp only [both, List.zipWith_cons_cons, List.mem_cons] at hx
    rcases hx with rfl | hx
    · exact u8_bd _ _
    · exact both_bytes l m x hx
theorem bits_both : ∀ (a b : List Int), a.length = b.length → Given.Bytes a → Given.Bytes b → bitsL (both a b) = xorL (bitsL a) (bitsL b)
  | [], [], _, _, _ => rfl
  | x :: a, y :: b, h, ha, hb => by
    have hx := ha x (by simp)
    have hy := hb y (by simp)
    have ih := bits_both a b (by simpa using h) (fun z hz => ha z (by simp [hz])) (fun z hz => hb z (by simp [hz]))
    show bits8 (bits .xor .u8 x y).toNat ++ bitsL (both a b) = xorL (bits8 x.toNat ++ bitsL a) (bits8 y.toNat ++ bitsL b)
    rw [u8_xor x y hx.1 hx.2 hy.1 hy.2, Int.toNat_natCast, bits8_xor, ih, xorL_append _ _ _ _ (by simp [bits8_len])]
theorem bitsL_len : ∀ a : List Int, (bitsL a).length = 8 * a.length
  | [] => rfl
  | x :: a => by
    show (bits8 x.toNat ++ bitsL a).length = _
    rw [List.length_append, bits8_len, bitsL_len a]; simp; omega
theorem bitsL_zeros : ∀ n : Nat, bitsL (List.replicate n 0) = List.replicate (8 * n) false
  | 0 => rfl
  | n + 1 => by
    rw [List.replicate_succ]
    show bits8 0 ++ bitsL (List.replicate n 0) = _
    rw [bitsL_zeros n, show 8 * (n + 1) = 8 + 8 * n by omega, ← List.replicate_append_replicate]; rfl
theorem bytes_append {a b : List Int} (ha : Given.Bytes a) (hb : Given.Bytes b) : Given.Bytes (a ++ b) := by
  intro x hx
  rcases List.mem_append.1 hx with h | h
  · exact ha x h
  · exact hb x h
/-- What is behind the loop. -/
theorem last (a b : List Int) (z : Int) (hl : a.length ≤ 200) (hab : a.length ≤ b.length) (ha : Given.Bytes a) (hb : Given.Bytes b) (z0 : 0 ≤ z) (z1 : z < 256) :
    Ev (fun k => serinettelaw04_ChecksSums.l0 k a b z true (a.length : Int) (both a (b.take a.length)) (a.length : Int)) true := by
  have hbt : Given.Bytes (b.take a.length) := fun x hx => hb x (List.mem_of_mem_take hx)
  have hzz : Given.Bytes (List.replicate z.toNat 0) := by
    intro x hx
    obtain ⟨_, rfl⟩ := List.mem_replicate.1 hx
    omega
  have hlen : a.length = (b.take a.length).length := by simp; omega
  have eb := bits_both a (b.take a.length) hlen ha hbt
  have bl : (bitsL a).length = (bitsL (b.take a.length)).length := by rw [bitsL_len, bitsL_len, ← hlen]
  have l8 := run_lin 8 7 _ _ 0 0 bl
  have l16 := run_lin 16 32773 _ _ 0 0 bl
  have k8 := lt8 (bitsL a) 0 (by omega)
  have k16 := lt16 (bitsL a) 0 (by omega)
  have m8 := lt8 (bitsL (b.take a.length)) 0 (by omega)
  have m16 := lt16 (bitsL (b.take a.length)) 0 (by omega)
  have zz : bitsL (List.replicate z.toNat 0 ++ a) = List.replicate (8 * z.toNat) false ++ bitsL a := by rw [bitsL_append, bitsL_zeros]
  rw [Nat.xor_zero] at l8 l16
  have q8 : ((run 8 7 0 (bitsL (both a (b.take a.length))) : Nat) : Int) = bits .xor .u8 ((run 8 7 0 (bitsL a) : Nat) : Int) ((run 8 7 0 (bitsL (b.take a.length)) : Nat) : Int) := by
    rw [eb, l8, u8_xor_nat _ _ (by omega) (by omega)]
  have q16 : ((run 16 32773 0 (bitsL (both a (b.take a.length))) : Nat) : Int) = bits .xor .u16 ((run 16 32773 0 (bitsL a) : Nat) : Int) ((run 16 32773 0 (bitsL (b.take a.length)) : Nat) : Int) := by
    rw [eb, l16, u16_xor_nat _ _ (by omega) (by omega)]
  have z8 : run 8 7 0 (bitsL (List.replicate z.toNat 0 ++ a)) = run 8 7 0 (bitsL a) := by rw [zz, run_append, run_zero]
  have z16 : run 16 32773 0 (bitsL (List.replicate z.toNat 0 ++ a)) = run 16 32773 0 (bitsL a) := by rw [zz, run_append, run_zero]
  refine Ev.step (f := fun _ => some true) (fun k => ?_) (Ev.now _)
  simp only [serinettelaw04_ChecksSums.l0]
  rw [if_neg (by omega), wrap_id (by omega) (by omega), if_pos z0, if_pos (by omega)]
  simp only [Option.bind_some]
  rw [if_pos (by rw [List.length_replicate]; omega), if_pos trivial, eight (both_bytes _ _), eight ha]
  simp only [Option.bind_some]
  rw [if_pos (by omega), if_pos (by omega), Int.toNat_natCast, eight hbt]
  simp only [Option.bind_some]
  rw [if_pos q8, sixteen (both_bytes _ _), sixteen ha, sixteen hbt]
  simp only [Option.bind_some]
  rw [if_pos q16, eight (bytes_append hzz ha), sixteen (bytes_append hzz ha), z8, z16]
  simp
theorem loop (a b : List Int) (z : Int) (hl : a.length ≤ 200) (hab : a.length ≤ b.length) (ha : Given.Bytes a) (hb : Given.Bytes b) (z0 : 0 ≤ z) (z1 : z < 256) (d : Nat) : ∀ j : Nat, a.length - j = d → j ≤ a.length →
    Ev (fun k => serinettelaw04_ChecksSums.l0 k a b z true (a.length : Int) (both (a.take j) (b.take j) ++ a.drop j) (j : Int)) true := by
  induction d with
  | zero =>
    intro j hd hj
    obtain rfl : j = a.length := by omega
    rw [List.take_length, List.drop_length, List.append_nil]
    exact last a b z hl hab ha hb z0 z1
  | succ d ih =>
    intro j hd hj
    have hlt : j < a.length := by omega
    have hlt' : j < b.length := by omega
    have hbl : (both (a.take j) (b.take j)).length = j := by simp [both]; omega
    refine Ev.step (fun k => ?_) (ih (j + 1) (by omega) (by omega))
    simp only [serinettelaw04_ChecksSums.l0]
    rw [if_pos (by omega), if_pos (by omega), if_pos (by omega), if_pos (by omega), if_pos (by simp [hbl]; omega), rd_at a j hlt, rd_at b j hlt', wrap_id (n := (j : Int) + 1) (by omega) (by omega), Int.toNat_natCast]
    have e : (both (a.take j) (b.take j) ++ a.drop j).set j (bits .xor .u8 a[j] b[j]) = both (a.take (j + 1)) (b.take (j + 1)) ++ a.drop (j + 1) := by
      rw [List.drop_eq_getElem_cons hlt, List.set_append_right _ _ (by omega), hbl, Nat.sub_self, List.set_cons_zero]
      rw [List.take_succ_eq_append_getElem hlt, List.take_succ_eq_append_getElem hlt']
      unfold both
      rw [List.zipWith_append (by simp; omega)]
      simp
    rw [e]; rfl
end SumsAid
open SumsAid
/-- YOURS -/
theorem ChecksSums : serinettelaw04_ChecksSums.Pure := by
  intro l0 l1 a2 _ _ hw0 _ _ hw1 h2
  have ha : Given.Bytes l0 := fun x hx => u8_wf (hw0 x hx)
  have hb : Given.Bytes l1 := fun x hx => u8_wf (hw1 x hx)
  have hz := u8_wf h2
  have h : Ev (fun k => serinettelaw04_ChecksSums.f k l0 l1 a2) true := by
    have bad : Ev (fun k => serinettelaw04_ChecksSums.j0 k l0 l1 a2 true true) true := Ev.step (f := fun _ => some true) (fun k => by simp only [serinettelaw04_ChecksSums.j0]; rw [if_pos trivial]) (Ev.now _)
    by_cases c1 : (l0.length : Int) > 200
    · exact Ev.congr (fun k => by unfold serinettelaw04_ChecksSums.f Given.awake.f; simp only [Option.bind_some]; rw [if_pos c1]) bad
    · by_cases c2 : (l1.length : Int) < (l0.length : Int)
      · exact Ev.congr (fun k => by unfold serinettelaw04_ChecksSums.f Given.awake.f; simp only [Option.bind_some]; rw [if_neg c1, decide_eq_true c2]) bad
      · refine Ev.congr (f := fun k => serinettelaw04_ChecksSums.j0 k l0 l1 a2 true false) (fun k => by unfold serinettelaw04_ChecksSums.f Given.awake.f; simp only [Option.bind_some]; rw [if_neg c1, decide_eq_false c2]) ?_
        refine Ev.step (fun k => ?_) (loop l0 l1 a2 (by omega) (by omega) ha hb hz.1 hz.2 l0.length 0 (by omega) (by omega))
        simp only [serinettelaw04_ChecksSums.j0]; rw [if_neg (by decide)]; simp only [Option.bind_some]; rw [if_pos (by simp; omega)]; rfl
  exact h.rounds
end Go.Proofs.Ytafnlnmhjgnddaa.Pure
