/- The call of ChecksEnds answers true for all bytes and checks: bytes with their check behind them leave 0, and with any other one they don't. No condition beyond what a Go value can be. -/
import Derived.Test.YtafnlnmhjgnddaaGChecksEndsx1
import Derived.Test.YtafnlnmhjgnddaaCkMath
namespace Go.Proofs.Ytafnlnmhjgnddaa.Pure
open Go.RowKit Go.Proofs.Ytafnlnmhjgnddaa.GChecksEnds Go.Proofs.YtafnlnmhjgnddaaW.PrintWords Go.Proofs.YtafnlnmhjgnddaaW.PrintLast Go.Proofs.Ytafnlnmhjgnddaa.Ck Go.Proofs.Ytafnlnmhjgnddaa.CkMath
namespace EndsAid
theorem u8_wf {x : Int} (h : (Lit.int .u8 x).wf = true) : 0 ≤ x ∧ x < 256 := by
  have e1 : IntKind.u8.min = 0 := by decide
  have e2 : IntKind.u8.max = 255 := by decide
  simp [Lit.wf, e1, e2] at h; omega
theorem u16_wf {x : Int} (h : (Lit.int .u16 x).wf = true) : 0 ≤ x ∧ x < 65536 := by
  have e1 : IntKind.u16.min = 0 := by decide
  have e2 : IntKind.u16.max = 65535 := by decide
  simp [Lit.wf, e1, e2] at h; omega
theorem eight {l : List Int} (h : Given.Bytes l) : Given.checks_Eight.f l = some ((run 8 7 0 (bitsL l) : Nat) : Int) := by
  unfold Given.checks_Eight.f; rw [if_pos h]; congr 1; exact e8_is l 0 (by omega) h
theorem sixteen {l : List Int} (h : Given.Bytes l) : Given.checks_Sixteen.f l = some ((run 16 32773 0 (bitsL l) : Nat) : Int) := by
  unfold Given.checks_Sixteen.f; rw [if_pos h]; congr 1; exact e16_is l 0 (by omega) h
theorem both (p q : Prop) [Decidable p] [Decidable q] (h : p ↔ q) : (decide p == decide q) = true := by
  simp [decide_eq_decide.2 h]
end EndsAid
open EndsAid
/-- YOURS -/
theorem ChecksEnds : serinettelaw04_ChecksEnds.Pure := by
  intro l0 a1 a2 hm h8 hw h1 h2
  have hb : Given.Bytes l0 := fun x hx => u8_wf (hw x hx)
  have b1 := u8_wf h1
  have b2 := u16_wf h2
  obtain ⟨c, rfl⟩ := Int.eq_ofNat_of_zero_le b1.1
  obtain ⟨d, rfl⟩ := Int.eq_ofNat_of_zero_le b2.1
  unfold serinettelaw04_ChecksEnds.f Given.awake.f
  simp only [Option.bind_some]
  by_cases hl : (l0.length : Int) > 200
  · rw [if_pos hl]
  · rw [if_neg hl]
    have hbx : Given.Bytes (([] ++ l0) ++ [(c : Int)]) := by
      intro x hx
      simp only [List.nil_append, List.mem_append, List.mem_singleton] at hx
      rcases hx with hx | rfl
      · exact hb x hx
      · omega
    have hby : Given.Bytes (([] ++ l0) ++ [(d : Int) / 256 % 256, (d : Int) % 256]) := by
      intro x hx
      simp only [List.nil_append, List.mem_append, List.mem_cons, List.not_mem_nil, or_false] at hx
      rcases hx with hx | rfl | rfl
      · exact hb x hx
      · omega
      · omega
    have e1 : (d : Int) / 256 % 256 = ((d / 256 : Nat) : Int) := by omega
    have e2 : (d : Int) % 256 = ((d % 256 : Nat) : Int) := by omega
    rw [if_pos (by simp; omega), if_pos (by simp; omega), if_pos (by simp; omega), if_pos (by simp; omega), if_pos trivial, eight hbx, eight hb, sixteen hby, sixteen hb]
    simp only [Option.bind_some]
    have k8 := lt8 (bitsL l0) 0 (by omega)
    have k16 := lt16 (bitsL l0) 0 (by omega)
    have x8 : bitsL (([] ++ l0) ++ [(c : Int)]) = bitsL l0 ++ bits8 c := by simp [bitsL]
    have x16 : bitsL (([] ++ l0) ++ [(d : Int) / 256 % 256, (d : Int) % 256]) = bitsL l0 ++ bits16 d := by
      rw [e1, e2, List.nil_append, bitsL_append]
      show bitsL l0 ++ (bits8 _ ++ (bits8 _ ++ [])) = _
      rw [Int.toNat_natCast, Int.toNat_natCast, List.append_nil]; rfl
    rw [x8, x16, run_append, run_append]
    have q8 := enter8 _ c k8 (by omega)
    have q16 := enter16 _ d k16 (by omega)
    generalize run 8 7 0 (bitsL l0) = r8 at *
    generalize run 16 32773 0 (bitsL l0) = r16 at *
    generalize run 8 7 r8 (bits8 c) = s8 at *
    generalize run 16 32773 r16 (bits16 d) = s16 at *
    have f8 : ((((s8 : Nat) : Int) == 0) == (((c : Nat) : Int) == ((r8 : Nat) : Int))) = true := by
      by_cases h : s8 = 0
      · have := q8.1 h
        subst h this; simp
      · have : ¬ r8 = c := fun e => h (q8.2 e)
        have e1 : (((s8 : Nat) : Int) == 0) = false := by simp; omega
        have e2 : (((c : Nat) : Int) == ((r8 : Nat) : Int)) = false := by simp; omega
        rw [e1, e2]; rfl
    have f16 : ((((s16 : Nat) : Int) == 0) == (((d : Nat) : Int) == ((r16 : Nat) : Int))) = true := by
      by_cases h : s16 = 0
      · have := q16.1 h
        subst h this; simp
      · have : ¬ r16 = d := fun e => h (q16.2 e)
        have e1 : (((s16 : Nat) : Int) == 0) = false := by simp; omega
        have e2 : (((d : Nat) : Int) == ((r16 : Nat) : Int)) = false := by simp; omega
        rw [e1, e2]; rfl
    rw [f8, f16]; rfl
end Go.Proofs.Ytafnlnmhjgnddaa.Pure
