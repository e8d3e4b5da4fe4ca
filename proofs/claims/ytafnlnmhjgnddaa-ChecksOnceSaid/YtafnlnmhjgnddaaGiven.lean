/- The contracts of the two whole checks and of the chapter's example, in the printer's form. Conditions: the bytes are read as a slice, each from 0 to 255. -/
import Derived.Test.YtafnlnmhjgnddaaCkThree
import Derived.Lib.SlBytesConst
namespace Go.Proofs.Ytafnlnmhjgnddaa.Given
open Go.RowKit Go.Proofs.YtafnlnmhjgnddaaW.PrintWords Go.Proofs.Ytafnlnmhjgnddaa.Ck
def Bytes (l : List Int) : Prop := ∀ x ∈ l, 0 ≤ x ∧ x < 256
instance (l : List Int) : Decidable (Bytes l) := inferInstanceAs (Decidable (∀ x ∈ l, 0 ≤ x ∧ x < 256))
def checks_Eight.f (l0 : List Int) : Option Int := if Bytes l0 then some (e8 0 l0) else none
def checks_Sixteen.f (l0 : List Int) : Option Int := if Bytes l0 then some (e16 0 l0) else none
theorem checks_Eight.calls (A0 : Option Addr) (c0 : Nat) (l0 : List Int) (r : Int) (w : World) (hr0 : Kd.C (Kd.int .u8) w A0 l0.length l0) (hc0 : l0.length ≤ c0) (h : checks_Eight.f l0 = some r) :
    Calls Try.prog 15 #[.slice A0 l0.length c0] w fun e w' => e = .returned (.int .u8 r) ∧ Below w.heap.size w w' := by
  unfold checks_Eight.f at h
  split at h
  · rename_i hb
    obtain rfl := Option.some.inj h
    exact oneof_any A0 c0 l0 w hr0 hc0 hb
  · exact absurd h (by simp)
theorem checks_Sixteen.calls (A0 : Option Addr) (c0 : Nat) (l0 : List Int) (r : Int) (w : World) (hr0 : Kd.C (Kd.int .u8) w A0 l0.length l0) (hc0 : l0.length ≤ c0) (h : checks_Sixteen.f l0 = some r) :
    Calls Try.prog 16 #[.slice A0 l0.length c0] w fun e w' => e = .returned (.int .u16 r) ∧ Below w.heap.size w w' := by
  unfold checks_Sixteen.f at h
  split at h
  · rename_i hb
    obtain rfl := Option.some.inj h
    exact twoof_any A0 c0 l0 w hr0 hc0 hb
  · exact absurd h (by simp)
def awake.f : Option Bool := some true
def nine : List Int := [49, 50, 51, 52, 53, 54, 55, 56, 57]
/-- The example's bytes, as they are laid. -/
abbrev nineRow (w : World) : World := w.alloc (.cells #[.int .u8 49, .int .u8 50, .int .u8 51, .int .u8 52, .int .u8 53, .int .u8 54, .int .u8 55, .int .u8 56, .int .u8 57] 5 (9, 10))
theorem nine_reads (w : World) : Kd.C (Kd.int .u8) (nineRow w) (some ⟨w.heap.size, 0, none⟩) nine.length nine := by
  refine Kd.C_of_reads (d := (0 : Int)) ⟨rfl, by decide, fun _ => ⟨_, rfl, fun j hj => ?_⟩⟩
  rw [add_plain, World.cell?_alloc_mark]
  have : j < 9 := hj
  rcases j with _ | _ | _ | _ | _ | _ | _ | _ | _ | j
  all_goals first | rfl | omega
theorem nine_bytes : Bytes nine := by decide
theorem nine_eight : e8 0 nine = 244 := by decide +kernel
theorem nine_sixteen : e16 0 nine = 65256 := by decide +kernel
set_option maxHeartbeats 400000 in
theorem awake.calls (r : Bool) (w : World) (h : awake.f = some r) :
    Calls Try.prog 9 #[] w fun e w' => e = .returned (.bool r) ∧ Below w.heap.size w w' := by
  obtain rfl := Option.some.inj h
  clear h
  have kc := fun (w : World) (C : Array Value) (n c : Nat) => Lib.run_convert_bytes_const (P := Try.prog) w 22 5 C n c Try.underlying22 Try.underlying5
  have h0 := nine_reads w
  have H1 := Aside0.mk (oneof_any (some ⟨w.heap.size, 0, none⟩) 9 nine (nineRow w) h0 (Nat.le_refl _) nine_bytes)
  rw [nine_eight] at H1
  have H2 : Aside0 (∀ w1, Below (nineRow w).heap.size (nineRow w) w1 → Calls Try.prog 16 #[.slice (some ⟨w.heap.size, 0, none⟩) 9 9] w1 fun e w' => e = .returned (.int .u16 65256) ∧ Below w1.heap.size w1 w') :=
    ⟨fun w1 hb => by have := twoof_any (some ⟨w.heap.size, 0, none⟩) 9 nine w1 (Kd.C_below h0 hb) (Nat.le_refl _) nine_bytes; rwa [nine_sixteen] at this⟩
  have HB := Aside0.mk (below_alloc (Below.refl w.heap.size w) (.cells #[.int .u8 49, .int .u8 50, .int .u8 51, .int .u8 52, .int .u8 53, .int .u8 54, .int .u8 55, .int .u8 56, .int .u8 57] 5 (9, 10)))
  clear h0
  go_enter Try.func9, Try.ntmps9
  go_wp2_with fail
  refine H1.out.mono ?_
  rintro e w1 ⟨rfl, hb1⟩
  have HB1 := Aside0.mk hb1
  clear hb1
  go_wp2_with fail
  refine (H2.out _ HB1.out).mono ?_
  rintro e w2 ⟨rfl, hb2⟩
  have HB2 := Aside0.mk hb2
  clear hb2
  go_wp2_with fail
  refine (build_any _).mono ?_
  rintro e w3 ⟨rfl, hb3, _⟩
  have HB3 := Aside0.mk hb3
  clear hb3
  go_wp2_with fail
  go_ret
  exact ⟨rfl, below_step (below_step (below_step HB.out HB1.out) HB2.out) HB3.out⟩
end Go.Proofs.Ytafnlnmhjgnddaa.Given
