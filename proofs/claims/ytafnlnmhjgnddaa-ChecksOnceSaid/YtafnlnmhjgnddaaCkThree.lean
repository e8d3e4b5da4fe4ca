/- The walks of the two whole checks of bytes. Conditions: the bytes are read as a slice, each from 0 to 255. -/
import Derived.Test.YtafnlnmhjgnddaaCkTwo
namespace Go.Proofs.Ytafnlnmhjgnddaa.Ck
open Go.RowKit Go.Proofs.YtafnlnmhjgnddaaW.PrintWords
set_option maxHeartbeats 400000 in
theorem oneofwhole_any (A : Option Addr) (cap : Nat) (l : List Int) (w : World) (hr : Kd.C (Kd.int .u8) w A l.length l) (hc : l.length ≤ cap) (hb : ∀ x ∈ l, 0 ≤ x ∧ x < 256) :
    Calls Try.prog 21 #[Value.func (Fn.func 11) #[] #[], .slice A l.length cap] w fun e w' => e = .returned (.int .u8 (e8 0 l)) ∧ Below w.heap.size w w' := by
  have HR := Aside0.mk hr
  have HB := Aside0.mk hb
  have HC := Aside0.mk hc
  clear hr hb hc
  go_enter Try.func21, Try.ntmps21
  go_wp2_with fail
  refine (build_any _).mono ?_
  rintro e w1 ⟨rfl, hb1, ht1⟩
  have HW := Aside0.mk hb1
  have HT := Aside0.mk ht1
  clear hb1 ht1
  go_wp2_with fail
  refine (eight_any _ _ _ _ _ _ (by omega) (by omega) HT.out (Kd.C_below HR.out HW.out) HC.out HB.out).mono ?_
  rintro e w2 ⟨rfl, rfl⟩
  go_wp2_with fail
  go_ret
  exact ⟨rfl, HW.out⟩
set_option maxHeartbeats 400000 in
theorem oneof_any (A : Option Addr) (cap : Nat) (l : List Int) (w : World) (hr : Kd.C (Kd.int .u8) w A l.length l) (hc : l.length ≤ cap) (hb : ∀ x ∈ l, 0 ≤ x ∧ x < 256) :
    Calls Try.prog 15 #[.slice A l.length cap] w fun e w' => e = .returned (.int .u8 (e8 0 l)) ∧ Below w.heap.size w w' := by
  have HR := Aside0.mk hr
  have HB := Aside0.mk hb
  have HC := Aside0.mk hc
  clear hr hb hc
  go_enter Try.func15, Try.ntmps15
  go_wp2_with fail
  refine (oneofwhole_any _ _ _ _ HR.out HC.out HB.out).mono ?_
  rintro e w1 ⟨rfl, hb1⟩
  have HW := Aside0.mk hb1
  clear hb1
  go_wp2_with fail
  go_ret
  exact ⟨rfl, HW.out⟩
set_option maxHeartbeats 400000 in
theorem twoofwhole_any (A : Option Addr) (cap : Nat) (l : List Int) (w : World) (hr : Kd.C (Kd.int .u8) w A l.length l) (hc : l.length ≤ cap) (hb : ∀ x ∈ l, 0 ≤ x ∧ x < 256) :
    Calls Try.prog 22 #[Value.func (Fn.func 13) #[] #[], .slice A l.length cap] w fun e w' => e = .returned (.int .u16 (e16 0 l)) ∧ Below w.heap.size w w' := by
  have HR := Aside0.mk hr
  have HB := Aside0.mk hb
  have HC := Aside0.mk hc
  clear hr hb hc
  go_enter Try.func22, Try.ntmps22
  go_wp2_with fail
  refine (build_any _).mono ?_
  rintro e w1 ⟨rfl, hb1, ht1⟩
  have HW := Aside0.mk hb1
  have HT := Aside0.mk ht1
  clear hb1 ht1
  go_wp2_with fail
  refine (sixteen_any _ _ _ _ _ _ (by omega) (by omega) HT.out (Kd.C_below HR.out HW.out) HC.out HB.out).mono ?_
  rintro e w2 ⟨rfl, rfl⟩
  go_wp2_with fail
  go_ret
  exact ⟨rfl, HW.out⟩
set_option maxHeartbeats 400000 in
theorem twoof_any (A : Option Addr) (cap : Nat) (l : List Int) (w : World) (hr : Kd.C (Kd.int .u8) w A l.length l) (hc : l.length ≤ cap) (hb : ∀ x ∈ l, 0 ≤ x ∧ x < 256) :
    Calls Try.prog 16 #[.slice A l.length cap] w fun e w' => e = .returned (.int .u16 (e16 0 l)) ∧ Below w.heap.size w w' := by
  have HR := Aside0.mk hr
  have HB := Aside0.mk hb
  have HC := Aside0.mk hc
  clear hr hb hc
  go_enter Try.func16, Try.ntmps16
  go_wp2_with fail
  refine (twoofwhole_any _ _ _ _ HR.out HC.out HB.out).mono ?_
  rintro e w1 ⟨rfl, hb1⟩
  have HW := Aside0.mk hb1
  clear hb1
  go_wp2_with fail
  go_ret
  exact ⟨rfl, HW.out⟩
end Go.Proofs.Ytafnlnmhjgnddaa.Ck
