/- The walk of DigestTells. No condition beyond the table's. -/
import Derived.Test.YtldeigekagpekaaDoorDgAwk
import Derived.Test.YtldeigekagpekaaDoorDgRefOf
set_option linter.unusedVariables false
set_option linter.unusedSimpArgs false
namespace Go.Proofs.YtldeigekagpekaaDoor.Dg
open Go.RowKit Go.Proofs.YtldeigekagpekaaDoorW.PrintWords Go.Proofs.YtldeigekagpekaaDoorW.PrintMore
theorem long3 (w : World) (A : Option Addr) (cap : Nat) (l : List Int) (ht : Tab w) (hl : 200 < l.length) :
    Calls Tryd.prog 3 #[.slice A l.length cap] w fun e w' => e = .returned (.bool true) ∧ Below w.heap.size w w' := by
  have HT := Aside0.mk ht
  have t : (200 : Int) < (l.length : Int) := by omega
  clear ht
  go_enter Tryd.func3, Tryd.ntmps3
  go_wp2_with fail
  refine (awake_any _ HT.out).mono ?_
  rintro e w1 ⟨rfl, hb1⟩
  have BW := Aside0.mk hb1
  clear hb1
  go_wp2_with fail
  go_ret
  exact ⟨rfl, BW.out⟩
set_option maxHeartbeats 4000000 in
set_option maxRecDepth 100000 in
theorem tells_any (w : World) (A : Option Addr) (cap : Nat) (l : List Int) (hr : Kd.C (Kd.int .u8) w A l.length l) (hc : l.length ≤ cap) (hx : ∀ x ∈ l, 0 ≤ x ∧ x < 256) (ht : Tab w) (hl : l.length ≤ 200) :
    Calls Tryd.prog 3 #[.slice A l.length cap] w fun e w' => e = .returned (.bool true) ∧ Below w.heap.size w w' := by
  have HR := Aside0.mk hr
  have HT := Aside0.mk ht
  have HX := Aside0.mk (And.intro hc (And.intro hx hl))
  have t : ¬ (200 : Int) < (l.length : Int) := by omega
  clear hr hc hx ht hl
  have e24 := eq24 (ofP l) (ofP_len l)
  go_enter Tryd.func3, Tryd.ntmps3
  go_wp2_with fail
  refine (awake_any _ HT.out).mono ?_
  rintro e w1 ⟨rfl, hb1⟩
  have BW := Aside0.mk hb1
  clear hb1
  go_wp2_with fail
  refine (of_any w1 A cap l (Kd.C_below HR.out BW.out) HX.out.1 HX.out.2.1 (tab_below HT.out BW.out) (by have := HX.out.2.2; omega)).mono ?_
  rintro e w2 ⟨rfl, hb⟩
  have n_ := Aside0.mk (below_step BW.out hb); clear BW; have BW := n_; clear n_
  clear hb
  go_wp2_with fail
  refine (refof_any w2 A cap l (Kd.C_below HR.out BW.out) HX.out.1 HX.out.2.1 HX.out.2.2).mono ?_
  rintro e w3 ⟨rfl, hb⟩
  have n_ := Aside0.mk (below_step BW.out hb); clear BW; have BW := n_; clear n_
  clear hb
  go_wp2_with fail
  go_ret
  exact ⟨rfl, BW.out⟩
end Go.Proofs.YtldeigekagpekaaDoor.Dg
