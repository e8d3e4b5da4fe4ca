/- What the rows' premise gives: the table stands. And: the door's own heap meets the premise. -/
import Derived.Test.YtldeigekagpekaaDoorRows
import Derived.Test.YtldeigekagpekaaDoorTie
import Derived.Test.YtldeigekagpekaaDoorCards
import Derived.Test.YtldeigekagpekaaDoorDgEat
import Derived.ProofKit
import Derived.LaidMore
import Derived.OpenShut
import Derived.Stop.Joined
import Derived.ShutString
import Derived.ChangeOld
import Derived.Below
import Derived.SizedLaws
import Derived.Lib.SmallJoins
import Derived.SevenTiedAt
import Derived.Test.YtldeigekagpekaaDoorWSized
set_option linter.unusedSimpArgs false
set_option linter.unusedVariables false
namespace Go.Proofs.YtldeigekagpekaaDoor.Dg
open Go.ChangeShapes Go.WideShapes Go.ChangeAt Go.RowKit
abbrev lay : List (String × DataW Unit) := [("serinette/digest.sines", Rows.laid_serinette_digest_sines)]
theorem own : ownKnob Tryd.prog.godebug = none := by kernel_rfl
theorem laidOut : laidOutB Tryd.prog = true := by kernel_rfl
theorem gSines : Tryd.prog.globalNamed "serinette/digest.sines" = some 0 := by kernel_rfl
theorem tSines : (Tryd.prog.globals[0]?).map (·.type) = some 58 := by kernel_rfl
theorem door_met (os : Os) (args : Array Value) : laidMetH Tryd.prog lay ((World.doorLaid Tryd.prog 400 os).forCall (fun _ _ => 0) ⟨#[], args, []⟩).memory :=
  laidMetH_of_parts3 (fuel := 8) (laidMet_of_run' 8 (by kernel_rfl) (by kernel_rfl)) (by kernel_rfl) (by kernel_rfl)
theorem sines_data : Rows.laid_serinette_digest_sines (H := Unit) = .agg (sines.map fun n => .lit (.int .u32 n)) := rfl
theorem tab_of_laid {W : World} (h : laidMetH Tryd.prog lay W) : Tab W := by
  rw [MakeChecks.laidMetH_plain _ _ _ (by kernel_rfl)] at h
  obtain ⟨ps, ⟨g0, t0, cs0, f0, p0, q0, hg0, ht0, hv0, hd0, _, _⟩, _, _⟩ := h
  obtain rfl := Option.some.inj (gSines.symm.trans hg0)
  obtain rfl := Option.some.inj (tSines.symm.trans ht0)
  intro i hi
  rw [World.var?_cell hg0 hv0 i]
  obtain ⟨xs, m1, rfl, hx1, hlen, hn3, hel⟩ := DataW.trod_array Tryd.underlying58 hd0
  have c45 : Tryd.prog.cellsOf 45 = 1 := by kernel_rfl
  have c58 : Tryd.prog.cellsOf 58 = 64 := by kernel_rfl
  have h0 := hel i hi
  rw [c45, Nat.mul_one] at h0
  rw [c58] at hlen
  rw [List.getElem?_eq_getElem (by omega)] at h0
  obtain ⟨n, e1, e2, _⟩ := DataW.trod_int Tryd.underlying45 h0
  have hcs : cs0[i]? = some (.int .u32 n) := by
    have := congrArg (·[0]?) e1
    simp only [List.getElem?_take, List.getElem?_drop, Nat.add_zero] at this
    simpa using this
  rw [hcs]
  have hx : xs.map (·.1) = sines.map fun n => .lit (.int .u32 n) := by
    have := congrArg Prod.fst hx1
    rw [sines_data] at this
    injection this with this
    exact this.symm
  have hx2 := congrArg (·[i]?) hx
  simp only [List.getElem?_map] at hx2
  rw [List.getElem?_eq_getElem (by omega), Option.map_some, e2] at hx2
  have hs : i < sines.length := hi
  rw [List.getElem?_eq_getElem hs, Option.map_some] at hx2
  simp only [Option.some.injEq, DataW.lit.injEq, Lit.int.injEq, true_and] at hx2
  rw [hx2]
  unfold Go.Proofs.YtldeigekagpekaaDoorW.PrintWords.rd
  simp [List.getD_eq_getElem?_getD, List.getElem?_eq_getElem hs]
end Go.Proofs.YtldeigekagpekaaDoor.Dg
