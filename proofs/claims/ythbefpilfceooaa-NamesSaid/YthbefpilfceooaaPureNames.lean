/- The numbers of package api are those of the document: the call of Names answers true. No condition. -/
import Derived.Test.YthbefpilfceooaaPNamesx1
namespace Go.Proofs.Ythbefpilfceooaa.Pure
open Go.RowKit Go.Proofs.Ythbefpilfceooaa.PNames Go.Proofs.YthbefpilfceooaaW.PrintWords Go.Proofs.YthbefpilfceooaaW.PrintLast

/-- YOURS: serinettetop_Names.f  = some true
What it reaches (each with k first where it has rounds; `.mono`: more rounds tell the same; `.l0`, ..: its loops, with `.mono_l`): serinettetop_Names.f -/
theorem Names : serinettetop_Names.Pure := by
  rfl

end Go.Proofs.Ythbefpilfceooaa.Pure
