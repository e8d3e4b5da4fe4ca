/-
  No cell of these rows narrows 'for every input' (looked for: loops, veiled, ifaces, maps, wideKeys, modest, calm, conditions, laid).
  DERIVED. THE GIVEN ROWS OF THIS SEAT. 6 by the template 'for every input the law returns true; each argument reads behind the call as it read before'; 0 by the template 'total and deterministic' (their statements: YthbefpilfceooaaTotals.lean).
  GIVEN WITH THE SEED: the statements are not yours to turn. If you find one false, say at which input.
  Laid BY PROGRAM, IN A SANDBOX (cutbox-rows.mjs): the forced cells as the released guide's own fill.sh prints them over the translation 4650d0ec352d1363… (all of the seat's roots in one cut). By AI agents, Wed Nov 11 2026. No macro, syntax, notation, axiom, sorry.
-/
import Derived.Test.YthbefpilfceooaaChecked
import GoSem.Claim
import GoSem.ClaimJoined
import GoSem.ClaimMapViews
import Derived.JoinedTies
import Derived.KernelRfl
namespace Go.Proofs.Ythbefpilfceooaa
/- THE CELL 'sum', in the pinned program and in every row, IS THE sha256 OF THE DUMP (.gsa) THAT YthbefpilfceooaaProg.lean LOADS. Nothing in Lean hashes anything: it is a label: what it is worth is what the hold of that sum in a sandbox is worth. -/
noncomputable def Try.pinned : Pinned := { name := "ythbefpilfceooaa", sum := "4650d0ec352d1363ebb030fdf597bd4b99a6efb401d165f320a269eaffcbcac2", checked := Try.checked }
namespace Rows
def none {H : Type} : Left H := { results := [], args := [] }

/-- 'serinettelaw11.QuantTells': WHATEVER THE INPUT: true; the input reads as it did. -/
def quantTellsSpec : ChangeSpec := { name := "quantTells", fn := fun _ => fun
  | [d1, d2] => { results := [.lit (.bool true)], args := [d1, d2] }
  | _ => none }
def quantTellsRow : OpenClaim := { program := "ythbefpilfceooaa", sum := "4650d0ec352d1363ebb030fdf597bd4b99a6efb401d165f320a269eaffcbcac2", func := "serinette/serinettelaw11.QuantTells", spec := "quantTells", apart := false }
def QuantTellsSaid : Prop := quantTellsRow.holds Try.pinned (OpenSpec.ofChange quantTellsSpec)

/-- ITS FALSE NEIGHBOUR: 'it returns false'. Refute it at one input. -/
def quantTellsWrong : ChangeSpec := { name := "quantTells", fn := fun _ => fun
  | [d1, d2] => { results := [.lit (.bool false)], args := [d1, d2] }
  | _ => none }
def QuantTellsWrongFalsely : Prop := quantTellsRow.holds Try.pinned (OpenSpec.ofChange quantTellsWrong)

/-- 'serinettelaw11.QuantBits': WHATEVER THE INPUT: true; the input reads as it did. -/
def quantBitsSpec : ChangeSpec := { name := "quantBits", fn := fun _ => fun
  | [d1, d2] => { results := [.lit (.bool true)], args := [d1, d2] }
  | _ => none }
def quantBitsRow : OpenClaim := { program := "ythbefpilfceooaa", sum := "4650d0ec352d1363ebb030fdf597bd4b99a6efb401d165f320a269eaffcbcac2", func := "serinette/serinettelaw11.QuantBits", spec := "quantBits", apart := false }
def QuantBitsSaid : Prop := quantBitsRow.holds Try.pinned (OpenSpec.ofChange quantBitsSpec)

/-- ITS FALSE NEIGHBOUR: 'it returns false'. Refute it at one input. -/
def quantBitsWrong : ChangeSpec := { name := "quantBits", fn := fun _ => fun
  | [d1, d2] => { results := [.lit (.bool false)], args := [d1, d2] }
  | _ => none }
def QuantBitsWrongFalsely : Prop := quantBitsRow.holds Try.pinned (OpenSpec.ofChange quantBitsWrong)

/-- 'serinettelaw11.QuantNear': WHATEVER THE INPUT: true; the input reads as it did. -/
def quantNearSpec : ChangeSpec := { name := "quantNear", fn := fun _ => fun
  | [d1, d2] => { results := [.lit (.bool true)], args := [d1, d2] }
  | _ => none }
def quantNearRow : OpenClaim := { program := "ythbefpilfceooaa", sum := "4650d0ec352d1363ebb030fdf597bd4b99a6efb401d165f320a269eaffcbcac2", func := "serinette/serinettelaw11.QuantNear", spec := "quantNear", apart := false }
def QuantNearSaid : Prop := quantNearRow.holds Try.pinned (OpenSpec.ofChange quantNearSpec)

/-- ITS FALSE NEIGHBOUR: 'it returns false'. Refute it at one input. -/
def quantNearWrong : ChangeSpec := { name := "quantNear", fn := fun _ => fun
  | [d1, d2] => { results := [.lit (.bool false)], args := [d1, d2] }
  | _ => none }
def QuantNearWrongFalsely : Prop := quantNearRow.holds Try.pinned (OpenSpec.ofChange quantNearWrong)

/-- 'serinettelaw11.QuantTwice': WHATEVER THE INPUT: true; the input reads as it did. -/
def quantTwiceSpec : ChangeSpec := { name := "quantTwice", fn := fun _ => fun
  | [d1, d2] => { results := [.lit (.bool true)], args := [d1, d2] }
  | _ => none }
def quantTwiceRow : OpenClaim := { program := "ythbefpilfceooaa", sum := "4650d0ec352d1363ebb030fdf597bd4b99a6efb401d165f320a269eaffcbcac2", func := "serinette/serinettelaw11.QuantTwice", spec := "quantTwice", apart := false }
def QuantTwiceSaid : Prop := quantTwiceRow.holds Try.pinned (OpenSpec.ofChange quantTwiceSpec)

/-- ITS FALSE NEIGHBOUR: 'it returns false'. Refute it at one input. -/
def quantTwiceWrong : ChangeSpec := { name := "quantTwice", fn := fun _ => fun
  | [d1, d2] => { results := [.lit (.bool false)], args := [d1, d2] }
  | _ => none }
def QuantTwiceWrongFalsely : Prop := quantTwiceRow.holds Try.pinned (OpenSpec.ofChange quantTwiceWrong)

/-- 'serinettelaw11.QuantWhole': WHATEVER THE INPUT: true; the input reads as it did. -/
def quantWholeSpec : ChangeSpec := { name := "quantWhole", fn := fun _ => fun
  | [d] => { results := [.lit (.bool true)], args := [d] }
  | _ => none }
def quantWholeRow : OpenClaim := { program := "ythbefpilfceooaa", sum := "4650d0ec352d1363ebb030fdf597bd4b99a6efb401d165f320a269eaffcbcac2", func := "serinette/serinettelaw11.QuantWhole", spec := "quantWhole", apart := false }
def QuantWholeSaid : Prop := quantWholeRow.holds Try.pinned (OpenSpec.ofChange quantWholeSpec)

/-- ITS FALSE NEIGHBOUR: 'it returns false'. Refute it at one input. -/
def quantWholeWrong : ChangeSpec := { name := "quantWhole", fn := fun _ => fun
  | [d] => { results := [.lit (.bool false)], args := [d] }
  | _ => none }
def QuantWholeWrongFalsely : Prop := quantWholeRow.holds Try.pinned (OpenSpec.ofChange quantWholeWrong)

/-- 'serinettetop.Names': WHATEVER THE INPUT: true; the input reads as it did. -/
def namesSpec : ChangeSpec := { name := "names", fn := fun _ => fun
  | [] => { results := [.lit (.bool true)], args := [] }
  | _ => none }
def namesRow : OpenClaim := { program := "ythbefpilfceooaa", sum := "4650d0ec352d1363ebb030fdf597bd4b99a6efb401d165f320a269eaffcbcac2", func := "serinette/serinettetop.Names", spec := "names", apart := false }
def NamesSaid : Prop := namesRow.holds Try.pinned (OpenSpec.ofChange namesSpec)

/-- ITS FALSE NEIGHBOUR: 'it returns false'. Refute it at one input. -/
def namesWrong : ChangeSpec := { name := "names", fn := fun _ => fun
  | [] => { results := [.lit (.bool false)], args := [] }
  | _ => none }
def NamesWrongFalsely : Prop := namesRow.holds Try.pinned (OpenSpec.ofChange namesWrong)

/- THE SECOND FORM. 'bulk': how many values and letters a reading holds, each counted each time it is reached (what is shared counts as often as it is met; a slice's spare places count too). A statement '..UptoSaid' is the law's where the arguments, and the package variables that the reading takes, are together of bulk at most 1048576: NARROWER than '..Said'. Prove '..Said' where nothing that the law and all that it calls make is longer than what came in: it says more and counts as full. Else prove '..UptoSaid'. A law counts once. -/
mutual
def uptoBulk {H : Type} : DataW H → Nat
  | .lit (.string bytes) => bytes.length + 1
  | .lit _ => 1
  | .nil => 1
  | .ptr d => uptoBulk d + 1
  | .slice elems spare => uptoBulkAll elems + uptoBulkAll spare + 1
  | .agg parts => uptoBulkAll parts + 1
  | .iface _ d => uptoBulk d + 1
  | .map entries => uptoBulkEntries entries + 1
  | .held _ => 1
def uptoBulkAll {H : Type} : List (DataW H) → Nat
  | [] => 0
  | d :: r => uptoBulk d + uptoBulkAll r
def uptoBulkEntries {H : Type} : List (Lit × DataW H) → Nat
  | [] => 0
  | x :: r => uptoBulkEntry x + uptoBulkEntries r
def uptoBulkEntry {H : Type} : Lit × DataW H → Nat
  | (.string bytes, d) => bytes.length + uptoBulk d + 1
  | (_, d) => uptoBulk d + 1
 end
def uptoSmall : (H : Type) → List (DataW H) → Bool := fun _ ds => decide (uptoBulkAll ds ≤ 1048576)
def OpenSpec.upto (s : _root_.Go.ChangeSpec) : _root_.Go.OpenSpec := { _root_.Go.OpenSpec.ofChange s with cond := some uptoSmall }

/-- 'serinettelaw11.QuantTells', WHERE WHAT IT READS IS OF BULK AT MOST 1048576: true; the input reads as it did. -/
def quantTellsUptoRow : OpenClaim := { program := "ythbefpilfceooaa", sum := "4650d0ec352d1363ebb030fdf597bd4b99a6efb401d165f320a269eaffcbcac2", func := "serinette/serinettelaw11.QuantTells", spec := "quantTells", apart := false, narrowed := true }
def QuantTellsUptoSaid : Prop := quantTellsUptoRow.holds Try.pinned (OpenSpec.upto quantTellsSpec)

/-- 'serinettelaw11.QuantBits', WHERE WHAT IT READS IS OF BULK AT MOST 1048576: true; the input reads as it did. -/
def quantBitsUptoRow : OpenClaim := { program := "ythbefpilfceooaa", sum := "4650d0ec352d1363ebb030fdf597bd4b99a6efb401d165f320a269eaffcbcac2", func := "serinette/serinettelaw11.QuantBits", spec := "quantBits", apart := false, narrowed := true }
def QuantBitsUptoSaid : Prop := quantBitsUptoRow.holds Try.pinned (OpenSpec.upto quantBitsSpec)

/-- 'serinettelaw11.QuantNear', WHERE WHAT IT READS IS OF BULK AT MOST 1048576: true; the input reads as it did. -/
def quantNearUptoRow : OpenClaim := { program := "ythbefpilfceooaa", sum := "4650d0ec352d1363ebb030fdf597bd4b99a6efb401d165f320a269eaffcbcac2", func := "serinette/serinettelaw11.QuantNear", spec := "quantNear", apart := false, narrowed := true }
def QuantNearUptoSaid : Prop := quantNearUptoRow.holds Try.pinned (OpenSpec.upto quantNearSpec)

/-- 'serinettelaw11.QuantTwice', WHERE WHAT IT READS IS OF BULK AT MOST 1048576: true; the input reads as it did. -/
def quantTwiceUptoRow : OpenClaim := { program := "ythbefpilfceooaa", sum := "4650d0ec352d1363ebb030fdf597bd4b99a6efb401d165f320a269eaffcbcac2", func := "serinette/serinettelaw11.QuantTwice", spec := "quantTwice", apart := false, narrowed := true }
def QuantTwiceUptoSaid : Prop := quantTwiceUptoRow.holds Try.pinned (OpenSpec.upto quantTwiceSpec)

/-- 'serinettelaw11.QuantWhole', WHERE WHAT IT READS IS OF BULK AT MOST 1048576: true; the input reads as it did. -/
def quantWholeUptoRow : OpenClaim := { program := "ythbefpilfceooaa", sum := "4650d0ec352d1363ebb030fdf597bd4b99a6efb401d165f320a269eaffcbcac2", func := "serinette/serinettelaw11.QuantWhole", spec := "quantWhole", apart := false, narrowed := true }
def QuantWholeUptoSaid : Prop := quantWholeUptoRow.holds Try.pinned (OpenSpec.upto quantWholeSpec)

/-- 'serinettetop.Names', WHERE WHAT IT READS IS OF BULK AT MOST 1048576: true; the input reads as it did. -/
def namesUptoRow : OpenClaim := { program := "ythbefpilfceooaa", sum := "4650d0ec352d1363ebb030fdf597bd4b99a6efb401d165f320a269eaffcbcac2", func := "serinette/serinettetop.Names", spec := "names", apart := false, narrowed := true }
def NamesUptoSaid : Prop := namesUptoRow.holds Try.pinned (OpenSpec.upto namesSpec)

end Rows
end Go.Proofs.Ythbefpilfceooaa
