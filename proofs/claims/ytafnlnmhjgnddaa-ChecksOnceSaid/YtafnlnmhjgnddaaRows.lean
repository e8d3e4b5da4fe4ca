/-
  No cell of these rows narrows 'for every input' (looked for: loops, veiled, ifaces, maps, wideKeys, modest, calm, conditions, laid).
  DERIVED. THE GIVEN ROWS OF THIS SEAT. 6 by the template 'for every input the law returns true; each argument reads behind the call as it read before'; 0 by the template 'total and deterministic' (their statements: YtafnlnmhjgnddaaTotals.lean).
  GIVEN WITH THE SEED: the statements are not yours to turn. If you find one false, say at which input.
  Laid BY PROGRAM, IN A SANDBOX (cutbox-rows.mjs): the forced cells as the released guide's own fill.sh prints them over the translation 0a0d9682832dc25c… (all of the seat's roots in one cut). By AI agents, Wed Nov 11 2026. No macro, syntax, notation, axiom, sorry.
-/
import Derived.Test.YtafnlnmhjgnddaaChecked
import GoSem.Claim
import GoSem.ClaimJoined
import GoSem.ClaimMapViews
import Derived.JoinedTies
import Derived.KernelRfl
namespace Go.Proofs.Ytafnlnmhjgnddaa
/- THE CELL 'sum', in the pinned program and in every row, IS THE sha256 OF THE DUMP (.gsa) THAT YtafnlnmhjgnddaaProg.lean LOADS. Nothing in Lean hashes anything: it is a label: what it is worth is what the hold of that sum in a sandbox is worth. -/
noncomputable def Try.pinned : Pinned := { name := "ytafnlnmhjgnddaa", sum := "0a0d9682832dc25c5db1b8b09fc8f2acd194ac9ba64183febe3b0260f03390fc", checked := Try.checked }
namespace Rows
def none {H : Type} : Left H := { results := [], args := [] }

/-- 'serinettelaw04.ChecksTell': WHATEVER THE INPUT: true; the input reads as it did. -/
def checksTellSpec : ChangeSpec := { name := "checksTell", fn := fun _ => fun
  | [d1, d2, d3] => { results := [.lit (.bool true)], args := [d1, d2, d3] }
  | _ => none }
def checksTellRow : OpenClaim := { program := "ytafnlnmhjgnddaa", sum := "0a0d9682832dc25c5db1b8b09fc8f2acd194ac9ba64183febe3b0260f03390fc", func := "serinette/serinettelaw04.ChecksTell", spec := "checksTell", unfollowed := true, recurses := true, apart := false }
def ChecksTellSaid : Prop := checksTellRow.holds Try.pinned (OpenSpec.ofChange checksTellSpec)

/-- ITS FALSE NEIGHBOUR: 'it returns false'. Refute it at one input. -/
def checksTellWrong : ChangeSpec := { name := "checksTell", fn := fun _ => fun
  | [d1, d2, d3] => { results := [.lit (.bool false)], args := [d1, d2, d3] }
  | _ => none }
def ChecksTellWrongFalsely : Prop := checksTellRow.holds Try.pinned (OpenSpec.ofChange checksTellWrong)

/-- 'serinettelaw04.ChecksParts': WHATEVER THE INPUT: true; the input reads as it did. -/
def checksPartsSpec : ChangeSpec := { name := "checksParts", fn := fun _ => fun
  | [d1, d2, d3, d4] => { results := [.lit (.bool true)], args := [d1, d2, d3, d4] }
  | _ => none }
def checksPartsRow : OpenClaim := { program := "ytafnlnmhjgnddaa", sum := "0a0d9682832dc25c5db1b8b09fc8f2acd194ac9ba64183febe3b0260f03390fc", func := "serinette/serinettelaw04.ChecksParts", spec := "checksParts", unfollowed := true, recurses := true, apart := false }
def ChecksPartsSaid : Prop := checksPartsRow.holds Try.pinned (OpenSpec.ofChange checksPartsSpec)

/-- ITS FALSE NEIGHBOUR: 'it returns false'. Refute it at one input. -/
def checksPartsWrong : ChangeSpec := { name := "checksParts", fn := fun _ => fun
  | [d1, d2, d3, d4] => { results := [.lit (.bool false)], args := [d1, d2, d3, d4] }
  | _ => none }
def ChecksPartsWrongFalsely : Prop := checksPartsRow.holds Try.pinned (OpenSpec.ofChange checksPartsWrong)

/-- 'serinettelaw04.ChecksEnds': WHATEVER THE INPUT: true; the input reads as it did. -/
def checksEndsSpec : ChangeSpec := { name := "checksEnds", fn := fun _ => fun
  | [d1, d2, d3] => { results := [.lit (.bool true)], args := [d1, d2, d3] }
  | _ => none }
def checksEndsRow : OpenClaim := { program := "ytafnlnmhjgnddaa", sum := "0a0d9682832dc25c5db1b8b09fc8f2acd194ac9ba64183febe3b0260f03390fc", func := "serinette/serinettelaw04.ChecksEnds", spec := "checksEnds", unfollowed := true, recurses := true, apart := false }
def ChecksEndsSaid : Prop := checksEndsRow.holds Try.pinned (OpenSpec.ofChange checksEndsSpec)

/-- ITS FALSE NEIGHBOUR: 'it returns false'. Refute it at one input. -/
def checksEndsWrong : ChangeSpec := { name := "checksEnds", fn := fun _ => fun
  | [d1, d2, d3] => { results := [.lit (.bool false)], args := [d1, d2, d3] }
  | _ => none }
def ChecksEndsWrongFalsely : Prop := checksEndsRow.holds Try.pinned (OpenSpec.ofChange checksEndsWrong)

/-- 'serinettelaw04.ChecksBursts': WHATEVER THE INPUT: true; the input reads as it did. -/
def checksBurstsSpec : ChangeSpec := { name := "checksBursts", fn := fun _ => fun
  | [d1, d2, d3] => { results := [.lit (.bool true)], args := [d1, d2, d3] }
  | _ => none }
def checksBurstsRow : OpenClaim := { program := "ytafnlnmhjgnddaa", sum := "0a0d9682832dc25c5db1b8b09fc8f2acd194ac9ba64183febe3b0260f03390fc", func := "serinette/serinettelaw04.ChecksBursts", spec := "checksBursts", unfollowed := true, recurses := true, apart := false }
def ChecksBurstsSaid : Prop := checksBurstsRow.holds Try.pinned (OpenSpec.ofChange checksBurstsSpec)

/-- ITS FALSE NEIGHBOUR: 'it returns false'. Refute it at one input. -/
def checksBurstsWrong : ChangeSpec := { name := "checksBursts", fn := fun _ => fun
  | [d1, d2, d3] => { results := [.lit (.bool false)], args := [d1, d2, d3] }
  | _ => none }
def ChecksBurstsWrongFalsely : Prop := checksBurstsRow.holds Try.pinned (OpenSpec.ofChange checksBurstsWrong)

/-- 'serinettelaw04.ChecksSums': WHATEVER THE INPUT: true; the input reads as it did. -/
def checksSumsSpec : ChangeSpec := { name := "checksSums", fn := fun _ => fun
  | [d1, d2, d3] => { results := [.lit (.bool true)], args := [d1, d2, d3] }
  | _ => none }
def checksSumsRow : OpenClaim := { program := "ytafnlnmhjgnddaa", sum := "0a0d9682832dc25c5db1b8b09fc8f2acd194ac9ba64183febe3b0260f03390fc", func := "serinette/serinettelaw04.ChecksSums", spec := "checksSums", unfollowed := true, recurses := true, apart := false }
def ChecksSumsSaid : Prop := checksSumsRow.holds Try.pinned (OpenSpec.ofChange checksSumsSpec)

/-- ITS FALSE NEIGHBOUR: 'it returns false'. Refute it at one input. -/
def checksSumsWrong : ChangeSpec := { name := "checksSums", fn := fun _ => fun
  | [d1, d2, d3] => { results := [.lit (.bool false)], args := [d1, d2, d3] }
  | _ => none }
def ChecksSumsWrongFalsely : Prop := checksSumsRow.holds Try.pinned (OpenSpec.ofChange checksSumsWrong)

/-- 'serinettelaw04.ChecksOnce': WHATEVER THE INPUT: true; the input reads as it did. -/
def checksOnceSpec : ChangeSpec := { name := "checksOnce", fn := fun _ => fun
  | [d1, d2, d3] => { results := [.lit (.bool true)], args := [d1, d2, d3] }
  | _ => none }
def checksOnceRow : OpenClaim := { program := "ytafnlnmhjgnddaa", sum := "0a0d9682832dc25c5db1b8b09fc8f2acd194ac9ba64183febe3b0260f03390fc", func := "serinette/serinettelaw04.ChecksOnce", spec := "checksOnce", unfollowed := true, recurses := true, apart := false }
def ChecksOnceSaid : Prop := checksOnceRow.holds Try.pinned (OpenSpec.ofChange checksOnceSpec)

/-- ITS FALSE NEIGHBOUR: 'it returns false'. Refute it at one input. -/
def checksOnceWrong : ChangeSpec := { name := "checksOnce", fn := fun _ => fun
  | [d1, d2, d3] => { results := [.lit (.bool false)], args := [d1, d2, d3] }
  | _ => none }
def ChecksOnceWrongFalsely : Prop := checksOnceRow.holds Try.pinned (OpenSpec.ofChange checksOnceWrong)

/- THE SECOND FORM. 'bulk': how many values and letters a reading holds, each counted each time it is reached (what is shared counts as often as it is met; a slice's spare places count too). A statement '..UptoSaid' is the law's where the arguments, and the package variables that the reading takes, are together of bulk at most 1048576: NARROWER than '..Said'. Prove '..Said' where nothing that the law and all that it calls make is longer than what came in: it says more and counts as full. Else prove '..UptoSaid'. A law counts once. -/
mutual
def uptoBulk {H : Type} : DataW H → Nat
  | .lit (.string bytes) => bytes.length + 1
  | .lit _ => 1
  | .nil => 1
  | .ptr d => uptoBulk d + 1
  | .slice elems spare => uptoBulkAll elems + uptoBulkAll spare + 1
  | .agg parts => uptoBulkAll parts + 1
  | .iface _ d => uptoBulk d + 1
  | .map entries => uptoBulkEntries entries + 1
  | .held _ => 1
def uptoBulkAll {H : Type} : List (DataW H) → Nat
  | [] => 0
  | d :: r => uptoBulk d + uptoBulkAll r
def uptoBulkEntries {H : Type} : List (Lit × DataW H) → Nat
  | [] => 0
  | x :: r => uptoBulkEntry x + uptoBulkEntries r
def uptoBulkEntry {H : Type} : Lit × DataW H → Nat
  | (.string bytes, d) => bytes.length + uptoBulk d + 1
  | (_, d) => uptoBulk d + 1
 end
def uptoSmall : (H : Type) → List (DataW H) → Bool := fun _ ds => decide (uptoBulkAll ds ≤ 1048576)
def OpenSpec.upto (s : _root_.Go.ChangeSpec) : _root_.Go.OpenSpec := { _root_.Go.OpenSpec.ofChange s with cond := some uptoSmall }

/-- 'serinettelaw04.ChecksTell', WHERE WHAT IT READS IS OF BULK AT MOST 1048576: true; the input reads as it did. -/
def checksTellUptoRow : OpenClaim := { program := "ytafnlnmhjgnddaa", sum := "0a0d9682832dc25c5db1b8b09fc8f2acd194ac9ba64183febe3b0260f03390fc", func := "serinette/serinettelaw04.ChecksTell", spec := "checksTell", unfollowed := true, recurses := true, apart := false, narrowed := true }
def ChecksTellUptoSaid : Prop := checksTellUptoRow.holds Try.pinned (OpenSpec.upto checksTellSpec)

/-- 'serinettelaw04.ChecksParts', WHERE WHAT IT READS IS OF BULK AT MOST 1048576: true; the input reads as it did. -/
def checksPartsUptoRow : OpenClaim := { program := "ytafnlnmhjgnddaa", sum := "0a0d9682832dc25c5db1b8b09fc8f2acd194ac9ba64183febe3b0260f03390fc", func := "serinette/serinettelaw04.ChecksParts", spec := "checksParts", unfollowed := true, recurses := true, apart := false, narrowed := true }
def ChecksPartsUptoSaid : Prop := checksPartsUptoRow.holds Try.pinned (OpenSpec.upto checksPartsSpec)

/-- 'serinettelaw04.ChecksEnds', WHERE WHAT IT READS IS OF BULK AT MOST 1048576: true; the input reads as it did. -/
def checksEndsUptoRow : OpenClaim := { program := "ytafnlnmhjgnddaa", sum := "0a0d9682832dc25c5db1b8b09fc8f2acd194ac9ba64183febe3b0260f03390fc", func := "serinette/serinettelaw04.ChecksEnds", spec := "checksEnds", unfollowed := true, recurses := true, apart := false, narrowed := true }
def ChecksEndsUptoSaid : Prop := checksEndsUptoRow.holds Try.pinned (OpenSpec.upto checksEndsSpec)

/-- 'serinettelaw04.ChecksBursts', WHERE WHAT IT READS IS OF BULK AT MOST 1048576: true; the input reads as it did. -/
def checksBurstsUptoRow : OpenClaim := { program := "ytafnlnmhjgnddaa", sum := "0a0d9682832dc25c5db1b8b09fc8f2acd194ac9ba64183febe3b0260f03390fc", func := "serinette/serinettelaw04.ChecksBursts", spec := "checksBursts", unfollowed := true, recurses := true, apart := false, narrowed := true }
def ChecksBurstsUptoSaid : Prop := checksBurstsUptoRow.holds Try.pinned (OpenSpec.upto checksBurstsSpec)

/-- 'serinettelaw04.ChecksSums', WHERE WHAT IT READS IS OF BULK AT MOST 1048576: true; the input reads as it did. -/
def checksSumsUptoRow : OpenClaim := { program := "ytafnlnmhjgnddaa", sum := "0a0d9682832dc25c5db1b8b09fc8f2acd194ac9ba64183febe3b0260f03390fc", func := "serinette/serinettelaw04.ChecksSums", spec := "checksSums", unfollowed := true, recurses := true, apart := false, narrowed := true }
def ChecksSumsUptoSaid : Prop := checksSumsUptoRow.holds Try.pinned (OpenSpec.upto checksSumsSpec)

/-- 'serinettelaw04.ChecksOnce', WHERE WHAT IT READS IS OF BULK AT MOST 1048576: true; the input reads as it did. -/
def checksOnceUptoRow : OpenClaim := { program := "ytafnlnmhjgnddaa", sum := "0a0d9682832dc25c5db1b8b09fc8f2acd194ac9ba64183febe3b0260f03390fc", func := "serinette/serinettelaw04.ChecksOnce", spec := "checksOnce", unfollowed := true, recurses := true, apart := false, narrowed := true }
def ChecksOnceUptoSaid : Prop := checksOnceUptoRow.holds Try.pinned (OpenSpec.upto checksOnceSpec)

end Rows
end Go.Proofs.Ytafnlnmhjgnddaa
