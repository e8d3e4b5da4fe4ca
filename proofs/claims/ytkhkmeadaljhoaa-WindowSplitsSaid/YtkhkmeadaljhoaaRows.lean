/-
  No cell of these rows narrows 'for every input' (looked for: loops, veiled, ifaces, maps, wideKeys, modest, calm, conditions, laid).
  DERIVED. THE GIVEN ROWS OF THIS SEAT. 6 by the template 'for every input the law returns true; each argument reads behind the call as it read before'; 0 by the template 'total and deterministic' (their statements: YtkhkmeadaljhoaaTotals.lean).
  GIVEN WITH THE SEED: the statements are not yours to turn. If you find one false, say at which input.
  Laid BY PROGRAM, IN A SANDBOX (cutbox-rows.mjs): the forced cells as the released guide's own fill.sh prints them over the translation 6c40fbccae41f381… (all of the seat's roots in one cut). By AI agents, Wed Nov 11 2026. No macro, syntax, notation, axiom, sorry.
-/
import Derived.Test.YtkhkmeadaljhoaaChecked
import GoSem.Claim
import GoSem.ClaimJoined
import GoSem.ClaimMapViews
import Derived.JoinedTies
import Derived.KernelRfl
namespace Go.Proofs.Ytkhkmeadaljhoaa
/- THE CELL 'sum', in the pinned program and in every row, IS THE sha256 OF THE DUMP (.gsa) THAT YtkhkmeadaljhoaaProg.lean LOADS. Nothing in Lean hashes anything: it is a label: what it is worth is what the hold of that sum in a sandbox is worth. -/
noncomputable def Try.pinned : Pinned := { name := "ytkhkmeadaljhoaa", sum := "6c40fbccae41f3816c77a0aa23a789e6770a8f9404a523eb32ed724472d12f85", checked := Try.checked }
namespace Rows
def none {H : Type} : Left H := { results := [], args := [] }

/-- 'serinettelaw08.WindowTells': WHATEVER THE INPUT: true; the input reads as it did. -/
def windowTellsSpec : ChangeSpec := { name := "windowTells", fn := fun _ => fun
  | [d1, d2, d3, d4] => { results := [.lit (.bool true)], args := [d1, d2, d3, d4] }
  | _ => none }
def windowTellsRow : OpenClaim := { program := "ytkhkmeadaljhoaa", sum := "6c40fbccae41f3816c77a0aa23a789e6770a8f9404a523eb32ed724472d12f85", func := "serinette/serinettelaw08.WindowTells", spec := "windowTells", unfollowed := true, recurses := true, apart := false }
def WindowTellsSaid : Prop := windowTellsRow.holds Try.pinned (OpenSpec.ofChange windowTellsSpec)

/-- ITS FALSE NEIGHBOUR: 'it returns false'. Refute it at one input. -/
def windowTellsWrong : ChangeSpec := { name := "windowTells", fn := fun _ => fun
  | [d1, d2, d3, d4] => { results := [.lit (.bool false)], args := [d1, d2, d3, d4] }
  | _ => none }
def WindowTellsWrongFalsely : Prop := windowTellsRow.holds Try.pinned (OpenSpec.ofChange windowTellsWrong)

/-- 'serinettelaw08.WindowEven': WHATEVER THE INPUT: true; the input reads as it did. -/
def windowEvenSpec : ChangeSpec := { name := "windowEven", fn := fun _ => fun
  | [d1, d2, d3] => { results := [.lit (.bool true)], args := [d1, d2, d3] }
  | _ => none }
def windowEvenRow : OpenClaim := { program := "ytkhkmeadaljhoaa", sum := "6c40fbccae41f3816c77a0aa23a789e6770a8f9404a523eb32ed724472d12f85", func := "serinette/serinettelaw08.WindowEven", spec := "windowEven", unfollowed := true, recurses := true, apart := false }
def WindowEvenSaid : Prop := windowEvenRow.holds Try.pinned (OpenSpec.ofChange windowEvenSpec)

/-- ITS FALSE NEIGHBOUR: 'it returns false'. Refute it at one input. -/
def windowEvenWrong : ChangeSpec := { name := "windowEven", fn := fun _ => fun
  | [d1, d2, d3] => { results := [.lit (.bool false)], args := [d1, d2, d3] }
  | _ => none }
def WindowEvenWrongFalsely : Prop := windowEvenRow.holds Try.pinned (OpenSpec.ofChange windowEvenWrong)

/-- 'serinettelaw08.WindowMiddle': WHATEVER THE INPUT: true; the input reads as it did. -/
def windowMiddleSpec : ChangeSpec := { name := "windowMiddle", fn := fun _ => fun
  | [d1, d2] => { results := [.lit (.bool true)], args := [d1, d2] }
  | _ => none }
def windowMiddleRow : OpenClaim := { program := "ytkhkmeadaljhoaa", sum := "6c40fbccae41f3816c77a0aa23a789e6770a8f9404a523eb32ed724472d12f85", func := "serinette/serinettelaw08.WindowMiddle", spec := "windowMiddle", unfollowed := true, recurses := true, apart := false }
def WindowMiddleSaid : Prop := windowMiddleRow.holds Try.pinned (OpenSpec.ofChange windowMiddleSpec)

/-- ITS FALSE NEIGHBOUR: 'it returns false'. Refute it at one input. -/
def windowMiddleWrong : ChangeSpec := { name := "windowMiddle", fn := fun _ => fun
  | [d1, d2] => { results := [.lit (.bool false)], args := [d1, d2] }
  | _ => none }
def WindowMiddleWrongFalsely : Prop := windowMiddleRow.holds Try.pinned (OpenSpec.ofChange windowMiddleWrong)

/-- 'serinettelaw08.WindowApplies': WHATEVER THE INPUT: true; the input reads as it did. -/
def windowAppliesSpec : ChangeSpec := { name := "windowApplies", fn := fun _ => fun
  | [d1, d2] => { results := [.lit (.bool true)], args := [d1, d2] }
  | _ => none }
def windowAppliesRow : OpenClaim := { program := "ytkhkmeadaljhoaa", sum := "6c40fbccae41f3816c77a0aa23a789e6770a8f9404a523eb32ed724472d12f85", func := "serinette/serinettelaw08.WindowApplies", spec := "windowApplies", unfollowed := true, recurses := true, apart := false }
def WindowAppliesSaid : Prop := windowAppliesRow.holds Try.pinned (OpenSpec.ofChange windowAppliesSpec)

/-- ITS FALSE NEIGHBOUR: 'it returns false'. Refute it at one input. -/
def windowAppliesWrong : ChangeSpec := { name := "windowApplies", fn := fun _ => fun
  | [d1, d2] => { results := [.lit (.bool false)], args := [d1, d2] }
  | _ => none }
def WindowAppliesWrongFalsely : Prop := windowAppliesRow.holds Try.pinned (OpenSpec.ofChange windowAppliesWrong)

/-- 'serinettelaw08.WindowShrinks': WHATEVER THE INPUT: true; the input reads as it did. -/
def windowShrinksSpec : ChangeSpec := { name := "windowShrinks", fn := fun _ => fun
  | [d1, d2] => { results := [.lit (.bool true)], args := [d1, d2] }
  | _ => none }
def windowShrinksRow : OpenClaim := { program := "ytkhkmeadaljhoaa", sum := "6c40fbccae41f3816c77a0aa23a789e6770a8f9404a523eb32ed724472d12f85", func := "serinette/serinettelaw08.WindowShrinks", spec := "windowShrinks", unfollowed := true, recurses := true, apart := false }
def WindowShrinksSaid : Prop := windowShrinksRow.holds Try.pinned (OpenSpec.ofChange windowShrinksSpec)

/-- ITS FALSE NEIGHBOUR: 'it returns false'. Refute it at one input. -/
def windowShrinksWrong : ChangeSpec := { name := "windowShrinks", fn := fun _ => fun
  | [d1, d2] => { results := [.lit (.bool false)], args := [d1, d2] }
  | _ => none }
def WindowShrinksWrongFalsely : Prop := windowShrinksRow.holds Try.pinned (OpenSpec.ofChange windowShrinksWrong)

/-- 'serinettelaw08.WindowSplits': WHATEVER THE INPUT: true; the input reads as it did. -/
def windowSplitsSpec : ChangeSpec := { name := "windowSplits", fn := fun _ => fun
  | [d1, d2, d3] => { results := [.lit (.bool true)], args := [d1, d2, d3] }
  | _ => none }
def windowSplitsRow : OpenClaim := { program := "ytkhkmeadaljhoaa", sum := "6c40fbccae41f3816c77a0aa23a789e6770a8f9404a523eb32ed724472d12f85", func := "serinette/serinettelaw08.WindowSplits", spec := "windowSplits", unfollowed := true, recurses := true, apart := false }
def WindowSplitsSaid : Prop := windowSplitsRow.holds Try.pinned (OpenSpec.ofChange windowSplitsSpec)

/-- ITS FALSE NEIGHBOUR: 'it returns false'. Refute it at one input. -/
def windowSplitsWrong : ChangeSpec := { name := "windowSplits", fn := fun _ => fun
  | [d1, d2, d3] => { results := [.lit (.bool false)], args := [d1, d2, d3] }
  | _ => none }
def WindowSplitsWrongFalsely : Prop := windowSplitsRow.holds Try.pinned (OpenSpec.ofChange windowSplitsWrong)

/- THE SECOND FORM. 'bulk': how many values and letters a reading holds, each counted each time it is reached (what is shared counts as often as it is met; a slice's spare places count too). A statement '..UptoSaid' is the law's where the arguments, and the package variables that the reading takes, are together of bulk at most 1048576: NARROWER than '..Said'. Prove '..Said' where nothing that the law and all that it calls make is longer than what came in: it says more and counts as full. Else prove '..UptoSaid'. A law counts once. -/
mutual
def uptoBulk {H : Type} : DataW H → Nat
  | .lit (.string bytes) => bytes.length + 1
  | .lit _ => 1
  | .nil => 1
  | .ptr d => uptoBulk d + 1
  | .slice elems spare => uptoBulkAll elems + uptoBulkAll spare + 1
  | .agg parts => uptoBulkAll parts + 1
  | .iface _ d => uptoBulk d + 1
  | .map entries => uptoBulkEntries entries + 1
  | .held _ => 1
def uptoBulkAll {H : Type} : List (DataW H) → Nat
  | [] => 0
  | d :: r => uptoBulk d + uptoBulkAll r
def uptoBulkEntries {H : Type} : List (Lit × DataW H) → Nat
  | [] => 0
  | x :: r => uptoBulkEntry x + uptoBulkEntries r
def uptoBulkEntry {H : Type} : Lit × DataW H → Nat
  | (.string bytes, d) => bytes.length + uptoBulk d + 1
  | (_, d) => uptoBulk d + 1
 end
def uptoSmall : (H : Type) → List (DataW H) → Bool := fun _ ds => decide (uptoBulkAll ds ≤ 1048576)
def OpenSpec.upto (s : _root_.Go.ChangeSpec) : _root_.Go.OpenSpec := { _root_.Go.OpenSpec.ofChange s with cond := some uptoSmall }

/-- 'serinettelaw08.WindowTells', WHERE WHAT IT READS IS OF BULK AT MOST 1048576: true; the input reads as it did. -/
def windowTellsUptoRow : OpenClaim := { program := "ytkhkmeadaljhoaa", sum := "6c40fbccae41f3816c77a0aa23a789e6770a8f9404a523eb32ed724472d12f85", func := "serinette/serinettelaw08.WindowTells", spec := "windowTells", unfollowed := true, recurses := true, apart := false, narrowed := true }
def WindowTellsUptoSaid : Prop := windowTellsUptoRow.holds Try.pinned (OpenSpec.upto windowTellsSpec)

/-- 'serinettelaw08.WindowEven', WHERE WHAT IT READS IS OF BULK AT MOST 1048576: true; the input reads as it did. -/
def windowEvenUptoRow : OpenClaim := { program := "ytkhkmeadaljhoaa", sum := "6c40fbccae41f3816c77a0aa23a789e6770a8f9404a523eb32ed724472d12f85", func := "serinette/serinettelaw08.WindowEven", spec := "windowEven", unfollowed := true, recurses := true, apart := false, narrowed := true }
def WindowEvenUptoSaid : Prop := windowEvenUptoRow.holds Try.pinned (OpenSpec.upto windowEvenSpec)

/-- 'serinettelaw08.WindowMiddle', WHERE WHAT IT READS IS OF BULK AT MOST 1048576: true; the input reads as it did. -/
def windowMiddleUptoRow : OpenClaim := { program := "ytkhkmeadaljhoaa", sum := "6c40fbccae41f3816c77a0aa23a789e6770a8f9404a523eb32ed724472d12f85", func := "serinette/serinettelaw08.WindowMiddle", spec := "windowMiddle", unfollowed := true, recurses := true, apart := false, narrowed := true }
def WindowMiddleUptoSaid : Prop := windowMiddleUptoRow.holds Try.pinned (OpenSpec.upto windowMiddleSpec)

/-- 'serinettelaw08.WindowApplies', WHERE WHAT IT READS IS OF BULK AT MOST 1048576: true; the input reads as it did. -/
def windowAppliesUptoRow : OpenClaim := { program := "ytkhkmeadaljhoaa", sum := "6c40fbccae41f3816c77a0aa23a789e6770a8f9404a523eb32ed724472d12f85", func := "serinette/serinettelaw08.WindowApplies", spec := "windowApplies", unfollowed := true, recurses := true, apart := false, narrowed := true }
def WindowAppliesUptoSaid : Prop := windowAppliesUptoRow.holds Try.pinned (OpenSpec.upto windowAppliesSpec)

/-- 'serinettelaw08.WindowShrinks', WHERE WHAT IT READS IS OF BULK AT MOST 1048576: true; the input reads as it did. -/
def windowShrinksUptoRow : OpenClaim := { program := "ytkhkmeadaljhoaa", sum := "6c40fbccae41f3816c77a0aa23a789e6770a8f9404a523eb32ed724472d12f85", func := "serinette/serinettelaw08.WindowShrinks", spec := "windowShrinks", unfollowed := true, recurses := true, apart := false, narrowed := true }
def WindowShrinksUptoSaid : Prop := windowShrinksUptoRow.holds Try.pinned (OpenSpec.upto windowShrinksSpec)

/-- 'serinettelaw08.WindowSplits', WHERE WHAT IT READS IS OF BULK AT MOST 1048576: true; the input reads as it did. -/
def windowSplitsUptoRow : OpenClaim := { program := "ytkhkmeadaljhoaa", sum := "6c40fbccae41f3816c77a0aa23a789e6770a8f9404a523eb32ed724472d12f85", func := "serinette/serinettelaw08.WindowSplits", spec := "windowSplits", unfollowed := true, recurses := true, apart := false, narrowed := true }
def WindowSplitsUptoSaid : Prop := windowSplitsUptoRow.holds Try.pinned (OpenSpec.upto windowSplitsSpec)

end Rows
end Go.Proofs.Ytkhkmeadaljhoaa
