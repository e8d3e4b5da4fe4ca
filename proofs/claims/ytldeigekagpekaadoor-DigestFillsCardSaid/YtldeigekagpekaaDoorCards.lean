/-
  DERIVED. GIVEN WITH THE SEED: THE CARDS: each row of YtldeigekagpekaaDoorRows.lean that lists a variable, with what it lists TIED to the program's text (the seventh form; the later family's looks); each row that meets fmt, with fmt's text TOLD by the authors' own Lean function (tested against real Go, not proved from fmt's source: count such statements apart). THE CARD IS WHAT COUNTS. Prove the row's statement (the work); the ties are given (YtldeigekagpekaaDoorTie.lean); close each card by the builder's one call (the guide's Derived/Test/ToyasCard.lean, 'card_holds'). Laid BY PROGRAM, IN A SANDBOX (cutbox-door.mjs). By AI agents, Wed Nov 11 2026. No macro, syntax, notation, axiom, sorry.
-/
import Derived.Test.YtldeigekagpekaaDoorRows
import GoSem.ClaimSeven
namespace Go.Proofs.YtldeigekagpekaaDoor
namespace Rows

/-- THE TIED CARD OF 'serinettelaw05.DigestTells'. -/
def digestTellsCard : Claim7 := { stood := { row := digestTellsRow, standIns := [], harness := (true, "2929330b3f3fd4a181287e526137f4014d7773c181e14ea99d4789c08bf8a44c"), looks := false }, kinds := [], alts := [], laidByText := true, laidKinds := [.data], laidTests := true, laidLooks := .later }
def DigestTellsCardSaid : Prop := Claim7.holds Tryd.pinned (.plain (OpenSpec.ofChange digestTellsSpec)) digestTellsCard

/-- THE TIED CARD OF 'serinettelaw05.DigestOwn'. -/
def digestOwnCard : Claim7 := { stood := { row := digestOwnRow, standIns := [], harness := (true, "2929330b3f3fd4a181287e526137f4014d7773c181e14ea99d4789c08bf8a44c"), looks := false }, kinds := [], alts := [], laidByText := true, laidKinds := [.data], laidTests := true, laidLooks := .later }
def DigestOwnCardSaid : Prop := Claim7.holds Tryd.pinned (.plain (OpenSpec.ofChange digestOwnSpec)) digestOwnCard

/-- THE TIED CARD OF 'serinettelaw05.DigestFills'. -/
def digestFillsCard : Claim7 := { stood := { row := digestFillsRow, standIns := [], harness := (true, "2929330b3f3fd4a181287e526137f4014d7773c181e14ea99d4789c08bf8a44c"), looks := false }, kinds := [], alts := [], laidByText := true, laidKinds := [.data], laidTests := true, laidLooks := .later }
def DigestFillsCardSaid : Prop := Claim7.holds Tryd.pinned (.plain (OpenSpec.ofChange digestFillsSpec)) digestFillsCard

/-- THE TIED CARD OF 'serinettelaw05.DigestParts'. -/
def digestPartsCard : Claim7 := { stood := { row := digestPartsRow, standIns := [], harness := (true, "2929330b3f3fd4a181287e526137f4014d7773c181e14ea99d4789c08bf8a44c"), looks := false }, kinds := [], alts := [], laidByText := true, laidKinds := [.data], laidTests := true, laidLooks := .later }
def DigestPartsCardSaid : Prop := Claim7.holds Tryd.pinned (.plain (OpenSpec.ofChange digestPartsSpec)) digestPartsCard

/-- THE TIED CARD OF 'serinettelaw05.DigestApart'. -/
def digestApartCard : Claim7 := { stood := { row := digestApartRow, standIns := [], harness := (true, "2929330b3f3fd4a181287e526137f4014d7773c181e14ea99d4789c08bf8a44c"), looks := false }, kinds := [], alts := [], laidByText := true, laidKinds := [.data], laidTests := true, laidLooks := .later }
def DigestApartCardSaid : Prop := Claim7.holds Tryd.pinned (.plain (OpenSpec.ofChange digestApartSpec)) digestApartCard

/-- THE TIED CARD OF 'serinettelaw05.DigestCuts'. -/
def digestCutsCard : Claim7 := { stood := { row := digestCutsRow, standIns := [], harness := (true, "2929330b3f3fd4a181287e526137f4014d7773c181e14ea99d4789c08bf8a44c"), looks := false }, kinds := [], alts := [], laidByText := true, laidKinds := [.data], laidTests := true, laidLooks := .later }
def DigestCutsCardSaid : Prop := Claim7.holds Tryd.pinned (.plain (OpenSpec.ofChange digestCutsSpec)) digestCutsCard

/-- THE SECOND FORM's CARD OF 'serinettelaw05.DigestTells'. -/
def digestTellsUptoCard : Claim7 := { stood := { row := digestTellsUptoRow, standIns := [], harness := (true, "2929330b3f3fd4a181287e526137f4014d7773c181e14ea99d4789c08bf8a44c"), looks := false }, kinds := [], alts := [], laidByText := true, laidKinds := [.data], laidTests := true, laidLooks := .later }
def DigestTellsUptoCardSaid : Prop := Claim7.holds Tryd.pinned (.plain (OpenSpec.upto digestTellsSpec)) digestTellsUptoCard

/-- THE SECOND FORM's CARD OF 'serinettelaw05.DigestOwn'. -/
def digestOwnUptoCard : Claim7 := { stood := { row := digestOwnUptoRow, standIns := [], harness := (true, "2929330b3f3fd4a181287e526137f4014d7773c181e14ea99d4789c08bf8a44c"), looks := false }, kinds := [], alts := [], laidByText := true, laidKinds := [.data], laidTests := true, laidLooks := .later }
def DigestOwnUptoCardSaid : Prop := Claim7.holds Tryd.pinned (.plain (OpenSpec.upto digestOwnSpec)) digestOwnUptoCard

/-- THE SECOND FORM's CARD OF 'serinettelaw05.DigestFills'. -/
def digestFillsUptoCard : Claim7 := { stood := { row := digestFillsUptoRow, standIns := [], harness := (true, "2929330b3f3fd4a181287e526137f4014d7773c181e14ea99d4789c08bf8a44c"), looks := false }, kinds := [], alts := [], laidByText := true, laidKinds := [.data], laidTests := true, laidLooks := .later }
def DigestFillsUptoCardSaid : Prop := Claim7.holds Tryd.pinned (.plain (OpenSpec.upto digestFillsSpec)) digestFillsUptoCard

/-- THE SECOND FORM's CARD OF 'serinettelaw05.DigestParts'. -/
def digestPartsUptoCard : Claim7 := { stood := { row := digestPartsUptoRow, standIns := [], harness := (true, "2929330b3f3fd4a181287e526137f4014d7773c181e14ea99d4789c08bf8a44c"), looks := false }, kinds := [], alts := [], laidByText := true, laidKinds := [.data], laidTests := true, laidLooks := .later }
def DigestPartsUptoCardSaid : Prop := Claim7.holds Tryd.pinned (.plain (OpenSpec.upto digestPartsSpec)) digestPartsUptoCard

/-- THE SECOND FORM's CARD OF 'serinettelaw05.DigestApart'. -/
def digestApartUptoCard : Claim7 := { stood := { row := digestApartUptoRow, standIns := [], harness := (true, "2929330b3f3fd4a181287e526137f4014d7773c181e14ea99d4789c08bf8a44c"), looks := false }, kinds := [], alts := [], laidByText := true, laidKinds := [.data], laidTests := true, laidLooks := .later }
def DigestApartUptoCardSaid : Prop := Claim7.holds Tryd.pinned (.plain (OpenSpec.upto digestApartSpec)) digestApartUptoCard

/-- THE SECOND FORM's CARD OF 'serinettelaw05.DigestCuts'. -/
def digestCutsUptoCard : Claim7 := { stood := { row := digestCutsUptoRow, standIns := [], harness := (true, "2929330b3f3fd4a181287e526137f4014d7773c181e14ea99d4789c08bf8a44c"), looks := false }, kinds := [], alts := [], laidByText := true, laidKinds := [.data], laidTests := true, laidLooks := .later }
def DigestCutsUptoCardSaid : Prop := Claim7.holds Tryd.pinned (.plain (OpenSpec.upto digestCutsSpec)) digestCutsUptoCard
end Rows
end Go.Proofs.YtldeigekagpekaaDoor
