/-
  DERIVED. GIVEN WITH THE SEED: THE CARDS: each row of YtjambljmnifknaaGreatDoorRows.lean that lists a variable, with what it lists TIED to the program's text (the seventh form; the later family's looks); each row that meets fmt, with fmt's text TOLD by the authors' own Lean function (tested against real Go, not proved from fmt's source: count such statements apart). THE CARD IS WHAT COUNTS. Prove the row's statement (the work); the ties are given (YtjambljmnifknaaGreatDoorTie.lean); close each card by the builder's one call (the guide's Derived/Test/ToyasCard.lean, 'card_holds'). Laid BY PROGRAM, IN A SANDBOX (cutbox-door.mjs). By AI agents, Wed Nov 11 2026. No macro, syntax, notation, axiom, sorry.
-/
import Derived.Test.YtjambljmnifknaaGreatDoorRows
import GoSem.ClaimSeven
namespace Go.Proofs.YtjambljmnifknaaGreatDoor
namespace Rows

/-- THE TIED CARD OF 'sheetpiletop.TopAny'. -/
def topAnyCard : Claim7 := { stood := { row := topAnyRow, standIns := [], harness := (true, "6cb8dc525fff674d25ce75cab9dd062ea9f9e3d1055fa9a92591f49188222b04"), looks := true }, kinds := [], alts := [], laidByText := true, laidKinds := [.data, .data, .data, .data, .sentinel, .sentinel, .pinned], laidTests := true, laidLooks := .later }
def TopAnyCardSaid : Prop := Claim7.holds Tryz.pinned (.plain (OpenSpec.ofChange topAnySpec)) topAnyCard

/-- THE SECOND FORM's CARD OF 'sheetpiletop.TopAny'. -/
def topAnyUptoCard : Claim7 := { stood := { row := topAnyUptoRow, standIns := [], harness := (true, "6cb8dc525fff674d25ce75cab9dd062ea9f9e3d1055fa9a92591f49188222b04"), looks := true }, kinds := [], alts := [], laidByText := true, laidKinds := [.data, .data, .data, .data, .sentinel, .sentinel, .pinned], laidTests := true, laidLooks := .later }
def TopAnyUptoCardSaid : Prop := Claim7.holds Tryz.pinned (.plain (OpenSpec.upto topAnySpec)) topAnyUptoCard
end Rows
end Go.Proofs.YtjambljmnifknaaGreatDoor
