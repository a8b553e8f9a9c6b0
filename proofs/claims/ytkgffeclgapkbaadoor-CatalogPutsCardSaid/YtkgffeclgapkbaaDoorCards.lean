/-
  DERIVED. GIVEN WITH THE SEED: THE CARDS: each row of YtkgffeclgapkbaaDoorRows.lean that lists a variable, with what it lists TIED to the program's text (the seventh form; the later family's looks); each row that meets fmt, with fmt's text TOLD by the authors' own Lean function (tested against real Go, not proved from fmt's source: count such statements apart). THE CARD IS WHAT COUNTS. Prove the row's statement (the work); the ties are given (YtkgffeclgapkbaaDoorTie.lean); close each card by the builder's one call (the guide's Derived/Test/ToyasCard.lean, 'card_holds'). Laid BY PROGRAM, IN A SANDBOX (cutbox-door.mjs). By AI agents, Wed Nov 11 2026. No macro, syntax, notation, axiom, sorry.
-/
import Derived.Test.YtkgffeclgapkbaaDoorRows
import GoSem.ClaimSeven
namespace Go.Proofs.YtkgffeclgapkbaaDoor
namespace Rows

/-- THE TIED CARD OF 'rubricatorlaw21.CatalogPuts'. -/
def catalogPutsCard : Claim7 := { stood := { row := catalogPutsRow, standIns := [], harness := (true, "181d07ec079afa521761e8b4e7a64866ab604fea3902a232b3cb37d64045d4c1"), looks := false }, kinds := [], alts := [], laidByText := true, laidKinds := [.data, .pinned], laidTests := true, laidLooks := .later }
def CatalogPutsCardSaid : Prop := Claim7.holds Tryd.pinned (.plain (OpenSpec.ofChange catalogPutsSpec)) catalogPutsCard

/-- THE TIED CARD OF 'rubricatorlaw21.CatalogKeys'. -/
def catalogKeysCard : Claim7 := { stood := { row := catalogKeysRow, standIns := [], harness := (true, "181d07ec079afa521761e8b4e7a64866ab604fea3902a232b3cb37d64045d4c1"), looks := false }, kinds := [], alts := [], laidByText := true, laidKinds := [.data, .pinned], laidTests := true, laidLooks := .later }
def CatalogKeysCardSaid : Prop := Claim7.holds Tryd.pinned (.plain (OpenSpec.ofChange catalogKeysSpec)) catalogKeysCard

/-- THE SECOND FORM's CARD OF 'rubricatorlaw21.CatalogPuts'. -/
def catalogPutsUptoCard : Claim7 := { stood := { row := catalogPutsUptoRow, standIns := [], harness := (true, "181d07ec079afa521761e8b4e7a64866ab604fea3902a232b3cb37d64045d4c1"), looks := false }, kinds := [], alts := [], laidByText := true, laidKinds := [.data, .pinned], laidTests := true, laidLooks := .later }
def CatalogPutsUptoCardSaid : Prop := Claim7.holds Tryd.pinned (.plain (OpenSpec.upto catalogPutsSpec)) catalogPutsUptoCard

/-- THE SECOND FORM's CARD OF 'rubricatorlaw21.CatalogKeys'. -/
def catalogKeysUptoCard : Claim7 := { stood := { row := catalogKeysUptoRow, standIns := [], harness := (true, "181d07ec079afa521761e8b4e7a64866ab604fea3902a232b3cb37d64045d4c1"), looks := false }, kinds := [], alts := [], laidByText := true, laidKinds := [.data, .pinned], laidTests := true, laidLooks := .later }
def CatalogKeysUptoCardSaid : Prop := Claim7.holds Tryd.pinned (.plain (OpenSpec.upto catalogKeysSpec)) catalogKeysUptoCard
end Rows
end Go.Proofs.YtkgffeclgapkbaaDoor
