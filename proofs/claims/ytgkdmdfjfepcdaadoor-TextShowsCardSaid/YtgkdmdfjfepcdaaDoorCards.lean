/-
  DERIVED. GIVEN WITH THE SEED: THE CARDS: each row of YtgkdmdfjfepcdaaDoorRows.lean that lists a variable, with what it lists TIED to the program's text (the seventh form; the later family's looks); each row that meets fmt, with fmt's text TOLD by the authors' own Lean function (tested against real Go, not proved from fmt's source: count such statements apart). THE CARD IS WHAT COUNTS. Prove the row's statement (the work); the ties are given (YtgkdmdfjfepcdaaDoorTie.lean); close each card by the builder's one call (the guide's Derived/Test/ToyasCard.lean, 'card_holds'). Laid BY PROGRAM, IN A SANDBOX (cutbox-door.mjs). By AI agents, Wed Nov 11 2026. No macro, syntax, notation, axiom, sorry.
-/
import Derived.Test.YtgkdmdfjfepcdaaDoorRows
import GoSem.ClaimSeven
namespace Go.Proofs.YtgkdmdfjfepcdaaDoor
namespace Rows

/-- THE TIED CARD OF 'ostlerlaw.TextShows'. -/
def textShowsCard : Claim7 := { stood := { row := textShowsRow, standIns := [], harness := (true, "e533dcf0e91c09190e5c3a927a0014422ca0bd6446022c0027500a4ada6d01f4"), looks := false }, kinds := [], alts := [], laidByText := true, laidKinds := [.data, .data, .data, .widerDeep, .widerDeep], laidTests := true, laidLooks := .later }
def TextShowsCardSaid : Prop := Claim7.holds Tryd.pinned (.plain (OpenSpec.ofChange textShowsSpec)) textShowsCard

/-- THE SECOND FORM's CARD OF 'ostlerlaw.TextShows'. -/
def textShowsUptoCard : Claim7 := { stood := { row := textShowsUptoRow, standIns := [], harness := (true, "e533dcf0e91c09190e5c3a927a0014422ca0bd6446022c0027500a4ada6d01f4"), looks := false }, kinds := [], alts := [], laidByText := true, laidKinds := [.data, .data, .data, .widerDeep, .widerDeep], laidTests := true, laidLooks := .later }
def TextShowsUptoCardSaid : Prop := Claim7.holds Tryd.pinned (.plain (OpenSpec.upto textShowsSpec)) textShowsUptoCard
end Rows
end Go.Proofs.YtgkdmdfjfepcdaaDoor
