/-
  DERIVED. GIVEN WITH THE SEED: THE CARDS: each row of YtincdgimnjofpaaDoorRows.lean that lists a variable, with what it lists TIED to the program's text (the seventh form; the later family's looks); each row that meets fmt, with fmt's text TOLD by the authors' own Lean function (tested against real Go, not proved from fmt's source: count such statements apart). THE CARD IS WHAT COUNTS. Prove the row's statement (the work); the ties are given (YtincdgimnjofpaaDoorTie.lean); close each card by the builder's one call (the guide's Derived/Test/ToyasCard.lean, 'card_holds'). Laid BY PROGRAM, IN A SANDBOX (cutbox-door.mjs). By AI agents, Wed Nov 11 2026. No macro, syntax, notation, axiom, sorry.
-/
import Derived.Test.YtincdgimnjofpaaDoorRows
import GoSem.ClaimSeven
namespace Go.Proofs.YtincdgimnjofpaaDoor
namespace Rows

/-- THE TIED CARD OF 'donjonlaw18.ReplayRuns'. -/
def replayRunsCard : Claim7 := { stood := { row := replayRunsRow, standIns := [], harness := (true, "8ec65d48aafa6f8b10a4da61243befc018580c53879c3940dabd8ab235a2230f"), looks := false }, kinds := [], alts := [], laidByText := true, laidKinds := [.data, .data], laidTests := true, laidLooks := .later }
def ReplayRunsCardSaid : Prop := Claim7.holds Tryd.pinned (.plain (OpenSpec.ofChange replayRunsSpec)) replayRunsCard

/-- THE SECOND FORM's CARD OF 'donjonlaw18.ReplayRuns'. -/
def replayRunsUptoCard : Claim7 := { stood := { row := replayRunsUptoRow, standIns := [], harness := (true, "8ec65d48aafa6f8b10a4da61243befc018580c53879c3940dabd8ab235a2230f"), looks := false }, kinds := [], alts := [], laidByText := true, laidKinds := [.data, .data], laidTests := true, laidLooks := .later }
def ReplayRunsUptoCardSaid : Prop := Claim7.holds Tryd.pinned (.plain (OpenSpec.upto replayRunsSpec)) replayRunsUptoCard
end Rows
end Go.Proofs.YtincdgimnjofpaaDoor
