/-
  DERIVED. GIVEN WITH THE SEED: THE CARDS: each row of YtagcnlaofkfpjaaDoorRows.lean that lists a variable, with what it lists TIED to the program's text (the seventh form; the later family's looks); each row that meets fmt, with fmt's text TOLD by the authors' own Lean function (tested against real Go, not proved from fmt's source: count such statements apart). THE CARD IS WHAT COUNTS. Prove the row's statement (the work); the ties are given (YtagcnlaofkfpjaaDoorTie.lean); close each card by the builder's one call (the guide's Derived/Test/ToyasCard.lean, 'card_holds'). Laid BY PROGRAM, IN A SANDBOX (cutbox-door.mjs). By AI agents, Wed Nov 11 2026. No macro, syntax, notation, axiom, sorry.
-/
import Derived.Test.YtagcnlaofkfpjaaDoorRows
import GoSem.ClaimSeven
namespace Go.Proofs.YtagcnlaofkfpjaaDoor
namespace Rows

/-- THE TIED CARD OF 'donjonlaw12.HomeOrder'. -/
def homeOrderCard : Claim7 := { stood := { row := homeOrderRow, standIns := [], harness := (true, "d5100902d3fced5307d11b68ecdd6b33eec392677bae0da165c5731746aad052"), looks := false }, kinds := [], alts := [], laidByText := true, laidKinds := [.data], laidTests := true, laidLooks := .later }
def HomeOrderCardSaid : Prop := Claim7.holds Tryd.pinned (.plain (OpenSpec.ofChange homeOrderSpec)) homeOrderCard

/-- THE TIED CARD OF 'donjonlaw12.HomeApart'. -/
def homeApartCard : Claim7 := { stood := { row := homeApartRow, standIns := [], harness := (true, "d5100902d3fced5307d11b68ecdd6b33eec392677bae0da165c5731746aad052"), looks := false }, kinds := [], alts := [], laidByText := true, laidKinds := [.data], laidTests := true, laidLooks := .later }
def HomeApartCardSaid : Prop := Claim7.holds Tryd.pinned (.plain (OpenSpec.ofChange homeApartSpec)) homeApartCard

/-- THE TIED CARD OF 'donjonlaw12.HomeSwept'. -/
def homeSweptCard : Claim7 := { stood := { row := homeSweptRow, standIns := [], harness := (true, "d5100902d3fced5307d11b68ecdd6b33eec392677bae0da165c5731746aad052"), looks := false }, kinds := [], alts := [], laidByText := true, laidKinds := [.data], laidTests := true, laidLooks := .later }
def HomeSweptCardSaid : Prop := Claim7.holds Tryd.pinned (.plain (OpenSpec.ofChange homeSweptSpec)) homeSweptCard

/-- THE TIED CARD OF 'donjonlaw12.HomePlays'. -/
def homePlaysCard : Claim7 := { stood := { row := homePlaysRow, standIns := [], harness := (true, "d5100902d3fced5307d11b68ecdd6b33eec392677bae0da165c5731746aad052"), looks := false }, kinds := [], alts := [], laidByText := true, laidKinds := [.data], laidTests := true, laidLooks := .later }
def HomePlaysCardSaid : Prop := Claim7.holds Tryd.pinned (.plain (OpenSpec.ofChange homePlaysSpec)) homePlaysCard

/-- THE SECOND FORM's CARD OF 'donjonlaw12.HomeOrder'. -/
def homeOrderUptoCard : Claim7 := { stood := { row := homeOrderUptoRow, standIns := [], harness := (true, "d5100902d3fced5307d11b68ecdd6b33eec392677bae0da165c5731746aad052"), looks := false }, kinds := [], alts := [], laidByText := true, laidKinds := [.data], laidTests := true, laidLooks := .later }
def HomeOrderUptoCardSaid : Prop := Claim7.holds Tryd.pinned (.plain (OpenSpec.upto homeOrderSpec)) homeOrderUptoCard

/-- THE SECOND FORM's CARD OF 'donjonlaw12.HomeApart'. -/
def homeApartUptoCard : Claim7 := { stood := { row := homeApartUptoRow, standIns := [], harness := (true, "d5100902d3fced5307d11b68ecdd6b33eec392677bae0da165c5731746aad052"), looks := false }, kinds := [], alts := [], laidByText := true, laidKinds := [.data], laidTests := true, laidLooks := .later }
def HomeApartUptoCardSaid : Prop := Claim7.holds Tryd.pinned (.plain (OpenSpec.upto homeApartSpec)) homeApartUptoCard

/-- THE SECOND FORM's CARD OF 'donjonlaw12.HomeSwept'. -/
def homeSweptUptoCard : Claim7 := { stood := { row := homeSweptUptoRow, standIns := [], harness := (true, "d5100902d3fced5307d11b68ecdd6b33eec392677bae0da165c5731746aad052"), looks := false }, kinds := [], alts := [], laidByText := true, laidKinds := [.data], laidTests := true, laidLooks := .later }
def HomeSweptUptoCardSaid : Prop := Claim7.holds Tryd.pinned (.plain (OpenSpec.upto homeSweptSpec)) homeSweptUptoCard

/-- THE SECOND FORM's CARD OF 'donjonlaw12.HomePlays'. -/
def homePlaysUptoCard : Claim7 := { stood := { row := homePlaysUptoRow, standIns := [], harness := (true, "d5100902d3fced5307d11b68ecdd6b33eec392677bae0da165c5731746aad052"), looks := false }, kinds := [], alts := [], laidByText := true, laidKinds := [.data], laidTests := true, laidLooks := .later }
def HomePlaysUptoCardSaid : Prop := Claim7.holds Tryd.pinned (.plain (OpenSpec.upto homePlaysSpec)) homePlaysUptoCard
end Rows
end Go.Proofs.YtagcnlaofkfpjaaDoor
