/-
  DERIVED. GIVEN WITH THE SEED: THE CARDS: each row of YtfkjpjkkjlipiaaDoorRows.lean that lists a variable, with what it lists TIED to the program's text (the seventh form; the later family's looks); each row that meets fmt, with fmt's text TOLD by the authors' own Lean function (tested against real Go, not proved from fmt's source: count such statements apart). THE CARD IS WHAT COUNTS. Prove the row's statement (the work); the ties are given (YtfkjpjkkjlipiaaDoorTie.lean); close each card by the builder's one call (the guide's Derived/Test/ToyasCard.lean, 'card_holds'). Laid BY PROGRAM, IN A SANDBOX (cutbox-door.mjs). By AI agents, Wed Nov 11 2026. No macro, syntax, notation, axiom, sorry.
-/
import Derived.Test.YtfkjpjkkjlipiaaDoorRows
import GoSem.ClaimSeven
namespace Go.Proofs.YtfkjpjkkjlipiaaDoor
namespace Rows

/-- THE TIED CARD OF 'donjonlaw13.CacheProbes'. -/
def cacheProbesCard : Claim7 := { stood := { row := cacheProbesRow, standIns := [], harness := (true, "411442b4f55e57e24775d74c06af36ae6ca3d9ff1e2b2f0ddeb1b3246cb65bdf"), looks := false }, kinds := [], alts := [], laidByText := true, laidKinds := [.data, .data], laidTests := true, laidLooks := .later }
def CacheProbesCardSaid : Prop := Claim7.holds Tryd.pinned (.plain (OpenSpec.ofChange cacheProbesSpec)) cacheProbesCard

/-- THE TIED CARD OF 'donjonlaw13.CacheNil'. -/
def cacheNilCard : Claim7 := { stood := { row := cacheNilRow, standIns := [], harness := (true, "411442b4f55e57e24775d74c06af36ae6ca3d9ff1e2b2f0ddeb1b3246cb65bdf"), looks := false }, kinds := [], alts := [], laidByText := true, laidKinds := [.data, .data], laidTests := true, laidLooks := .later }
def CacheNilCardSaid : Prop := Claim7.holds Tryd.pinned (.plain (OpenSpec.ofChange cacheNilSpec)) cacheNilCard

/-- THE TIED CARD OF 'donjonlaw13.CacheGrants'. -/
def cacheGrantsCard : Claim7 := { stood := { row := cacheGrantsRow, standIns := [], harness := (true, "411442b4f55e57e24775d74c06af36ae6ca3d9ff1e2b2f0ddeb1b3246cb65bdf"), looks := false }, kinds := [], alts := [], laidByText := true, laidKinds := [.data, .data], laidTests := true, laidLooks := .later }
def CacheGrantsCardSaid : Prop := Claim7.holds Tryd.pinned (.plain (OpenSpec.ofChange cacheGrantsSpec)) cacheGrantsCard

/-- THE TIED CARD OF 'donjonlaw13.CacheSafe'. -/
def cacheSafeCard : Claim7 := { stood := { row := cacheSafeRow, standIns := [], harness := (true, "411442b4f55e57e24775d74c06af36ae6ca3d9ff1e2b2f0ddeb1b3246cb65bdf"), looks := false }, kinds := [], alts := [], laidByText := true, laidKinds := [.data, .data], laidTests := true, laidLooks := .later }
def CacheSafeCardSaid : Prop := Claim7.holds Tryd.pinned (.plain (OpenSpec.ofChange cacheSafeSpec)) cacheSafeCard

/-- THE TIED CARD OF 'donjonlaw13.CacheRests'. -/
def cacheRestsCard : Claim7 := { stood := { row := cacheRestsRow, standIns := [], harness := (true, "411442b4f55e57e24775d74c06af36ae6ca3d9ff1e2b2f0ddeb1b3246cb65bdf"), looks := false }, kinds := [], alts := [], laidByText := true, laidKinds := [.data, .data], laidTests := true, laidLooks := .later }
def CacheRestsCardSaid : Prop := Claim7.holds Tryd.pinned (.plain (OpenSpec.ofChange cacheRestsSpec)) cacheRestsCard

/-- THE SECOND FORM's CARD OF 'donjonlaw13.CacheProbes'. -/
def cacheProbesUptoCard : Claim7 := { stood := { row := cacheProbesUptoRow, standIns := [], harness := (true, "411442b4f55e57e24775d74c06af36ae6ca3d9ff1e2b2f0ddeb1b3246cb65bdf"), looks := false }, kinds := [], alts := [], laidByText := true, laidKinds := [.data, .data], laidTests := true, laidLooks := .later }
def CacheProbesUptoCardSaid : Prop := Claim7.holds Tryd.pinned (.plain (OpenSpec.upto cacheProbesSpec)) cacheProbesUptoCard

/-- THE SECOND FORM's CARD OF 'donjonlaw13.CacheNil'. -/
def cacheNilUptoCard : Claim7 := { stood := { row := cacheNilUptoRow, standIns := [], harness := (true, "411442b4f55e57e24775d74c06af36ae6ca3d9ff1e2b2f0ddeb1b3246cb65bdf"), looks := false }, kinds := [], alts := [], laidByText := true, laidKinds := [.data, .data], laidTests := true, laidLooks := .later }
def CacheNilUptoCardSaid : Prop := Claim7.holds Tryd.pinned (.plain (OpenSpec.upto cacheNilSpec)) cacheNilUptoCard

/-- THE SECOND FORM's CARD OF 'donjonlaw13.CacheGrants'. -/
def cacheGrantsUptoCard : Claim7 := { stood := { row := cacheGrantsUptoRow, standIns := [], harness := (true, "411442b4f55e57e24775d74c06af36ae6ca3d9ff1e2b2f0ddeb1b3246cb65bdf"), looks := false }, kinds := [], alts := [], laidByText := true, laidKinds := [.data, .data], laidTests := true, laidLooks := .later }
def CacheGrantsUptoCardSaid : Prop := Claim7.holds Tryd.pinned (.plain (OpenSpec.upto cacheGrantsSpec)) cacheGrantsUptoCard

/-- THE SECOND FORM's CARD OF 'donjonlaw13.CacheSafe'. -/
def cacheSafeUptoCard : Claim7 := { stood := { row := cacheSafeUptoRow, standIns := [], harness := (true, "411442b4f55e57e24775d74c06af36ae6ca3d9ff1e2b2f0ddeb1b3246cb65bdf"), looks := false }, kinds := [], alts := [], laidByText := true, laidKinds := [.data, .data], laidTests := true, laidLooks := .later }
def CacheSafeUptoCardSaid : Prop := Claim7.holds Tryd.pinned (.plain (OpenSpec.upto cacheSafeSpec)) cacheSafeUptoCard

/-- THE SECOND FORM's CARD OF 'donjonlaw13.CacheRests'. -/
def cacheRestsUptoCard : Claim7 := { stood := { row := cacheRestsUptoRow, standIns := [], harness := (true, "411442b4f55e57e24775d74c06af36ae6ca3d9ff1e2b2f0ddeb1b3246cb65bdf"), looks := false }, kinds := [], alts := [], laidByText := true, laidKinds := [.data, .data], laidTests := true, laidLooks := .later }
def CacheRestsUptoCardSaid : Prop := Claim7.holds Tryd.pinned (.plain (OpenSpec.upto cacheRestsSpec)) cacheRestsUptoCard
end Rows
end Go.Proofs.YtfkjpjkkjlipiaaDoor
