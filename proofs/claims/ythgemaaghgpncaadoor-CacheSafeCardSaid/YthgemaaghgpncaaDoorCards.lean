/-
  DERIVED. GIVEN WITH THE SEED: THE CARDS: each row of YthgemaaghgpncaaDoorRows.lean that lists a variable, with what it lists TIED to the program's text (the seventh form; the later family's looks); each row that meets fmt, with fmt's text TOLD by the authors' own Lean function (tested against real Go, not proved from fmt's source: count such statements apart). THE CARD IS WHAT COUNTS. Prove the row's statement (the work); the ties are given (YthgemaaghgpncaaDoorTie.lean); close each card by the builder's one call (the guide's Derived/Test/ToyasCard.lean, 'card_holds'). Laid BY PROGRAM, IN A SANDBOX (cutbox-door.mjs). By AI agents, Wed Nov 11 2026. No macro, syntax, notation, axiom, sorry.
-/
import Derived.Test.YthgemaaghgpncaaDoorRows
import GoSem.ClaimSeven
namespace Go.Proofs.YthgemaaghgpncaaDoor
namespace Rows

/-- THE TIED CARD OF 'donjonlaw13.CacheSafe'. -/
def cacheSafeCard : Claim7 := { stood := { row := cacheSafeRow, standIns := [], harness := (true, "67adb83e71ea239adfa6352194b00f3063759123eac6bfa6a816a36964d2def7"), looks := false }, kinds := [], alts := [], laidByText := true, laidKinds := [.data, .data], laidTests := true, laidLooks := .later }
def CacheSafeCardSaid : Prop := Claim7.holds Tryd.pinned (.plain (OpenSpec.ofChange cacheSafeSpec)) cacheSafeCard

/-- THE TIED CARD OF 'donjonlaw13.CacheRests'. -/
def cacheRestsCard : Claim7 := { stood := { row := cacheRestsRow, standIns := [], harness := (true, "67adb83e71ea239adfa6352194b00f3063759123eac6bfa6a816a36964d2def7"), looks := false }, kinds := [], alts := [], laidByText := true, laidKinds := [.data, .data], laidTests := true, laidLooks := .later }
def CacheRestsCardSaid : Prop := Claim7.holds Tryd.pinned (.plain (OpenSpec.ofChange cacheRestsSpec)) cacheRestsCard

/-- THE SECOND FORM's CARD OF 'donjonlaw13.CacheSafe'. -/
def cacheSafeUptoCard : Claim7 := { stood := { row := cacheSafeUptoRow, standIns := [], harness := (true, "67adb83e71ea239adfa6352194b00f3063759123eac6bfa6a816a36964d2def7"), looks := false }, kinds := [], alts := [], laidByText := true, laidKinds := [.data, .data], laidTests := true, laidLooks := .later }
def CacheSafeUptoCardSaid : Prop := Claim7.holds Tryd.pinned (.plain (OpenSpec.upto cacheSafeSpec)) cacheSafeUptoCard

/-- THE SECOND FORM's CARD OF 'donjonlaw13.CacheRests'. -/
def cacheRestsUptoCard : Claim7 := { stood := { row := cacheRestsUptoRow, standIns := [], harness := (true, "67adb83e71ea239adfa6352194b00f3063759123eac6bfa6a816a36964d2def7"), looks := false }, kinds := [], alts := [], laidByText := true, laidKinds := [.data, .data], laidTests := true, laidLooks := .later }
def CacheRestsUptoCardSaid : Prop := Claim7.holds Tryd.pinned (.plain (OpenSpec.upto cacheRestsSpec)) cacheRestsUptoCard
end Rows
end Go.Proofs.YthgemaaghgpncaaDoor
