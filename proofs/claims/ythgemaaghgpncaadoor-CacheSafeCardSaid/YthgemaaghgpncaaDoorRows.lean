/-
  NARROWER THAN 'FOR EVERY INPUT', by the rows' own cells (each row's printed sentence says how): CacheSafe: laid · CacheRests: laid.
  DERIVED. THE GIVEN ROWS OF THIS SEAT. 2 by the template 'for every input the law returns true; each argument reads behind the call as it read before'; 0 by the template 'total and deterministic' (their statements: YthgemaaghgpncaaDoorTotals.lean).
  GIVEN WITH THE SEED: the statements are not yours to turn. If you find one false, say at which input.
  Laid BY PROGRAM, IN A SANDBOX (cutbox-rows.mjs): the forced cells as the released guide's own fill.sh prints them over the translation 72ebeda5ee807d6b… (all of the seat's roots in one cut). By AI agents, Wed Nov 11 2026. No macro, syntax, notation, axiom, sorry.
-/
import Derived.Test.YthgemaaghgpncaaDoorChecked
import GoSem.Claim
import GoSem.ClaimJoined
import GoSem.ClaimMapViews
import Derived.JoinedTies
import Derived.KernelRfl
namespace Go.Proofs.YthgemaaghgpncaaDoor
/- THE CELL 'sum', in the pinned program and in every row, IS THE sha256 OF THE DUMP (.gsa) THAT YthgemaaghgpncaaDoorProg.lean LOADS. Nothing in Lean hashes anything: it is a label: what it is worth is what the hold of that sum in a sandbox is worth. -/
noncomputable def Tryd.pinned : Pinned := { name := "ythgemaaghgpncaadoor", sum := "72ebeda5ee807d6baa6ac2aafa2668db772e3ca63c14d6b512bdb775d83c7fc9", checked := Tryd.checked }
namespace Rows
def none {H : Type} : Left H := { results := [], args := [] }

/- WHAT THE LISTED PACKAGE-LEVEL VARIABLES READ AS WHEN THE CALL BEGINS. Each datum BY PROGRAM (the guide's laid-datum.mjs) off the statement by which the dump's own 'gosem.cut.vars' lays the variable. In a bare row this is a premise. The card (YthgemaaghgpncaaDoorCards.lean) ties it to the program's text. -/
def laid_donjon_moesi_rows {H : Type} : DataW H := .agg [.agg [.lit (.string [73]), .lit (.bool false), .lit (.bool false), .lit (.bool false), .lit (.bool false), .lit (.int .i64 0), .lit (.int .i64 0), .lit (.int .i64 0)], .agg [.lit (.string [83]), .lit (.bool true), .lit (.bool false), .lit (.bool false), .lit (.bool false), .lit (.int .i64 0), .lit (.int .i64 1), .lit (.int .i64 0)], .agg [.lit (.string [69]), .lit (.bool true), .lit (.bool true), .lit (.bool false), .lit (.bool true), .lit (.int .i64 4), .lit (.int .i64 1), .lit (.int .i64 0)], .agg [.lit (.string [79]), .lit (.bool true), .lit (.bool false), .lit (.bool true), .lit (.bool true), .lit (.int .i64 0), .lit (.int .i64 3), .lit (.int .i64 0)], .agg [.lit (.string [77]), .lit (.bool true), .lit (.bool true), .lit (.bool true), .lit (.bool true), .lit (.int .i64 4), .lit (.int .i64 3), .lit (.int .i64 0)]]
def laid_donjon_place_limits {H : Type} : DataW H := .agg [.lit (.int .i64 4), .lit (.int .i64 16), .lit (.int .i64 8), .lit (.int .i64 4), .lit (.int .i64 16), .lit (.int .i64 8), .lit (.int .i64 4)]

/-- 'donjonlaw13.CacheSafe': WHATEVER THE INPUT: true; the input reads as it did. -/
def cacheSafeSpec : ChangeSpec := { name := "cacheSafe", fn := fun _ => fun
  | [d1, d2, d3] => { results := [.lit (.bool true)], args := [d1, d2, d3] }
  | _ => none }
def cacheSafeRow : OpenClaim := { program := "ythgemaaghgpncaadoor", sum := "72ebeda5ee807d6baa6ac2aafa2668db772e3ca63c14d6b512bdb775d83c7fc9", func := "donjon/donjonlaw13.CacheSafe", spec := "cacheSafe", unfollowed := true, recurses := true, named := ["donjon/place.limits", "donjon/moesi.rows"], apart := false, laid := [("donjon/moesi.rows", laid_donjon_moesi_rows), ("donjon/place.limits", laid_donjon_place_limits)] }
def CacheSafeSaid : Prop := cacheSafeRow.holds Tryd.pinned (OpenSpec.ofChange cacheSafeSpec)

/-- ITS FALSE NEIGHBOUR: 'it returns false'. Refute it at one input. -/
def cacheSafeWrong : ChangeSpec := { name := "cacheSafe", fn := fun _ => fun
  | [d1, d2, d3] => { results := [.lit (.bool false)], args := [d1, d2, d3] }
  | _ => none }
def CacheSafeWrongFalsely : Prop := cacheSafeRow.holds Tryd.pinned (OpenSpec.ofChange cacheSafeWrong)

/-- 'donjonlaw13.CacheRests': WHATEVER THE INPUT: true; the input reads as it did. -/
def cacheRestsSpec : ChangeSpec := { name := "cacheRests", fn := fun _ => fun
  | [d1, d2, d3] => { results := [.lit (.bool true)], args := [d1, d2, d3] }
  | _ => none }
def cacheRestsRow : OpenClaim := { program := "ythgemaaghgpncaadoor", sum := "72ebeda5ee807d6baa6ac2aafa2668db772e3ca63c14d6b512bdb775d83c7fc9", func := "donjon/donjonlaw13.CacheRests", spec := "cacheRests", unfollowed := true, recurses := true, named := ["donjon/place.limits", "donjon/moesi.rows"], apart := false, laid := [("donjon/moesi.rows", laid_donjon_moesi_rows), ("donjon/place.limits", laid_donjon_place_limits)] }
def CacheRestsSaid : Prop := cacheRestsRow.holds Tryd.pinned (OpenSpec.ofChange cacheRestsSpec)

/-- ITS FALSE NEIGHBOUR: 'it returns false'. Refute it at one input. -/
def cacheRestsWrong : ChangeSpec := { name := "cacheRests", fn := fun _ => fun
  | [d1, d2, d3] => { results := [.lit (.bool false)], args := [d1, d2, d3] }
  | _ => none }
def CacheRestsWrongFalsely : Prop := cacheRestsRow.holds Tryd.pinned (OpenSpec.ofChange cacheRestsWrong)

/- THE SECOND FORM. 'bulk': how many values and letters a reading holds, each counted each time it is reached (what is shared counts as often as it is met; a slice's spare places count too). A statement '..UptoSaid' is the law's where the arguments, and the package variables that the reading takes, are together of bulk at most 1048576: NARROWER than '..Said'. Prove '..Said' where nothing that the law and all that it calls make is longer than what came in: it says more and counts as full. Else prove '..UptoSaid'. A law counts once. -/
mutual
def uptoBulk {H : Type} : DataW H → Nat
  | .lit (.string bytes) => bytes.length + 1
  | .lit _ => 1
  | .nil => 1
  | .ptr d => uptoBulk d + 1
  | .slice elems spare => uptoBulkAll elems + uptoBulkAll spare + 1
  | .agg parts => uptoBulkAll parts + 1
  | .iface _ d => uptoBulk d + 1
  | .map entries => uptoBulkEntries entries + 1
  | .held _ => 1
def uptoBulkAll {H : Type} : List (DataW H) → Nat
  | [] => 0
  | d :: r => uptoBulk d + uptoBulkAll r
def uptoBulkEntries {H : Type} : List (Lit × DataW H) → Nat
  | [] => 0
  | x :: r => uptoBulkEntry x + uptoBulkEntries r
def uptoBulkEntry {H : Type} : Lit × DataW H → Nat
  | (.string bytes, d) => bytes.length + uptoBulk d + 1
  | (_, d) => uptoBulk d + 1
 end
def uptoSmall : (H : Type) → List (DataW H) → Bool := fun _ ds => decide (uptoBulkAll ds ≤ 1048576)
def OpenSpec.upto (s : _root_.Go.ChangeSpec) : _root_.Go.OpenSpec := { _root_.Go.OpenSpec.ofChange s with cond := some uptoSmall }

/-- 'donjonlaw13.CacheSafe', WHERE WHAT IT READS IS OF BULK AT MOST 1048576: true; the input reads as it did. -/
def cacheSafeUptoRow : OpenClaim := { program := "ythgemaaghgpncaadoor", sum := "72ebeda5ee807d6baa6ac2aafa2668db772e3ca63c14d6b512bdb775d83c7fc9", func := "donjon/donjonlaw13.CacheSafe", spec := "cacheSafe", unfollowed := true, recurses := true, named := ["donjon/place.limits", "donjon/moesi.rows"], apart := false, laid := [("donjon/moesi.rows", laid_donjon_moesi_rows), ("donjon/place.limits", laid_donjon_place_limits)], narrowed := true }
def CacheSafeUptoSaid : Prop := cacheSafeUptoRow.holds Tryd.pinned (OpenSpec.upto cacheSafeSpec)

/-- 'donjonlaw13.CacheRests', WHERE WHAT IT READS IS OF BULK AT MOST 1048576: true; the input reads as it did. -/
def cacheRestsUptoRow : OpenClaim := { program := "ythgemaaghgpncaadoor", sum := "72ebeda5ee807d6baa6ac2aafa2668db772e3ca63c14d6b512bdb775d83c7fc9", func := "donjon/donjonlaw13.CacheRests", spec := "cacheRests", unfollowed := true, recurses := true, named := ["donjon/place.limits", "donjon/moesi.rows"], apart := false, laid := [("donjon/moesi.rows", laid_donjon_moesi_rows), ("donjon/place.limits", laid_donjon_place_limits)], narrowed := true }
def CacheRestsUptoSaid : Prop := cacheRestsUptoRow.holds Tryd.pinned (OpenSpec.upto cacheRestsSpec)

end Rows
end Go.Proofs.YthgemaaghgpncaaDoor
