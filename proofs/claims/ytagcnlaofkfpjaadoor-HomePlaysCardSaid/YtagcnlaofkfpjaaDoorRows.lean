/-
  NARROWER THAN 'FOR EVERY INPUT', by the rows' own cells (each row's printed sentence says how): HomeOrder: laid · HomeApart: laid · HomeSwept: laid · HomePlays: laid.
  DERIVED. THE GIVEN ROWS OF THIS SEAT. 4 by the template 'for every input the law returns true; each argument reads behind the call as it read before'; 0 by the template 'total and deterministic' (their statements: YtagcnlaofkfpjaaDoorTotals.lean).
  GIVEN WITH THE SEED: the statements are not yours to turn. If you find one false, say at which input.
  Laid BY PROGRAM, IN A SANDBOX (cutbox-rows.mjs): the forced cells as the released guide's own fill.sh prints them over the translation 4bf5bd534bce9fd5… (all of the seat's roots in one cut). By AI agents, Wed Nov 11 2026. No macro, syntax, notation, axiom, sorry.
-/
import Derived.Test.YtagcnlaofkfpjaaDoorChecked
import GoSem.Claim
import GoSem.ClaimJoined
import GoSem.ClaimMapViews
import Derived.JoinedTies
import Derived.KernelRfl
namespace Go.Proofs.YtagcnlaofkfpjaaDoor
/- THE CELL 'sum', in the pinned program and in every row, IS THE sha256 OF THE DUMP (.gsa) THAT YtagcnlaofkfpjaaDoorProg.lean LOADS. Nothing in Lean hashes anything: it is a label: what it is worth is what the hold of that sum in a sandbox is worth. -/
noncomputable def Tryd.pinned : Pinned := { name := "ytagcnlaofkfpjaadoor", sum := "4bf5bd534bce9fd53f419337560b4bfff0350ec93f591eb0567ef1bf95ddd5f0", checked := Tryd.checked }
namespace Rows
def none {H : Type} : Left H := { results := [], args := [] }

/- WHAT THE LISTED PACKAGE-LEVEL VARIABLES READ AS WHEN THE CALL BEGINS. Each datum BY PROGRAM (the guide's laid-datum.mjs) off the statement by which the dump's own 'gosem.cut.vars' lays the variable. In a bare row this is a premise. The card (YtagcnlaofkfpjaaDoorCards.lean) ties it to the program's text. -/
def laid_donjon_place_limits {H : Type} : DataW H := .agg [.lit (.int .i64 4), .lit (.int .i64 16), .lit (.int .i64 8), .lit (.int .i64 4), .lit (.int .i64 16), .lit (.int .i64 8), .lit (.int .i64 4)]

/-- 'donjonlaw12.HomeOrder': WHATEVER THE INPUT: true; the input reads as it did. -/
def homeOrderSpec : ChangeSpec := { name := "homeOrder", fn := fun _ => fun
  | [d1, d2] => { results := [.lit (.bool true)], args := [d1, d2] }
  | _ => none }
def homeOrderRow : OpenClaim := { program := "ytagcnlaofkfpjaadoor", sum := "4bf5bd534bce9fd53f419337560b4bfff0350ec93f591eb0567ef1bf95ddd5f0", func := "donjon/donjonlaw12.HomeOrder", spec := "homeOrder", unfollowed := true, recurses := true, named := ["donjon/place.limits"], apart := false, laid := [("donjon/place.limits", laid_donjon_place_limits)] }
def HomeOrderSaid : Prop := homeOrderRow.holds Tryd.pinned (OpenSpec.ofChange homeOrderSpec)

/-- ITS FALSE NEIGHBOUR: 'it returns false'. Refute it at one input. -/
def homeOrderWrong : ChangeSpec := { name := "homeOrder", fn := fun _ => fun
  | [d1, d2] => { results := [.lit (.bool false)], args := [d1, d2] }
  | _ => none }
def HomeOrderWrongFalsely : Prop := homeOrderRow.holds Tryd.pinned (OpenSpec.ofChange homeOrderWrong)

/-- 'donjonlaw12.HomeApart': WHATEVER THE INPUT: true; the input reads as it did. -/
def homeApartSpec : ChangeSpec := { name := "homeApart", fn := fun _ => fun
  | [d1, d2, d3] => { results := [.lit (.bool true)], args := [d1, d2, d3] }
  | _ => none }
def homeApartRow : OpenClaim := { program := "ytagcnlaofkfpjaadoor", sum := "4bf5bd534bce9fd53f419337560b4bfff0350ec93f591eb0567ef1bf95ddd5f0", func := "donjon/donjonlaw12.HomeApart", spec := "homeApart", unfollowed := true, recurses := true, named := ["donjon/place.limits"], apart := false, laid := [("donjon/place.limits", laid_donjon_place_limits)] }
def HomeApartSaid : Prop := homeApartRow.holds Tryd.pinned (OpenSpec.ofChange homeApartSpec)

/-- ITS FALSE NEIGHBOUR: 'it returns false'. Refute it at one input. -/
def homeApartWrong : ChangeSpec := { name := "homeApart", fn := fun _ => fun
  | [d1, d2, d3] => { results := [.lit (.bool false)], args := [d1, d2, d3] }
  | _ => none }
def HomeApartWrongFalsely : Prop := homeApartRow.holds Tryd.pinned (OpenSpec.ofChange homeApartWrong)

/-- 'donjonlaw12.HomeSwept': WHATEVER THE INPUT: true; the input reads as it did. -/
def homeSweptSpec : ChangeSpec := { name := "homeSwept", fn := fun _ => fun
  | [d1, d2] => { results := [.lit (.bool true)], args := [d1, d2] }
  | _ => none }
def homeSweptRow : OpenClaim := { program := "ytagcnlaofkfpjaadoor", sum := "4bf5bd534bce9fd53f419337560b4bfff0350ec93f591eb0567ef1bf95ddd5f0", func := "donjon/donjonlaw12.HomeSwept", spec := "homeSwept", unfollowed := true, recurses := true, named := ["donjon/place.limits"], apart := false, laid := [("donjon/place.limits", laid_donjon_place_limits)] }
def HomeSweptSaid : Prop := homeSweptRow.holds Tryd.pinned (OpenSpec.ofChange homeSweptSpec)

/-- ITS FALSE NEIGHBOUR: 'it returns false'. Refute it at one input. -/
def homeSweptWrong : ChangeSpec := { name := "homeSwept", fn := fun _ => fun
  | [d1, d2] => { results := [.lit (.bool false)], args := [d1, d2] }
  | _ => none }
def HomeSweptWrongFalsely : Prop := homeSweptRow.holds Tryd.pinned (OpenSpec.ofChange homeSweptWrong)

/-- 'donjonlaw12.HomePlays': WHATEVER THE INPUT: true; the input reads as it did. -/
def homePlaysSpec : ChangeSpec := { name := "homePlays", fn := fun _ => fun
  | [d1, d2] => { results := [.lit (.bool true)], args := [d1, d2] }
  | _ => none }
def homePlaysRow : OpenClaim := { program := "ytagcnlaofkfpjaadoor", sum := "4bf5bd534bce9fd53f419337560b4bfff0350ec93f591eb0567ef1bf95ddd5f0", func := "donjon/donjonlaw12.HomePlays", spec := "homePlays", unfollowed := true, recurses := true, named := ["donjon/place.limits"], apart := false, laid := [("donjon/place.limits", laid_donjon_place_limits)] }
def HomePlaysSaid : Prop := homePlaysRow.holds Tryd.pinned (OpenSpec.ofChange homePlaysSpec)

/-- ITS FALSE NEIGHBOUR: 'it returns false'. Refute it at one input. -/
def homePlaysWrong : ChangeSpec := { name := "homePlays", fn := fun _ => fun
  | [d1, d2] => { results := [.lit (.bool false)], args := [d1, d2] }
  | _ => none }
def HomePlaysWrongFalsely : Prop := homePlaysRow.holds Tryd.pinned (OpenSpec.ofChange homePlaysWrong)

/- THE SECOND FORM. 'bulk': how many values and letters a reading holds, each counted each time it is reached (what is shared counts as often as it is met; a slice's spare places count too). A statement '..UptoSaid' is the law's where the arguments, and the package variables that the reading takes, are together of bulk at most 1048576: NARROWER than '..Said'. Prove '..Said' where nothing that the law and all that it calls make is longer than what came in: it says more and counts as full. Else prove '..UptoSaid'. A law counts once. -/
mutual
def uptoBulk {H : Type} : DataW H → Nat
  | .lit (.string bytes) => bytes.length + 1
  | .lit _ => 1
  | .nil => 1
  | .ptr d => uptoBulk d + 1
  | .slice elems spare => uptoBulkAll elems + uptoBulkAll spare + 1
  | .agg parts => uptoBulkAll parts + 1
  | .iface _ d => uptoBulk d + 1
  | .map entries => uptoBulkEntries entries + 1
  | .held _ => 1
def uptoBulkAll {H : Type} : List (DataW H) → Nat
  | [] => 0
  | d :: r => uptoBulk d + uptoBulkAll r
def uptoBulkEntries {H : Type} : List (Lit × DataW H) → Nat
  | [] => 0
  | x :: r => uptoBulkEntry x + uptoBulkEntries r
def uptoBulkEntry {H : Type} : Lit × DataW H → Nat
  | (.string bytes, d) => bytes.length + uptoBulk d + 1
  | (_, d) => uptoBulk d + 1
 end
def uptoSmall : (H : Type) → List (DataW H) → Bool := fun _ ds => decide (uptoBulkAll ds ≤ 1048576)
def OpenSpec.upto (s : _root_.Go.ChangeSpec) : _root_.Go.OpenSpec := { _root_.Go.OpenSpec.ofChange s with cond := some uptoSmall }

/-- 'donjonlaw12.HomeOrder', WHERE WHAT IT READS IS OF BULK AT MOST 1048576: true; the input reads as it did. -/
def homeOrderUptoRow : OpenClaim := { program := "ytagcnlaofkfpjaadoor", sum := "4bf5bd534bce9fd53f419337560b4bfff0350ec93f591eb0567ef1bf95ddd5f0", func := "donjon/donjonlaw12.HomeOrder", spec := "homeOrder", unfollowed := true, recurses := true, named := ["donjon/place.limits"], apart := false, laid := [("donjon/place.limits", laid_donjon_place_limits)], narrowed := true }
def HomeOrderUptoSaid : Prop := homeOrderUptoRow.holds Tryd.pinned (OpenSpec.upto homeOrderSpec)

/-- 'donjonlaw12.HomeApart', WHERE WHAT IT READS IS OF BULK AT MOST 1048576: true; the input reads as it did. -/
def homeApartUptoRow : OpenClaim := { program := "ytagcnlaofkfpjaadoor", sum := "4bf5bd534bce9fd53f419337560b4bfff0350ec93f591eb0567ef1bf95ddd5f0", func := "donjon/donjonlaw12.HomeApart", spec := "homeApart", unfollowed := true, recurses := true, named := ["donjon/place.limits"], apart := false, laid := [("donjon/place.limits", laid_donjon_place_limits)], narrowed := true }
def HomeApartUptoSaid : Prop := homeApartUptoRow.holds Tryd.pinned (OpenSpec.upto homeApartSpec)

/-- 'donjonlaw12.HomeSwept', WHERE WHAT IT READS IS OF BULK AT MOST 1048576: true; the input reads as it did. -/
def homeSweptUptoRow : OpenClaim := { program := "ytagcnlaofkfpjaadoor", sum := "4bf5bd534bce9fd53f419337560b4bfff0350ec93f591eb0567ef1bf95ddd5f0", func := "donjon/donjonlaw12.HomeSwept", spec := "homeSwept", unfollowed := true, recurses := true, named := ["donjon/place.limits"], apart := false, laid := [("donjon/place.limits", laid_donjon_place_limits)], narrowed := true }
def HomeSweptUptoSaid : Prop := homeSweptUptoRow.holds Tryd.pinned (OpenSpec.upto homeSweptSpec)

/-- 'donjonlaw12.HomePlays', WHERE WHAT IT READS IS OF BULK AT MOST 1048576: true; the input reads as it did. -/
def homePlaysUptoRow : OpenClaim := { program := "ytagcnlaofkfpjaadoor", sum := "4bf5bd534bce9fd53f419337560b4bfff0350ec93f591eb0567ef1bf95ddd5f0", func := "donjon/donjonlaw12.HomePlays", spec := "homePlays", unfollowed := true, recurses := true, named := ["donjon/place.limits"], apart := false, laid := [("donjon/place.limits", laid_donjon_place_limits)], narrowed := true }
def HomePlaysUptoSaid : Prop := homePlaysUptoRow.holds Tryd.pinned (OpenSpec.upto homePlaysSpec)

end Rows
end Go.Proofs.YtagcnlaofkfpjaaDoor
