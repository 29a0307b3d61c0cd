/-
  NARROWER THAN 'FOR EVERY INPUT', by the rows' own cells (each row's printed sentence says how): SafeOrder: laid.
  DERIVED. THE GIVEN ROWS OF THIS SEAT. 1 by the template 'for every input the law returns true; each argument reads behind the call as it read before'; 0 by the template 'total and deterministic' (their statements: YtemlagiabnkceaaDoorTotals.lean).
  GIVEN WITH THE SEED: the statements are not yours to turn. If you find one false, say at which input.
  Laid BY PROGRAM, IN A SANDBOX (cutbox-rows.mjs): the forced cells as the released guide's own fill.sh prints them over the translation 89fe99becc0dcd4e… (all of the seat's roots in one cut). By AI agents, Wed Nov 11 2026. No macro, syntax, notation, axiom, sorry.
-/
import Derived.Test.YtemlagiabnkceaaDoorChecked
import GoSem.Claim
import GoSem.ClaimJoined
import GoSem.ClaimMapViews
import Derived.JoinedTies
import Derived.KernelRfl
namespace Go.Proofs.YtemlagiabnkceaaDoor
/- THE CELL 'sum', in the pinned program and in every row, IS THE sha256 OF THE DUMP (.gsa) THAT YtemlagiabnkceaaDoorProg.lean LOADS. Nothing in Lean hashes anything: it is a label: what it is worth is what the hold of that sum in a sandbox is worth. -/
noncomputable def Tryd.pinned : Pinned := { name := "ytemlagiabnkceaadoor", sum := "89fe99becc0dcd4ea6f7188ba27ced9a4146e75c81324596b716c6ceed1af3e4", checked := Tryd.checked }
namespace Rows
def none {H : Type} : Left H := { results := [], args := [] }

/- WHAT THE LISTED PACKAGE-LEVEL VARIABLES READ AS WHEN THE CALL BEGINS. Each datum BY PROGRAM (the guide's laid-datum.mjs) off the statement by which the dump's own 'gosem.cut.vars' lays the variable. In a bare row this is a premise. The card (YtemlagiabnkceaaDoorCards.lean) ties it to the program's text. -/
def laid_donjon_moesi_rows {H : Type} : DataW H := .agg [.agg [.lit (.string [73]), .lit (.bool false), .lit (.bool false), .lit (.bool false), .lit (.bool false), .lit (.int .i64 0), .lit (.int .i64 0), .lit (.int .i64 0)], .agg [.lit (.string [83]), .lit (.bool true), .lit (.bool false), .lit (.bool false), .lit (.bool false), .lit (.int .i64 0), .lit (.int .i64 1), .lit (.int .i64 0)], .agg [.lit (.string [69]), .lit (.bool true), .lit (.bool true), .lit (.bool false), .lit (.bool true), .lit (.int .i64 4), .lit (.int .i64 1), .lit (.int .i64 0)], .agg [.lit (.string [79]), .lit (.bool true), .lit (.bool false), .lit (.bool true), .lit (.bool true), .lit (.int .i64 0), .lit (.int .i64 3), .lit (.int .i64 0)], .agg [.lit (.string [77]), .lit (.bool true), .lit (.bool true), .lit (.bool true), .lit (.bool true), .lit (.int .i64 4), .lit (.int .i64 3), .lit (.int .i64 0)]]
def laid_donjon_place_limits {H : Type} : DataW H := .agg [.lit (.int .i64 4), .lit (.int .i64 16), .lit (.int .i64 8), .lit (.int .i64 4), .lit (.int .i64 16), .lit (.int .i64 8), .lit (.int .i64 4)]

/-- 'donjonlaw17.SafeOrder': WHATEVER THE INPUT: true; the input reads as it did. -/
def safeOrderSpec : ChangeSpec := { name := "safeOrder", fn := fun _ => fun
  | [d] => { results := [.lit (.bool true)], args := [d] }
  | _ => none }
def safeOrderRow : OpenClaim := { program := "ytemlagiabnkceaadoor", sum := "89fe99becc0dcd4ea6f7188ba27ced9a4146e75c81324596b716c6ceed1af3e4", func := "donjon/donjonlaw17.SafeOrder", spec := "safeOrder", unfollowed := true, recurses := true, named := ["donjon/place.limits", "donjon/moesi.rows"], apart := false, laid := [("donjon/moesi.rows", laid_donjon_moesi_rows), ("donjon/place.limits", laid_donjon_place_limits)] }
def SafeOrderSaid : Prop := safeOrderRow.holds Tryd.pinned (OpenSpec.ofChange safeOrderSpec)

/-- ITS FALSE NEIGHBOUR: 'it returns false'. Refute it at one input. -/
def safeOrderWrong : ChangeSpec := { name := "safeOrder", fn := fun _ => fun
  | [d] => { results := [.lit (.bool false)], args := [d] }
  | _ => none }
def SafeOrderWrongFalsely : Prop := safeOrderRow.holds Tryd.pinned (OpenSpec.ofChange safeOrderWrong)

/- THE SECOND FORM. 'bulk': how many values and letters a reading holds, each counted each time it is reached (what is shared counts as often as it is met; a slice's spare places count too). A statement '..UptoSaid' is the law's where the arguments, and the package variables that the reading takes, are together of bulk at most 1048576: NARROWER than '..Said'. Prove '..Said' where nothing that the law and all that it calls make is longer than what came in: it says more and counts as full. Else prove '..UptoSaid'. A law counts once. -/
mutual
def uptoBulk {H : Type} : DataW H → Nat
  | .lit (.string bytes) => bytes.length + 1
  | .lit _ => 1
  | .nil => 1
  | .ptr d => uptoBulk d + 1
  | .slice elems spare => uptoBulkAll elems + uptoBulkAll spare + 1
  | .agg parts => uptoBulkAll parts + 1
  | .iface _ d => uptoBulk d + 1
  | .map entries => uptoBulkEntries entries + 1
  | .held _ => 1
def uptoBulkAll {H : Type} : List (DataW H) → Nat
  | [] => 0
  | d :: r => uptoBulk d + uptoBulkAll r
def uptoBulkEntries {H : Type} : List (Lit × DataW H) → Nat
  | [] => 0
  | x :: r => uptoBulkEntry x + uptoBulkEntries r
def uptoBulkEntry {H : Type} : Lit × DataW H → Nat
  | (.string bytes, d) => bytes.length + uptoBulk d + 1
  | (_, d) => uptoBulk d + 1
 end
def uptoSmall : (H : Type) → List (DataW H) → Bool := fun _ ds => decide (uptoBulkAll ds ≤ 1048576)
def OpenSpec.upto (s : _root_.Go.ChangeSpec) : _root_.Go.OpenSpec := { _root_.Go.OpenSpec.ofChange s with cond := some uptoSmall }

/-- 'donjonlaw17.SafeOrder', WHERE WHAT IT READS IS OF BULK AT MOST 1048576: true; the input reads as it did. -/
def safeOrderUptoRow : OpenClaim := { program := "ytemlagiabnkceaadoor", sum := "89fe99becc0dcd4ea6f7188ba27ced9a4146e75c81324596b716c6ceed1af3e4", func := "donjon/donjonlaw17.SafeOrder", spec := "safeOrder", unfollowed := true, recurses := true, named := ["donjon/place.limits", "donjon/moesi.rows"], apart := false, laid := [("donjon/moesi.rows", laid_donjon_moesi_rows), ("donjon/place.limits", laid_donjon_place_limits)], narrowed := true }
def SafeOrderUptoSaid : Prop := safeOrderUptoRow.holds Tryd.pinned (OpenSpec.upto safeOrderSpec)

end Rows
end Go.Proofs.YtemlagiabnkceaaDoor
