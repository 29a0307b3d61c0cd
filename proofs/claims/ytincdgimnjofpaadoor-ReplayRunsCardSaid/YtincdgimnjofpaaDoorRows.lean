/-
  NARROWER THAN 'FOR EVERY INPUT', by the rows' own cells (each row's printed sentence says how): ReplayRuns: laid.
  DERIVED. THE GIVEN ROWS OF THIS SEAT. 1 by the template 'for every input the law returns true; each argument reads behind the call as it read before'; 0 by the template 'total and deterministic' (their statements: YtincdgimnjofpaaDoorTotals.lean).
  GIVEN WITH THE SEED: the statements are not yours to turn. If you find one false, say at which input.
  Laid BY PROGRAM, IN A SANDBOX (cutbox-rows.mjs): the forced cells as the released guide's own fill.sh prints them over the translation ecdaa932c86485dc… (all of the seat's roots in one cut). By AI agents, Wed Nov 11 2026. No macro, syntax, notation, axiom, sorry.
-/
import Derived.Test.YtincdgimnjofpaaDoorChecked
import GoSem.Claim
import GoSem.ClaimJoined
import GoSem.ClaimMapViews
import Derived.JoinedTies
import Derived.KernelRfl
namespace Go.Proofs.YtincdgimnjofpaaDoor
/- THE CELL 'sum', in the pinned program and in every row, IS THE sha256 OF THE DUMP (.gsa) THAT YtincdgimnjofpaaDoorProg.lean LOADS. Nothing in Lean hashes anything: it is a label: what it is worth is what the hold of that sum in a sandbox is worth. -/
noncomputable def Tryd.pinned : Pinned := { name := "ytincdgimnjofpaadoor", sum := "ecdaa932c86485dcb5dc9ce6ffa25a0d5fec21c6ce4fc750a4f678ac2cd7f9a9", checked := Tryd.checked }
namespace Rows
def none {H : Type} : Left H := { results := [], args := [] }

/- WHAT THE LISTED PACKAGE-LEVEL VARIABLES READ AS WHEN THE CALL BEGINS. Each datum BY PROGRAM (the guide's laid-datum.mjs) off the statement by which the dump's own 'gosem.cut.vars' lays the variable. In a bare row this is a premise. The card (YtincdgimnjofpaaDoorCards.lean) ties it to the program's text. -/
def laid_donjon_place_limits {H : Type} : DataW H := .agg [.lit (.int .i64 4), .lit (.int .i64 16), .lit (.int .i64 8), .lit (.int .i64 4), .lit (.int .i64 16), .lit (.int .i64 8), .lit (.int .i64 4)]
def laid_donjon_isa_ops {H : Type} : DataW H := .agg [.agg [.lit (.string []), .agg [.lit (.int .i64 0), .lit (.int .i64 0), .lit (.int .i64 0)]], .agg [.lit (.string [115, 101, 116]), .agg [.lit (.int .i64 1), .lit (.int .i64 2), .lit (.int .i64 0)]], .agg [.lit (.string [97, 100, 100]), .agg [.lit (.int .i64 1), .lit (.int .i64 1), .lit (.int .i64 1)]], .agg [.lit (.string [108, 111, 97, 100]), .agg [.lit (.int .i64 1), .lit (.int .i64 1), .lit (.int .i64 0)]], .agg [.lit (.string [115, 116, 111, 114, 101]), .agg [.lit (.int .i64 1), .lit (.int .i64 1), .lit (.int .i64 0)]], .agg [.lit (.string [115, 119, 97, 112]), .agg [.lit (.int .i64 1), .lit (.int .i64 1), .lit (.int .i64 0)]], .agg [.lit (.string [102, 101, 110, 99, 101]), .agg [.lit (.int .i64 0), .lit (.int .i64 0), .lit (.int .i64 0)]], .agg [.lit (.string [119, 111, 114, 108, 100]), .agg [.lit (.int .i64 3), .lit (.int .i64 0), .lit (.int .i64 0)]], .agg [.lit (.string [99, 97, 108, 108]), .agg [.lit (.int .i64 4), .lit (.int .i64 1), .lit (.int .i64 1)]], .agg [.lit (.string [106, 117, 109, 112]), .agg [.lit (.int .i64 5), .lit (.int .i64 0), .lit (.int .i64 0)]], .agg [.lit (.string [122, 101, 114, 111]), .agg [.lit (.int .i64 1), .lit (.int .i64 5), .lit (.int .i64 0)]], .agg [.lit (.string [104, 97, 108, 116]), .agg [.lit (.int .i64 0), .lit (.int .i64 0), .lit (.int .i64 0)]]]

/-- 'donjonlaw18.ReplayRuns': WHATEVER THE INPUT: true; the input reads as it did. -/
def replayRunsSpec : ChangeSpec := { name := "replayRuns", fn := fun _ => fun
  | [d1, d2] => { results := [.lit (.bool true)], args := [d1, d2] }
  | _ => none }
def replayRunsRow : OpenClaim := { program := "ytincdgimnjofpaadoor", sum := "ecdaa932c86485dcb5dc9ce6ffa25a0d5fec21c6ce4fc750a4f678ac2cd7f9a9", func := "donjon/donjonlaw18.ReplayRuns", spec := "replayRuns", unfollowed := true, recurses := true, named := ["donjon/place.limits", "donjon/isa.ops"], apart := false, laid := [("donjon/place.limits", laid_donjon_place_limits), ("donjon/isa.ops", laid_donjon_isa_ops)] }
def ReplayRunsSaid : Prop := replayRunsRow.holds Tryd.pinned (OpenSpec.ofChange replayRunsSpec)

/-- ITS FALSE NEIGHBOUR: 'it returns false'. Refute it at one input. -/
def replayRunsWrong : ChangeSpec := { name := "replayRuns", fn := fun _ => fun
  | [d1, d2] => { results := [.lit (.bool false)], args := [d1, d2] }
  | _ => none }
def ReplayRunsWrongFalsely : Prop := replayRunsRow.holds Tryd.pinned (OpenSpec.ofChange replayRunsWrong)

/- THE SECOND FORM. 'bulk': how many values and letters a reading holds, each counted each time it is reached (what is shared counts as often as it is met; a slice's spare places count too). A statement '..UptoSaid' is the law's where the arguments, and the package variables that the reading takes, are together of bulk at most 1048576: NARROWER than '..Said'. Prove '..Said' where nothing that the law and all that it calls make is longer than what came in: it says more and counts as full. Else prove '..UptoSaid'. A law counts once. -/
mutual
def uptoBulk {H : Type} : DataW H → Nat
  | .lit (.string bytes) => bytes.length + 1
  | .lit _ => 1
  | .nil => 1
  | .ptr d => uptoBulk d + 1
  | .slice elems spare => uptoBulkAll elems + uptoBulkAll spare + 1
  | .agg parts => uptoBulkAll parts + 1
  | .iface _ d => uptoBulk d + 1
  | .map entries => uptoBulkEntries entries + 1
  | .held _ => 1
def uptoBulkAll {H : Type} : List (DataW H) → Nat
  | [] => 0
  | d :: r => uptoBulk d + uptoBulkAll r
def uptoBulkEntries {H : Type} : List (Lit × DataW H) → Nat
  | [] => 0
  | x :: r => uptoBulkEntry x + uptoBulkEntries r
def uptoBulkEntry {H : Type} : Lit × DataW H → Nat
  | (.string bytes, d) => bytes.length + uptoBulk d + 1
  | (_, d) => uptoBulk d + 1
 end
def uptoSmall : (H : Type) → List (DataW H) → Bool := fun _ ds => decide (uptoBulkAll ds ≤ 1048576)
def OpenSpec.upto (s : _root_.Go.ChangeSpec) : _root_.Go.OpenSpec := { _root_.Go.OpenSpec.ofChange s with cond := some uptoSmall }

/-- 'donjonlaw18.ReplayRuns', WHERE WHAT IT READS IS OF BULK AT MOST 1048576: true; the input reads as it did. -/
def replayRunsUptoRow : OpenClaim := { program := "ytincdgimnjofpaadoor", sum := "ecdaa932c86485dcb5dc9ce6ffa25a0d5fec21c6ce4fc750a4f678ac2cd7f9a9", func := "donjon/donjonlaw18.ReplayRuns", spec := "replayRuns", unfollowed := true, recurses := true, named := ["donjon/place.limits", "donjon/isa.ops"], apart := false, laid := [("donjon/place.limits", laid_donjon_place_limits), ("donjon/isa.ops", laid_donjon_isa_ops)], narrowed := true }
def ReplayRunsUptoSaid : Prop := replayRunsUptoRow.holds Tryd.pinned (OpenSpec.upto replayRunsSpec)

end Rows
end Go.Proofs.YtincdgimnjofpaaDoor
