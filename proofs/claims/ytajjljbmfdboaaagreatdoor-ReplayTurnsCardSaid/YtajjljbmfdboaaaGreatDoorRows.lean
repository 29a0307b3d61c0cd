/-
  NARROWER THAN 'FOR EVERY INPUT', by the rows' own cells (each row's printed sentence says how): MachineNil: laid · FairNil: laid · MachineNews: laid · MachineCopies: laid · MachineMany: laid · MachineProgram: laid · MachineWaits: laid · MachineMemory: laid · FairFew: laid · FairEnds: laid · ReplayTells: laid · ReplayTurns: laid.
  DERIVED. THE GIVEN ROWS OF THIS SEAT. 12 by the template 'for every input the law returns true; each argument reads behind the call as it read before'; 0 by the template 'total and deterministic' (their statements: YtajjljbmfdboaaaGreatDoorTotals.lean).
  GIVEN WITH THE SEED: the statements are not yours to turn. If you find one false, say at which input.
  Laid BY PROGRAM, IN A SANDBOX (cutbox-rows.mjs): the forced cells as the released guide's own fill.sh prints them over the translation 067fce1340a10e88… (all of the seat's roots in one cut). By AI agents, Wed Nov 11 2026. No macro, syntax, notation, axiom, sorry.
-/
import Derived.Test.YtajjljbmfdboaaaGreatDoorChecked
import GoSem.Claim
import GoSem.ClaimJoined
import GoSem.ClaimMapViews
import Derived.JoinedTies
import Derived.KernelRfl
namespace Go.Proofs.YtajjljbmfdboaaaGreatDoor
/- THE CELL 'sum', in the pinned program and in every row, IS THE sha256 OF THE DUMP (.gsa) THAT YtajjljbmfdboaaaGreatDoorProg.lean LOADS. Nothing in Lean hashes anything: it is a label: what it is worth is what the hold of that sum in a sandbox is worth. -/
noncomputable def Tryz.pinned : Pinned := { name := "ytajjljbmfdboaaagreatdoor", sum := "067fce1340a10e885fd3535d4eca2573e5e451d712ecb99816fc0e7f021a6447", checked := Tryz.checked }
namespace Rows
def none {H : Type} : Left H := { results := [], args := [] }

/- WHAT THE LISTED PACKAGE-LEVEL VARIABLES READ AS WHEN THE CALL BEGINS. Each datum BY PROGRAM (the guide's laid-datum.mjs) off the statement by which the dump's own 'gosem.cut.vars' lays the variable. In a bare row this is a premise. The card (YtajjljbmfdboaaaGreatDoorCards.lean) ties it to the program's text. -/
def laid_donjon_moesi_rows {H : Type} : DataW H := .agg [.agg [.lit (.string [73]), .lit (.bool false), .lit (.bool false), .lit (.bool false), .lit (.bool false), .lit (.int .i64 0), .lit (.int .i64 0), .lit (.int .i64 0)], .agg [.lit (.string [83]), .lit (.bool true), .lit (.bool false), .lit (.bool false), .lit (.bool false), .lit (.int .i64 0), .lit (.int .i64 1), .lit (.int .i64 0)], .agg [.lit (.string [69]), .lit (.bool true), .lit (.bool true), .lit (.bool false), .lit (.bool true), .lit (.int .i64 4), .lit (.int .i64 1), .lit (.int .i64 0)], .agg [.lit (.string [79]), .lit (.bool true), .lit (.bool false), .lit (.bool true), .lit (.bool true), .lit (.int .i64 0), .lit (.int .i64 3), .lit (.int .i64 0)], .agg [.lit (.string [77]), .lit (.bool true), .lit (.bool true), .lit (.bool true), .lit (.bool true), .lit (.int .i64 4), .lit (.int .i64 3), .lit (.int .i64 0)]]
def laid_donjon_place_limits {H : Type} : DataW H := .agg [.lit (.int .i64 4), .lit (.int .i64 16), .lit (.int .i64 8), .lit (.int .i64 4), .lit (.int .i64 16), .lit (.int .i64 8), .lit (.int .i64 4)]
def laid_donjon_isa_ops {H : Type} : DataW H := .agg [.agg [.lit (.string []), .agg [.lit (.int .i64 0), .lit (.int .i64 0), .lit (.int .i64 0)]], .agg [.lit (.string [115, 101, 116]), .agg [.lit (.int .i64 1), .lit (.int .i64 2), .lit (.int .i64 0)]], .agg [.lit (.string [97, 100, 100]), .agg [.lit (.int .i64 1), .lit (.int .i64 1), .lit (.int .i64 1)]], .agg [.lit (.string [108, 111, 97, 100]), .agg [.lit (.int .i64 1), .lit (.int .i64 1), .lit (.int .i64 0)]], .agg [.lit (.string [115, 116, 111, 114, 101]), .agg [.lit (.int .i64 1), .lit (.int .i64 1), .lit (.int .i64 0)]], .agg [.lit (.string [115, 119, 97, 112]), .agg [.lit (.int .i64 1), .lit (.int .i64 1), .lit (.int .i64 0)]], .agg [.lit (.string [102, 101, 110, 99, 101]), .agg [.lit (.int .i64 0), .lit (.int .i64 0), .lit (.int .i64 0)]], .agg [.lit (.string [119, 111, 114, 108, 100]), .agg [.lit (.int .i64 3), .lit (.int .i64 0), .lit (.int .i64 0)]], .agg [.lit (.string [99, 97, 108, 108]), .agg [.lit (.int .i64 4), .lit (.int .i64 1), .lit (.int .i64 1)]], .agg [.lit (.string [106, 117, 109, 112]), .agg [.lit (.int .i64 5), .lit (.int .i64 0), .lit (.int .i64 0)]], .agg [.lit (.string [122, 101, 114, 111]), .agg [.lit (.int .i64 1), .lit (.int .i64 5), .lit (.int .i64 0)]], .agg [.lit (.string [104, 97, 108, 116]), .agg [.lit (.int .i64 0), .lit (.int .i64 0), .lit (.int .i64 0)]]]
def laid_donjon_note_kinds {H : Type} : DataW H := .agg [.agg [.lit (.string []), .lit (.int .i64 0), .agg [.lit (.int .i64 0), .lit (.int .i64 0), .lit (.int .i64 0), .lit (.int .i64 0), .lit (.int .i64 0), .lit (.int .i64 0), .lit (.int .i64 0)]], .agg [.lit (.string [103, 101, 116, 115]), .lit (.int .i64 0), .agg [.lit (.int .i64 1), .lit (.int .i64 2), .lit (.int .i64 3), .lit (.int .i64 0), .lit (.int .i64 0), .lit (.int .i64 0), .lit (.int .i64 0)]], .agg [.lit (.string [103, 101, 116, 109]), .lit (.int .i64 0), .agg [.lit (.int .i64 1), .lit (.int .i64 2), .lit (.int .i64 3), .lit (.int .i64 0), .lit (.int .i64 0), .lit (.int .i64 0), .lit (.int .i64 0)]], .agg [.lit (.string [112, 117, 116]), .lit (.int .i64 0), .agg [.lit (.int .i64 1), .lit (.int .i64 2), .lit (.int .i64 4), .lit (.int .i64 8), .lit (.int .i64 9), .lit (.int .i64 10), .lit (.int .i64 0)]], .agg [.lit (.string [100, 111, 110, 101]), .lit (.int .i64 1), .agg [.lit (.int .i64 1), .lit (.int .i64 2), .lit (.int .i64 0), .lit (.int .i64 0), .lit (.int .i64 0), .lit (.int .i64 0), .lit (.int .i64 0)]], .agg [.lit (.string [114, 101, 112, 108, 121]), .lit (.int .i64 1), .agg [.lit (.int .i64 1), .lit (.int .i64 2), .lit (.int .i64 5), .lit (.int .i64 8), .lit (.int .i64 9), .lit (.int .i64 10), .lit (.int .i64 11)]], .agg [.lit (.string [119, 97, 108, 107]), .lit (.int .i64 0), .agg [.lit (.int .i64 1), .lit (.int .i64 12), .lit (.int .i64 0), .lit (.int .i64 0), .lit (.int .i64 0), .lit (.int .i64 0), .lit (.int .i64 0)]], .agg [.lit (.string [100, 114, 111, 112, 112, 101, 100]), .lit (.int .i64 1), .agg [.lit (.int .i64 1), .lit (.int .i64 13), .lit (.int .i64 0), .lit (.int .i64 0), .lit (.int .i64 0), .lit (.int .i64 0), .lit (.int .i64 0)]], .agg [.lit (.string [103, 114, 97, 110, 116]), .lit (.int .i64 2), .agg [.lit (.int .i64 1), .lit (.int .i64 2), .lit (.int .i64 4), .lit (.int .i64 6), .lit (.int .i64 8), .lit (.int .i64 9), .lit (.int .i64 0)]], .agg [.lit (.string [110, 97, 99, 107]), .lit (.int .i64 2), .agg [.lit (.int .i64 1), .lit (.int .i64 2), .lit (.int .i64 11), .lit (.int .i64 0), .lit (.int .i64 0), .lit (.int .i64 0), .lit (.int .i64 0)]], .agg [.lit (.string [112, 117, 116, 97, 99, 107]), .lit (.int .i64 2), .agg [.lit (.int .i64 1), .lit (.int .i64 2), .lit (.int .i64 0), .lit (.int .i64 0), .lit (.int .i64 0), .lit (.int .i64 0), .lit (.int .i64 0)]], .agg [.lit (.string [112, 114, 111, 98, 101]), .lit (.int .i64 3), .agg [.lit (.int .i64 1), .lit (.int .i64 2), .lit (.int .i64 7), .lit (.int .i64 0), .lit (.int .i64 0), .lit (.int .i64 0), .lit (.int .i64 0)]], .agg [.lit (.string [119, 97, 108, 107, 101, 100]), .lit (.int .i64 2), .agg [.lit (.int .i64 1), .lit (.int .i64 8), .lit (.int .i64 9), .lit (.int .i64 12), .lit (.int .i64 0), .lit (.int .i64 0), .lit (.int .i64 0)]], .agg [.lit (.string [100, 114, 111, 112]), .lit (.int .i64 3), .agg [.lit (.int .i64 1), .lit (.int .i64 13), .lit (.int .i64 0), .lit (.int .i64 0), .lit (.int .i64 0), .lit (.int .i64 0), .lit (.int .i64 0)]]]

/-- 'donjonlaw16.MachineNil': WHATEVER THE INPUT: true; the input reads as it did. -/
def machineNilSpec : ChangeSpec := { name := "machineNil", fn := fun _ => fun
  | [d] => { results := [.lit (.bool true)], args := [d] }
  | _ => none }
def machineNilRow : OpenClaim := { program := "ytajjljbmfdboaaagreatdoor", sum := "067fce1340a10e885fd3535d4eca2573e5e451d712ecb99816fc0e7f021a6447", func := "donjon/donjonlaw16.MachineNil", spec := "machineNil", unfollowed := true, recurses := true, named := ["donjon/place.limits", "donjon/note.kinds", "donjon/moesi.rows", "donjon/isa.ops"], apart := false, laid := [("donjon/moesi.rows", laid_donjon_moesi_rows), ("donjon/place.limits", laid_donjon_place_limits), ("donjon/isa.ops", laid_donjon_isa_ops), ("donjon/note.kinds", laid_donjon_note_kinds)] }
def MachineNilSaid : Prop := machineNilRow.holds Tryz.pinned (OpenSpec.ofChange machineNilSpec)

/-- ITS FALSE NEIGHBOUR: 'it returns false'. Refute it at one input. -/
def machineNilWrong : ChangeSpec := { name := "machineNil", fn := fun _ => fun
  | [d] => { results := [.lit (.bool false)], args := [d] }
  | _ => none }
def MachineNilWrongFalsely : Prop := machineNilRow.holds Tryz.pinned (OpenSpec.ofChange machineNilWrong)

/-- 'donjonlaw19.FairNil': WHATEVER THE INPUT: true; the input reads as it did. -/
def fairNilSpec : ChangeSpec := { name := "fairNil", fn := fun _ => fun
  | [d] => { results := [.lit (.bool true)], args := [d] }
  | _ => none }
def fairNilRow : OpenClaim := { program := "ytajjljbmfdboaaagreatdoor", sum := "067fce1340a10e885fd3535d4eca2573e5e451d712ecb99816fc0e7f021a6447", func := "donjon/donjonlaw19.FairNil", spec := "fairNil", unfollowed := true, recurses := true, named := ["donjon/place.limits", "donjon/note.kinds", "donjon/moesi.rows", "donjon/isa.ops"], apart := false, laid := [("donjon/moesi.rows", laid_donjon_moesi_rows), ("donjon/place.limits", laid_donjon_place_limits), ("donjon/isa.ops", laid_donjon_isa_ops), ("donjon/note.kinds", laid_donjon_note_kinds)] }
def FairNilSaid : Prop := fairNilRow.holds Tryz.pinned (OpenSpec.ofChange fairNilSpec)

/-- ITS FALSE NEIGHBOUR: 'it returns false'. Refute it at one input. -/
def fairNilWrong : ChangeSpec := { name := "fairNil", fn := fun _ => fun
  | [d] => { results := [.lit (.bool false)], args := [d] }
  | _ => none }
def FairNilWrongFalsely : Prop := fairNilRow.holds Tryz.pinned (OpenSpec.ofChange fairNilWrong)

/-- 'donjonlaw16.MachineNews': WHATEVER THE INPUT: true; the input reads as it did. -/
def machineNewsSpec : ChangeSpec := { name := "machineNews", fn := fun _ => fun
  | [d] => { results := [.lit (.bool true)], args := [d] }
  | _ => none }
def machineNewsRow : OpenClaim := { program := "ytajjljbmfdboaaagreatdoor", sum := "067fce1340a10e885fd3535d4eca2573e5e451d712ecb99816fc0e7f021a6447", func := "donjon/donjonlaw16.MachineNews", spec := "machineNews", unfollowed := true, recurses := true, named := ["donjon/place.limits", "donjon/isa.ops", "donjon/note.kinds", "donjon/moesi.rows"], apart := false, laid := [("donjon/moesi.rows", laid_donjon_moesi_rows), ("donjon/place.limits", laid_donjon_place_limits), ("donjon/isa.ops", laid_donjon_isa_ops), ("donjon/note.kinds", laid_donjon_note_kinds)] }
def MachineNewsSaid : Prop := machineNewsRow.holds Tryz.pinned (OpenSpec.ofChange machineNewsSpec)

/-- ITS FALSE NEIGHBOUR: 'it returns false'. Refute it at one input. -/
def machineNewsWrong : ChangeSpec := { name := "machineNews", fn := fun _ => fun
  | [d] => { results := [.lit (.bool false)], args := [d] }
  | _ => none }
def MachineNewsWrongFalsely : Prop := machineNewsRow.holds Tryz.pinned (OpenSpec.ofChange machineNewsWrong)

/-- 'donjonlaw16.MachineCopies': WHATEVER THE INPUT: true; the input reads as it did. -/
def machineCopiesSpec : ChangeSpec := { name := "machineCopies", fn := fun _ => fun
  | [d1, d2, d3] => { results := [.lit (.bool true)], args := [d1, d2, d3] }
  | _ => none }
def machineCopiesRow : OpenClaim := { program := "ytajjljbmfdboaaagreatdoor", sum := "067fce1340a10e885fd3535d4eca2573e5e451d712ecb99816fc0e7f021a6447", func := "donjon/donjonlaw16.MachineCopies", spec := "machineCopies", unfollowed := true, recurses := true, named := ["donjon/place.limits", "donjon/isa.ops", "donjon/note.kinds", "donjon/moesi.rows"], apart := false, laid := [("donjon/moesi.rows", laid_donjon_moesi_rows), ("donjon/place.limits", laid_donjon_place_limits), ("donjon/isa.ops", laid_donjon_isa_ops), ("donjon/note.kinds", laid_donjon_note_kinds)] }
def MachineCopiesSaid : Prop := machineCopiesRow.holds Tryz.pinned (OpenSpec.ofChange machineCopiesSpec)

/-- ITS FALSE NEIGHBOUR: 'it returns false'. Refute it at one input. -/
def machineCopiesWrong : ChangeSpec := { name := "machineCopies", fn := fun _ => fun
  | [d1, d2, d3] => { results := [.lit (.bool false)], args := [d1, d2, d3] }
  | _ => none }
def MachineCopiesWrongFalsely : Prop := machineCopiesRow.holds Tryz.pinned (OpenSpec.ofChange machineCopiesWrong)

/-- 'donjonlaw16.MachineMany': WHATEVER THE INPUT: true; the input reads as it did. -/
def machineManySpec : ChangeSpec := { name := "machineMany", fn := fun _ => fun
  | [d1, d2] => { results := [.lit (.bool true)], args := [d1, d2] }
  | _ => none }
def machineManyRow : OpenClaim := { program := "ytajjljbmfdboaaagreatdoor", sum := "067fce1340a10e885fd3535d4eca2573e5e451d712ecb99816fc0e7f021a6447", func := "donjon/donjonlaw16.MachineMany", spec := "machineMany", unfollowed := true, recurses := true, named := ["donjon/place.limits", "donjon/isa.ops", "donjon/note.kinds", "donjon/moesi.rows"], apart := false, laid := [("donjon/moesi.rows", laid_donjon_moesi_rows), ("donjon/place.limits", laid_donjon_place_limits), ("donjon/isa.ops", laid_donjon_isa_ops), ("donjon/note.kinds", laid_donjon_note_kinds)] }
def MachineManySaid : Prop := machineManyRow.holds Tryz.pinned (OpenSpec.ofChange machineManySpec)

/-- ITS FALSE NEIGHBOUR: 'it returns false'. Refute it at one input. -/
def machineManyWrong : ChangeSpec := { name := "machineMany", fn := fun _ => fun
  | [d1, d2] => { results := [.lit (.bool false)], args := [d1, d2] }
  | _ => none }
def MachineManyWrongFalsely : Prop := machineManyRow.holds Tryz.pinned (OpenSpec.ofChange machineManyWrong)

/-- 'donjonlaw16.MachineProgram': WHATEVER THE INPUT: true; the input reads as it did. -/
def machineProgramSpec : ChangeSpec := { name := "machineProgram", fn := fun _ => fun
  | [d1, d2] => { results := [.lit (.bool true)], args := [d1, d2] }
  | _ => none }
def machineProgramRow : OpenClaim := { program := "ytajjljbmfdboaaagreatdoor", sum := "067fce1340a10e885fd3535d4eca2573e5e451d712ecb99816fc0e7f021a6447", func := "donjon/donjonlaw16.MachineProgram", spec := "machineProgram", unfollowed := true, recurses := true, named := ["donjon/place.limits", "donjon/isa.ops", "donjon/note.kinds", "donjon/moesi.rows"], apart := false, laid := [("donjon/moesi.rows", laid_donjon_moesi_rows), ("donjon/place.limits", laid_donjon_place_limits), ("donjon/isa.ops", laid_donjon_isa_ops), ("donjon/note.kinds", laid_donjon_note_kinds)] }
def MachineProgramSaid : Prop := machineProgramRow.holds Tryz.pinned (OpenSpec.ofChange machineProgramSpec)

/-- ITS FALSE NEIGHBOUR: 'it returns false'. Refute it at one input. -/
def machineProgramWrong : ChangeSpec := { name := "machineProgram", fn := fun _ => fun
  | [d1, d2] => { results := [.lit (.bool false)], args := [d1, d2] }
  | _ => none }
def MachineProgramWrongFalsely : Prop := machineProgramRow.holds Tryz.pinned (OpenSpec.ofChange machineProgramWrong)

/-- 'donjonlaw16.MachineWaits': WHATEVER THE INPUT: true; the input reads as it did. -/
def machineWaitsSpec : ChangeSpec := { name := "machineWaits", fn := fun _ => fun
  | [d1, d2] => { results := [.lit (.bool true)], args := [d1, d2] }
  | _ => none }
def machineWaitsRow : OpenClaim := { program := "ytajjljbmfdboaaagreatdoor", sum := "067fce1340a10e885fd3535d4eca2573e5e451d712ecb99816fc0e7f021a6447", func := "donjon/donjonlaw16.MachineWaits", spec := "machineWaits", unfollowed := true, recurses := true, named := ["donjon/place.limits", "donjon/isa.ops", "donjon/note.kinds", "donjon/moesi.rows"], apart := false, laid := [("donjon/moesi.rows", laid_donjon_moesi_rows), ("donjon/place.limits", laid_donjon_place_limits), ("donjon/isa.ops", laid_donjon_isa_ops), ("donjon/note.kinds", laid_donjon_note_kinds)] }
def MachineWaitsSaid : Prop := machineWaitsRow.holds Tryz.pinned (OpenSpec.ofChange machineWaitsSpec)

/-- ITS FALSE NEIGHBOUR: 'it returns false'. Refute it at one input. -/
def machineWaitsWrong : ChangeSpec := { name := "machineWaits", fn := fun _ => fun
  | [d1, d2] => { results := [.lit (.bool false)], args := [d1, d2] }
  | _ => none }
def MachineWaitsWrongFalsely : Prop := machineWaitsRow.holds Tryz.pinned (OpenSpec.ofChange machineWaitsWrong)

/-- 'donjonlaw16.MachineMemory': WHATEVER THE INPUT: true; the input reads as it did. -/
def machineMemorySpec : ChangeSpec := { name := "machineMemory", fn := fun _ => fun
  | [d1, d2] => { results := [.lit (.bool true)], args := [d1, d2] }
  | _ => none }
def machineMemoryRow : OpenClaim := { program := "ytajjljbmfdboaaagreatdoor", sum := "067fce1340a10e885fd3535d4eca2573e5e451d712ecb99816fc0e7f021a6447", func := "donjon/donjonlaw16.MachineMemory", spec := "machineMemory", unfollowed := true, recurses := true, named := ["donjon/place.limits", "donjon/isa.ops", "donjon/note.kinds", "donjon/moesi.rows"], apart := false, laid := [("donjon/moesi.rows", laid_donjon_moesi_rows), ("donjon/place.limits", laid_donjon_place_limits), ("donjon/isa.ops", laid_donjon_isa_ops), ("donjon/note.kinds", laid_donjon_note_kinds)] }
def MachineMemorySaid : Prop := machineMemoryRow.holds Tryz.pinned (OpenSpec.ofChange machineMemorySpec)

/-- ITS FALSE NEIGHBOUR: 'it returns false'. Refute it at one input. -/
def machineMemoryWrong : ChangeSpec := { name := "machineMemory", fn := fun _ => fun
  | [d1, d2] => { results := [.lit (.bool false)], args := [d1, d2] }
  | _ => none }
def MachineMemoryWrongFalsely : Prop := machineMemoryRow.holds Tryz.pinned (OpenSpec.ofChange machineMemoryWrong)

/-- 'donjonlaw19.FairFew': WHATEVER THE INPUT: true; the input reads as it did. -/
def fairFewSpec : ChangeSpec := { name := "fairFew", fn := fun _ => fun
  | [d1, d2] => { results := [.lit (.bool true)], args := [d1, d2] }
  | _ => none }
def fairFewRow : OpenClaim := { program := "ytajjljbmfdboaaagreatdoor", sum := "067fce1340a10e885fd3535d4eca2573e5e451d712ecb99816fc0e7f021a6447", func := "donjon/donjonlaw19.FairFew", spec := "fairFew", unfollowed := true, recurses := true, named := ["donjon/place.limits", "donjon/isa.ops", "donjon/note.kinds", "donjon/moesi.rows"], apart := false, laid := [("donjon/moesi.rows", laid_donjon_moesi_rows), ("donjon/place.limits", laid_donjon_place_limits), ("donjon/isa.ops", laid_donjon_isa_ops), ("donjon/note.kinds", laid_donjon_note_kinds)] }
def FairFewSaid : Prop := fairFewRow.holds Tryz.pinned (OpenSpec.ofChange fairFewSpec)

/-- ITS FALSE NEIGHBOUR: 'it returns false'. Refute it at one input. -/
def fairFewWrong : ChangeSpec := { name := "fairFew", fn := fun _ => fun
  | [d1, d2] => { results := [.lit (.bool false)], args := [d1, d2] }
  | _ => none }
def FairFewWrongFalsely : Prop := fairFewRow.holds Tryz.pinned (OpenSpec.ofChange fairFewWrong)

/-- 'donjonlaw19.FairEnds': WHATEVER THE INPUT: true; the input reads as it did. -/
def fairEndsSpec : ChangeSpec := { name := "fairEnds", fn := fun _ => fun
  | [d1, d2] => { results := [.lit (.bool true)], args := [d1, d2] }
  | _ => none }
def fairEndsRow : OpenClaim := { program := "ytajjljbmfdboaaagreatdoor", sum := "067fce1340a10e885fd3535d4eca2573e5e451d712ecb99816fc0e7f021a6447", func := "donjon/donjonlaw19.FairEnds", spec := "fairEnds", unfollowed := true, recurses := true, named := ["donjon/place.limits", "donjon/isa.ops", "donjon/note.kinds", "donjon/moesi.rows"], apart := false, laid := [("donjon/moesi.rows", laid_donjon_moesi_rows), ("donjon/place.limits", laid_donjon_place_limits), ("donjon/isa.ops", laid_donjon_isa_ops), ("donjon/note.kinds", laid_donjon_note_kinds)] }
def FairEndsSaid : Prop := fairEndsRow.holds Tryz.pinned (OpenSpec.ofChange fairEndsSpec)

/-- ITS FALSE NEIGHBOUR: 'it returns false'. Refute it at one input. -/
def fairEndsWrong : ChangeSpec := { name := "fairEnds", fn := fun _ => fun
  | [d1, d2] => { results := [.lit (.bool false)], args := [d1, d2] }
  | _ => none }
def FairEndsWrongFalsely : Prop := fairEndsRow.holds Tryz.pinned (OpenSpec.ofChange fairEndsWrong)

/-- 'donjonlaw18.ReplayTells': WHATEVER THE INPUT: true; the input reads as it did. -/
def replayTellsSpec : ChangeSpec := { name := "replayTells", fn := fun _ => fun
  | [d1, d2, d3] => { results := [.lit (.bool true)], args := [d1, d2, d3] }
  | _ => none }
def replayTellsRow : OpenClaim := { program := "ytajjljbmfdboaaagreatdoor", sum := "067fce1340a10e885fd3535d4eca2573e5e451d712ecb99816fc0e7f021a6447", func := "donjon/donjonlaw18.ReplayTells", spec := "replayTells", unfollowed := true, recurses := true, named := ["donjon/place.limits", "donjon/isa.ops", "donjon/note.kinds", "donjon/moesi.rows"], apart := false, laid := [("donjon/moesi.rows", laid_donjon_moesi_rows), ("donjon/place.limits", laid_donjon_place_limits), ("donjon/isa.ops", laid_donjon_isa_ops), ("donjon/note.kinds", laid_donjon_note_kinds)] }
def ReplayTellsSaid : Prop := replayTellsRow.holds Tryz.pinned (OpenSpec.ofChange replayTellsSpec)

/-- ITS FALSE NEIGHBOUR: 'it returns false'. Refute it at one input. -/
def replayTellsWrong : ChangeSpec := { name := "replayTells", fn := fun _ => fun
  | [d1, d2, d3] => { results := [.lit (.bool false)], args := [d1, d2, d3] }
  | _ => none }
def ReplayTellsWrongFalsely : Prop := replayTellsRow.holds Tryz.pinned (OpenSpec.ofChange replayTellsWrong)

/-- 'donjonlaw18.ReplayTurns': WHATEVER THE INPUT: true; the input reads as it did. -/
def replayTurnsSpec : ChangeSpec := { name := "replayTurns", fn := fun _ => fun
  | [d1, d2, d3] => { results := [.lit (.bool true)], args := [d1, d2, d3] }
  | _ => none }
def replayTurnsRow : OpenClaim := { program := "ytajjljbmfdboaaagreatdoor", sum := "067fce1340a10e885fd3535d4eca2573e5e451d712ecb99816fc0e7f021a6447", func := "donjon/donjonlaw18.ReplayTurns", spec := "replayTurns", unfollowed := true, recurses := true, named := ["donjon/place.limits", "donjon/isa.ops", "donjon/note.kinds", "donjon/moesi.rows"], apart := false, laid := [("donjon/moesi.rows", laid_donjon_moesi_rows), ("donjon/place.limits", laid_donjon_place_limits), ("donjon/isa.ops", laid_donjon_isa_ops), ("donjon/note.kinds", laid_donjon_note_kinds)] }
def ReplayTurnsSaid : Prop := replayTurnsRow.holds Tryz.pinned (OpenSpec.ofChange replayTurnsSpec)

/-- ITS FALSE NEIGHBOUR: 'it returns false'. Refute it at one input. -/
def replayTurnsWrong : ChangeSpec := { name := "replayTurns", fn := fun _ => fun
  | [d1, d2, d3] => { results := [.lit (.bool false)], args := [d1, d2, d3] }
  | _ => none }
def ReplayTurnsWrongFalsely : Prop := replayTurnsRow.holds Tryz.pinned (OpenSpec.ofChange replayTurnsWrong)

/- THE SECOND FORM. 'bulk': how many values and letters a reading holds, each counted each time it is reached (what is shared counts as often as it is met; a slice's spare places count too). A statement '..UptoSaid' is the law's where the arguments, and the package variables that the reading takes, are together of bulk at most 1048576: NARROWER than '..Said'. Prove '..Said' where nothing that the law and all that it calls make is longer than what came in: it says more and counts as full. Else prove '..UptoSaid'. A law counts once. -/
mutual
def uptoBulk {H : Type} : DataW H → Nat
  | .lit (.string bytes) => bytes.length + 1
  | .lit _ => 1
  | .nil => 1
  | .ptr d => uptoBulk d + 1
  | .slice elems spare => uptoBulkAll elems + uptoBulkAll spare + 1
  | .agg parts => uptoBulkAll parts + 1
  | .iface _ d => uptoBulk d + 1
  | .map entries => uptoBulkEntries entries + 1
  | .held _ => 1
def uptoBulkAll {H : Type} : List (DataW H) → Nat
  | [] => 0
  | d :: r => uptoBulk d + uptoBulkAll r
def uptoBulkEntries {H : Type} : List (Lit × DataW H) → Nat
  | [] => 0
  | x :: r => uptoBulkEntry x + uptoBulkEntries r
def uptoBulkEntry {H : Type} : Lit × DataW H → Nat
  | (.string bytes, d) => bytes.length + uptoBulk d + 1
  | (_, d) => uptoBulk d + 1
 end
def uptoSmall : (H : Type) → List (DataW H) → Bool := fun _ ds => decide (uptoBulkAll ds ≤ 1048576)
def OpenSpec.upto (s : _root_.Go.ChangeSpec) : _root_.Go.OpenSpec := { _root_.Go.OpenSpec.ofChange s with cond := some uptoSmall }

/-- 'donjonlaw16.MachineNil', WHERE WHAT IT READS IS OF BULK AT MOST 1048576: true; the input reads as it did. -/
def machineNilUptoRow : OpenClaim := { program := "ytajjljbmfdboaaagreatdoor", sum := "067fce1340a10e885fd3535d4eca2573e5e451d712ecb99816fc0e7f021a6447", func := "donjon/donjonlaw16.MachineNil", spec := "machineNil", unfollowed := true, recurses := true, named := ["donjon/place.limits", "donjon/note.kinds", "donjon/moesi.rows", "donjon/isa.ops"], apart := false, laid := [("donjon/moesi.rows", laid_donjon_moesi_rows), ("donjon/place.limits", laid_donjon_place_limits), ("donjon/isa.ops", laid_donjon_isa_ops), ("donjon/note.kinds", laid_donjon_note_kinds)], narrowed := true }
def MachineNilUptoSaid : Prop := machineNilUptoRow.holds Tryz.pinned (OpenSpec.upto machineNilSpec)

/-- 'donjonlaw19.FairNil', WHERE WHAT IT READS IS OF BULK AT MOST 1048576: true; the input reads as it did. -/
def fairNilUptoRow : OpenClaim := { program := "ytajjljbmfdboaaagreatdoor", sum := "067fce1340a10e885fd3535d4eca2573e5e451d712ecb99816fc0e7f021a6447", func := "donjon/donjonlaw19.FairNil", spec := "fairNil", unfollowed := true, recurses := true, named := ["donjon/place.limits", "donjon/note.kinds", "donjon/moesi.rows", "donjon/isa.ops"], apart := false, laid := [("donjon/moesi.rows", laid_donjon_moesi_rows), ("donjon/place.limits", laid_donjon_place_limits), ("donjon/isa.ops", laid_donjon_isa_ops), ("donjon/note.kinds", laid_donjon_note_kinds)], narrowed := true }
def FairNilUptoSaid : Prop := fairNilUptoRow.holds Tryz.pinned (OpenSpec.upto fairNilSpec)

/-- 'donjonlaw16.MachineNews', WHERE WHAT IT READS IS OF BULK AT MOST 1048576: true; the input reads as it did. -/
def machineNewsUptoRow : OpenClaim := { program := "ytajjljbmfdboaaagreatdoor", sum := "067fce1340a10e885fd3535d4eca2573e5e451d712ecb99816fc0e7f021a6447", func := "donjon/donjonlaw16.MachineNews", spec := "machineNews", unfollowed := true, recurses := true, named := ["donjon/place.limits", "donjon/isa.ops", "donjon/note.kinds", "donjon/moesi.rows"], apart := false, laid := [("donjon/moesi.rows", laid_donjon_moesi_rows), ("donjon/place.limits", laid_donjon_place_limits), ("donjon/isa.ops", laid_donjon_isa_ops), ("donjon/note.kinds", laid_donjon_note_kinds)], narrowed := true }
def MachineNewsUptoSaid : Prop := machineNewsUptoRow.holds Tryz.pinned (OpenSpec.upto machineNewsSpec)

/-- 'donjonlaw16.MachineCopies', WHERE WHAT IT READS IS OF BULK AT MOST 1048576: true; the input reads as it did. -/
def machineCopiesUptoRow : OpenClaim := { program := "ytajjljbmfdboaaagreatdoor", sum := "067fce1340a10e885fd3535d4eca2573e5e451d712ecb99816fc0e7f021a6447", func := "donjon/donjonlaw16.MachineCopies", spec := "machineCopies", unfollowed := true, recurses := true, named := ["donjon/place.limits", "donjon/isa.ops", "donjon/note.kinds", "donjon/moesi.rows"], apart := false, laid := [("donjon/moesi.rows", laid_donjon_moesi_rows), ("donjon/place.limits", laid_donjon_place_limits), ("donjon/isa.ops", laid_donjon_isa_ops), ("donjon/note.kinds", laid_donjon_note_kinds)], narrowed := true }
def MachineCopiesUptoSaid : Prop := machineCopiesUptoRow.holds Tryz.pinned (OpenSpec.upto machineCopiesSpec)

/-- 'donjonlaw16.MachineMany', WHERE WHAT IT READS IS OF BULK AT MOST 1048576: true; the input reads as it did. -/
def machineManyUptoRow : OpenClaim := { program := "ytajjljbmfdboaaagreatdoor", sum := "067fce1340a10e885fd3535d4eca2573e5e451d712ecb99816fc0e7f021a6447", func := "donjon/donjonlaw16.MachineMany", spec := "machineMany", unfollowed := true, recurses := true, named := ["donjon/place.limits", "donjon/isa.ops", "donjon/note.kinds", "donjon/moesi.rows"], apart := false, laid := [("donjon/moesi.rows", laid_donjon_moesi_rows), ("donjon/place.limits", laid_donjon_place_limits), ("donjon/isa.ops", laid_donjon_isa_ops), ("donjon/note.kinds", laid_donjon_note_kinds)], narrowed := true }
def MachineManyUptoSaid : Prop := machineManyUptoRow.holds Tryz.pinned (OpenSpec.upto machineManySpec)

/-- 'donjonlaw16.MachineProgram', WHERE WHAT IT READS IS OF BULK AT MOST 1048576: true; the input reads as it did. -/
def machineProgramUptoRow : OpenClaim := { program := "ytajjljbmfdboaaagreatdoor", sum := "067fce1340a10e885fd3535d4eca2573e5e451d712ecb99816fc0e7f021a6447", func := "donjon/donjonlaw16.MachineProgram", spec := "machineProgram", unfollowed := true, recurses := true, named := ["donjon/place.limits", "donjon/isa.ops", "donjon/note.kinds", "donjon/moesi.rows"], apart := false, laid := [("donjon/moesi.rows", laid_donjon_moesi_rows), ("donjon/place.limits", laid_donjon_place_limits), ("donjon/isa.ops", laid_donjon_isa_ops), ("donjon/note.kinds", laid_donjon_note_kinds)], narrowed := true }
def MachineProgramUptoSaid : Prop := machineProgramUptoRow.holds Tryz.pinned (OpenSpec.upto machineProgramSpec)

/-- 'donjonlaw16.MachineWaits', WHERE WHAT IT READS IS OF BULK AT MOST 1048576: true; the input reads as it did. -/
def machineWaitsUptoRow : OpenClaim := { program := "ytajjljbmfdboaaagreatdoor", sum := "067fce1340a10e885fd3535d4eca2573e5e451d712ecb99816fc0e7f021a6447", func := "donjon/donjonlaw16.MachineWaits", spec := "machineWaits", unfollowed := true, recurses := true, named := ["donjon/place.limits", "donjon/isa.ops", "donjon/note.kinds", "donjon/moesi.rows"], apart := false, laid := [("donjon/moesi.rows", laid_donjon_moesi_rows), ("donjon/place.limits", laid_donjon_place_limits), ("donjon/isa.ops", laid_donjon_isa_ops), ("donjon/note.kinds", laid_donjon_note_kinds)], narrowed := true }
def MachineWaitsUptoSaid : Prop := machineWaitsUptoRow.holds Tryz.pinned (OpenSpec.upto machineWaitsSpec)

/-- 'donjonlaw16.MachineMemory', WHERE WHAT IT READS IS OF BULK AT MOST 1048576: true; the input reads as it did. -/
def machineMemoryUptoRow : OpenClaim := { program := "ytajjljbmfdboaaagreatdoor", sum := "067fce1340a10e885fd3535d4eca2573e5e451d712ecb99816fc0e7f021a6447", func := "donjon/donjonlaw16.MachineMemory", spec := "machineMemory", unfollowed := true, recurses := true, named := ["donjon/place.limits", "donjon/isa.ops", "donjon/note.kinds", "donjon/moesi.rows"], apart := false, laid := [("donjon/moesi.rows", laid_donjon_moesi_rows), ("donjon/place.limits", laid_donjon_place_limits), ("donjon/isa.ops", laid_donjon_isa_ops), ("donjon/note.kinds", laid_donjon_note_kinds)], narrowed := true }
def MachineMemoryUptoSaid : Prop := machineMemoryUptoRow.holds Tryz.pinned (OpenSpec.upto machineMemorySpec)

/-- 'donjonlaw19.FairFew', WHERE WHAT IT READS IS OF BULK AT MOST 1048576: true; the input reads as it did. -/
def fairFewUptoRow : OpenClaim := { program := "ytajjljbmfdboaaagreatdoor", sum := "067fce1340a10e885fd3535d4eca2573e5e451d712ecb99816fc0e7f021a6447", func := "donjon/donjonlaw19.FairFew", spec := "fairFew", unfollowed := true, recurses := true, named := ["donjon/place.limits", "donjon/isa.ops", "donjon/note.kinds", "donjon/moesi.rows"], apart := false, laid := [("donjon/moesi.rows", laid_donjon_moesi_rows), ("donjon/place.limits", laid_donjon_place_limits), ("donjon/isa.ops", laid_donjon_isa_ops), ("donjon/note.kinds", laid_donjon_note_kinds)], narrowed := true }
def FairFewUptoSaid : Prop := fairFewUptoRow.holds Tryz.pinned (OpenSpec.upto fairFewSpec)

/-- 'donjonlaw19.FairEnds', WHERE WHAT IT READS IS OF BULK AT MOST 1048576: true; the input reads as it did. -/
def fairEndsUptoRow : OpenClaim := { program := "ytajjljbmfdboaaagreatdoor", sum := "067fce1340a10e885fd3535d4eca2573e5e451d712ecb99816fc0e7f021a6447", func := "donjon/donjonlaw19.FairEnds", spec := "fairEnds", unfollowed := true, recurses := true, named := ["donjon/place.limits", "donjon/isa.ops", "donjon/note.kinds", "donjon/moesi.rows"], apart := false, laid := [("donjon/moesi.rows", laid_donjon_moesi_rows), ("donjon/place.limits", laid_donjon_place_limits), ("donjon/isa.ops", laid_donjon_isa_ops), ("donjon/note.kinds", laid_donjon_note_kinds)], narrowed := true }
def FairEndsUptoSaid : Prop := fairEndsUptoRow.holds Tryz.pinned (OpenSpec.upto fairEndsSpec)

/-- 'donjonlaw18.ReplayTells', WHERE WHAT IT READS IS OF BULK AT MOST 1048576: true; the input reads as it did. -/
def replayTellsUptoRow : OpenClaim := { program := "ytajjljbmfdboaaagreatdoor", sum := "067fce1340a10e885fd3535d4eca2573e5e451d712ecb99816fc0e7f021a6447", func := "donjon/donjonlaw18.ReplayTells", spec := "replayTells", unfollowed := true, recurses := true, named := ["donjon/place.limits", "donjon/isa.ops", "donjon/note.kinds", "donjon/moesi.rows"], apart := false, laid := [("donjon/moesi.rows", laid_donjon_moesi_rows), ("donjon/place.limits", laid_donjon_place_limits), ("donjon/isa.ops", laid_donjon_isa_ops), ("donjon/note.kinds", laid_donjon_note_kinds)], narrowed := true }
def ReplayTellsUptoSaid : Prop := replayTellsUptoRow.holds Tryz.pinned (OpenSpec.upto replayTellsSpec)

/-- 'donjonlaw18.ReplayTurns', WHERE WHAT IT READS IS OF BULK AT MOST 1048576: true; the input reads as it did. -/
def replayTurnsUptoRow : OpenClaim := { program := "ytajjljbmfdboaaagreatdoor", sum := "067fce1340a10e885fd3535d4eca2573e5e451d712ecb99816fc0e7f021a6447", func := "donjon/donjonlaw18.ReplayTurns", spec := "replayTurns", unfollowed := true, recurses := true, named := ["donjon/place.limits", "donjon/isa.ops", "donjon/note.kinds", "donjon/moesi.rows"], apart := false, laid := [("donjon/moesi.rows", laid_donjon_moesi_rows), ("donjon/place.limits", laid_donjon_place_limits), ("donjon/isa.ops", laid_donjon_isa_ops), ("donjon/note.kinds", laid_donjon_note_kinds)], narrowed := true }
def ReplayTurnsUptoSaid : Prop := replayTurnsUptoRow.holds Tryz.pinned (OpenSpec.upto replayTurnsSpec)

end Rows
end Go.Proofs.YtajjljbmfdboaaaGreatDoor
