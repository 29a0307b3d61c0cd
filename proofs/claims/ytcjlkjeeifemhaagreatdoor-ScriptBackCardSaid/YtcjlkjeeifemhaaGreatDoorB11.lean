/- A part of the proof. -/
import Derived.Test.YtcjlkjeeifemhaaGreatDoorChecked
import Derived.Test.YtcjlkjeeifemhaaGreatDoorB5
import Derived.Test.YtcjlkjeeifemhaaGreatDoorB8
import Derived.Test.YtcjlkjeeifemhaaGreatDoorB10
import Derived.KernelRfl
import Derived.Lib.ItoaNum
import Derived.Lib.Bytealg
import Derived.Lib.AtoiAll
import Derived.Test.YtcjlkjeeifemhaaGreatDoorB7
namespace Go.Proofs.YtcjlkjeeifemhaaGreatDoor
open Go Go.Ab
section
set_option maxRecDepth 100000
noncomputable abbrev Pr:Program:=Tryz.prog
noncomputable def K0:FuncId->List Value->Option dU:=fun f a=>match f,a with
 |86,[.int .i64 n]=>if -9223372036854775808<=n/\n<=9223372036854775807 then some (.val (.string ⟨(Lib.itoa n).toArray⟩)) else none
 |109,[.string s,.string ⟨⟨[c]⟩⟩]=>some (.val (.int .i64 (Lib.countByte s.data.toList c)))
 |161,[.string s,.string ⟨⟨[c]⟩⟩]=>some (.val (.int .i64 (Lib.indexByte s.data.toList c)))
 |245,[.string s,.string ⟨⟨[c]⟩⟩]=>some (.val (.int .i64 (Lib.indexByte s.data.toList c)))
 |171,[.string s]=>if s.size<=281474976710656 then(match Lib.atoiAll s.data.toList with
  |.ok v=>some (.val (.tuple ⟨[.int .i64 v,.nilIface]⟩))
  |.syntax=>some (.val (.tuple ⟨[.int .i64 0,.iface 480 top]⟩))
  |.range=>some (.val (.tuple ⟨[.int .i64 (Lib.atoiSat s.data.toList),.iface 480 top]⟩))) else none
 |87,[.slice (some ⟨b,o,none⟩) n c,.string s]=>some (.host (D3 b o n c s))
 |102,[.pointer (some ⟨b,0,none⟩)]=>some (.host (Bc 141 b))
 |60,[.pointer (some ⟨b,0,none⟩)]=>some (.host (xP 141 5 b))
 |273,[.func (.func 341) ⟨[]⟩ ⟨[.pointer (some ⟨c,0,none⟩)]⟩]=>some (.host (Fk 3 c))
 |234,[.iface 343 v,w,l]=>some (.fwd 417 [v,w,l])
 |_,_=>none
theorem Ec:Pr.globals.size=12:=by kernel_rfl
end
section
def jM:List Value:=[
 .int .i64 4,.int .i64 16,.int .i64 8,.int .i64 4,.int .i64 16,.int .i64 8,.int .i64 4]
def eP:List Value:=[
 .string ⟨#[]⟩,.int .i64 0,.int .i64 0,.int .i64 0,.string ⟨#[115,101,116]⟩,.int .i64 1,.int .i64 2,.int .i64 0,.string ⟨#[97,100,100]⟩,.int .i64 1,.int .i64 1,
  .int .i64 1,.string ⟨#[108,111,97,100]⟩,.int .i64 1,.int .i64 1,.int .i64 0,.string ⟨#[115,116,111,114,101]⟩,.int .i64 1,.int .i64 1,.int .i64 0,
  .string ⟨#[115,119,97,112]⟩,.int .i64 1,.int .i64 1,.int .i64 0,.string ⟨#[102,101,110,99,101]⟩,.int .i64 0,.int .i64 0,.int .i64 0,
  .string ⟨#[119,111,114,108,100]⟩,.int .i64 3,.int .i64 0,.int .i64 0,.string ⟨#[99,97,108,108]⟩,.int .i64 4,.int .i64 1,.int .i64 1,.string ⟨#[106,117,109,112]⟩,
  .int .i64 5,.int .i64 0,.int .i64 0,.string ⟨#[122,101,114,111]⟩,.int .i64 1,.int .i64 5,.int .i64 0,.string ⟨#[104,97,108,116]⟩,.int .i64 0,.int .i64 0,.int .i64 0]
def S5:List Value:=[
 .string ⟨#[]⟩,.int .i64 0,.int .i64 0,.int .i64 0,.int .i64 0,.int .i64 0,.int .i64 0,.int .i64 0,.int .i64 0,.string ⟨#[103,101,116,115]⟩,.int .i64 0,.int .i64 1,
  .int .i64 2,.int .i64 3,.int .i64 0,.int .i64 0,.int .i64 0,.int .i64 0,.string ⟨#[103,101,116,109]⟩,.int .i64 0,.int .i64 1,.int .i64 2,.int .i64 3,.int .i64 0,
  .int .i64 0,.int .i64 0,.int .i64 0,.string ⟨#[112,117,116]⟩,.int .i64 0,.int .i64 1,.int .i64 2,.int .i64 4,.int .i64 8,.int .i64 9,.int .i64 10,.int .i64 0,
  .string ⟨#[100,111,110,101]⟩,.int .i64 1,.int .i64 1,.int .i64 2,.int .i64 0,.int .i64 0,.int .i64 0,.int .i64 0,.int .i64 0,.string ⟨#[114,101,112,108,121]⟩,
  .int .i64 1,.int .i64 1,.int .i64 2,.int .i64 5,.int .i64 8,.int .i64 9,.int .i64 10,.int .i64 11,.string ⟨#[119,97,108,107]⟩,.int .i64 0,.int .i64 1,.int .i64 12,
  .int .i64 0,.int .i64 0,.int .i64 0,.int .i64 0,.int .i64 0,.string ⟨#[100,114,111,112,112,101,100]⟩,.int .i64 1,.int .i64 1,.int .i64 13,.int .i64 0,.int .i64 0,
  .int .i64 0,.int .i64 0,.int .i64 0,.string ⟨#[103,114,97,110,116]⟩,.int .i64 2,.int .i64 1,.int .i64 2,.int .i64 4,.int .i64 6,.int .i64 8,.int .i64 9,.int .i64 0,
  .string ⟨#[110,97,99,107]⟩,.int .i64 2,.int .i64 1,.int .i64 2,.int .i64 11,.int .i64 0,.int .i64 0,.int .i64 0,.int .i64 0,.string ⟨#[112,117,116,97,99,107]⟩,
  .int .i64 2,.int .i64 1,.int .i64 2,.int .i64 0,.int .i64 0,.int .i64 0,.int .i64 0,.int .i64 0,.string ⟨#[112,114,111,98,101]⟩,.int .i64 3,.int .i64 1,.int .i64 2,
  .int .i64 7,.int .i64 0,.int .i64 0,.int .i64 0,.int .i64 0,.string ⟨#[119,97,108,107,101,100]⟩,.int .i64 2,.int .i64 1,.int .i64 8,.int .i64 9,.int .i64 12,
  .int .i64 0,.int .i64 0,.int .i64 0,.string ⟨#[100,114,111,112]⟩,.int .i64 3,.int .i64 1,.int .i64 13,.int .i64 0,.int .i64 0,.int .i64 0,.int .i64 0,.int .i64 0]
def Vm:List Value:=[
 .string ⟨#[73]⟩,.bool false,.bool false,.bool false,.bool false,.int .i64 0,.int .i64 0,.int .i64 0,.string ⟨#[83]⟩,.bool true,.bool false,.bool false,.bool false,
  .int .i64 0,.int .i64 1,.int .i64 0,.string ⟨#[69]⟩,.bool true,.bool true,.bool false,.bool true,.int .i64 4,.int .i64 1,.int .i64 0,.string ⟨#[79]⟩,.bool true,
  .bool false,.bool true,.bool true,.int .i64 0,.int .i64 3,.int .i64 0,.string ⟨#[77]⟩,.bool true,.bool true,.bool true,.bool true,.int .i64 4,.int .i64 3,.int .i64 0]
def X0 (e0:TypeId) (z0:Nat×Nat) (e1:TypeId) (z1:Nat×Nat) (e2:TypeId) (z2:Nat×Nat) (e3:TypeId) (z3:Nat×Nat):Nat->Option hZ:=fun i=>
 if i=0 then some (.cells eP e1 z1 true) else if i=1 then some (.cells jM e0 z0 true) else if i=3 then some (.cells S5 e2 z2 true) else if i=5 then some (.cells Vm e3 z3 true) else none
variable (e0:TypeId) (z0:Nat×Nat) (e1:TypeId) (z1:Nat×Nat) (e2:TypeId) (z2:Nat×Nat) (e3:TypeId) (z3:Nat×Nat)
noncomputable def sq:AH:=Go.Ab.start 12 (qC 12 (X0 e0 z0 e1 z1 e2 z2 e3 z3) [])
end
end Go.Proofs.YtcjlkjeeifemhaaGreatDoor
