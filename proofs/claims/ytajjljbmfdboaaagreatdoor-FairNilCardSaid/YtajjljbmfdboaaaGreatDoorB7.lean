/- The listed variables' cells, and calls that are known. -/
import Derived.Test.YtajjljbmfdboaaaGreatDoorChecked
import Derived.Test.YtajjljbmfdboaaaGreatDoorB4
import Derived.KernelRfl
import Derived.Test.YtajjljbmfdboaaaGreatDoorB6
section
namespace Go.Proofs.YtajjljbmfdboaaaGreatDoor
open Go Go.Ab
set_option maxRecDepth 100000
noncomputable abbrev Pr : Program := Tryz.prog
/-- what is known: the sorted keys of a map; that a judge's answer is handed on -/
noncomputable def K0 : FuncId → List Value → Option Ans := fun f args => match f, args with
  | 122, [.func (.func 170) ⟨[]⟩ ⟨[.pointer (some ⟨c, 0, none⟩)]⟩] => some (.host (sortedF 3 c))
  | 219, [.iface 311 v, w, l] => some (.fwd 334 [v, w, l])
  | _, _ => none
theorem globals4 : Pr.globals.size = 4 := by kernel_rfl
end Go.Proofs.YtajjljbmfdboaaaGreatDoor
end
section
namespace Go.Proofs.YtajjljbmfdboaaaGreatDoor
open Go Go.Ab
def limE : List Value := [
  .int .i64 4, .int .i64 16, .int .i64 8, .int .i64 4, .int .i64 16, .int .i64 8, .int .i64 4]
def opsE : List Value := [
  .string ⟨#[]⟩, .int .i64 0, .int .i64 0, .int .i64 0, .string ⟨#[115, 101, 116]⟩, .int .i64 1, .int .i64 2, .int .i64 0, .string ⟨#[97, 100, 100]⟩, .int .i64 1, .int .i64 1, 
  .int .i64 1, .string ⟨#[108, 111, 97, 100]⟩, .int .i64 1, .int .i64 1, .int .i64 0, .string ⟨#[115, 116, 111, 114, 101]⟩, .int .i64 1, .int .i64 1, .int .i64 0, 
  .string ⟨#[115, 119, 97, 112]⟩, .int .i64 1, .int .i64 1, .int .i64 0, .string ⟨#[102, 101, 110, 99, 101]⟩, .int .i64 0, .int .i64 0, .int .i64 0, 
  .string ⟨#[119, 111, 114, 108, 100]⟩, .int .i64 3, .int .i64 0, .int .i64 0, .string ⟨#[99, 97, 108, 108]⟩, .int .i64 4, .int .i64 1, .int .i64 1, .string ⟨#[106, 117, 109, 112]⟩, 
  .int .i64 5, .int .i64 0, .int .i64 0, .string ⟨#[122, 101, 114, 111]⟩, .int .i64 1, .int .i64 5, .int .i64 0, .string ⟨#[104, 97, 108, 116]⟩, .int .i64 0, .int .i64 0, .int .i64 0]
def kinE : List Value := [
  .string ⟨#[]⟩, .int .i64 0, .int .i64 0, .int .i64 0, .int .i64 0, .int .i64 0, .int .i64 0, .int .i64 0, .int .i64 0, .string ⟨#[103, 101, 116, 115]⟩, .int .i64 0, .int .i64 1, 
  .int .i64 2, .int .i64 3, .int .i64 0, .int .i64 0, .int .i64 0, .int .i64 0, .string ⟨#[103, 101, 116, 109]⟩, .int .i64 0, .int .i64 1, .int .i64 2, .int .i64 3, .int .i64 0, 
  .int .i64 0, .int .i64 0, .int .i64 0, .string ⟨#[112, 117, 116]⟩, .int .i64 0, .int .i64 1, .int .i64 2, .int .i64 4, .int .i64 8, .int .i64 9, .int .i64 10, .int .i64 0, 
  .string ⟨#[100, 111, 110, 101]⟩, .int .i64 1, .int .i64 1, .int .i64 2, .int .i64 0, .int .i64 0, .int .i64 0, .int .i64 0, .int .i64 0, .string ⟨#[114, 101, 112, 108, 121]⟩, 
  .int .i64 1, .int .i64 1, .int .i64 2, .int .i64 5, .int .i64 8, .int .i64 9, .int .i64 10, .int .i64 11, .string ⟨#[119, 97, 108, 107]⟩, .int .i64 0, .int .i64 1, .int .i64 12, 
  .int .i64 0, .int .i64 0, .int .i64 0, .int .i64 0, .int .i64 0, .string ⟨#[100, 114, 111, 112, 112, 101, 100]⟩, .int .i64 1, .int .i64 1, .int .i64 13, .int .i64 0, .int .i64 0, 
  .int .i64 0, .int .i64 0, .int .i64 0, .string ⟨#[103, 114, 97, 110, 116]⟩, .int .i64 2, .int .i64 1, .int .i64 2, .int .i64 4, .int .i64 6, .int .i64 8, .int .i64 9, .int .i64 0, 
  .string ⟨#[110, 97, 99, 107]⟩, .int .i64 2, .int .i64 1, .int .i64 2, .int .i64 11, .int .i64 0, .int .i64 0, .int .i64 0, .int .i64 0, .string ⟨#[112, 117, 116, 97, 99, 107]⟩, 
  .int .i64 2, .int .i64 1, .int .i64 2, .int .i64 0, .int .i64 0, .int .i64 0, .int .i64 0, .int .i64 0, .string ⟨#[112, 114, 111, 98, 101]⟩, .int .i64 3, .int .i64 1, .int .i64 2, 
  .int .i64 7, .int .i64 0, .int .i64 0, .int .i64 0, .int .i64 0, .string ⟨#[119, 97, 108, 107, 101, 100]⟩, .int .i64 2, .int .i64 1, .int .i64 8, .int .i64 9, .int .i64 12, 
  .int .i64 0, .int .i64 0, .int .i64 0, .string ⟨#[100, 114, 111, 112]⟩, .int .i64 3, .int .i64 1, .int .i64 13, .int .i64 0, .int .i64 0, .int .i64 0, .int .i64 0, .int .i64 0]
def moeE : List Value := [
  .string ⟨#[73]⟩, .bool false, .bool false, .bool false, .bool false, .int .i64 0, .int .i64 0, .int .i64 0, .string ⟨#[83]⟩, .bool true, .bool false, .bool false, .bool false, 
  .int .i64 0, .int .i64 1, .int .i64 0, .string ⟨#[69]⟩, .bool true, .bool true, .bool false, .bool true, .int .i64 4, .int .i64 1, .int .i64 0, .string ⟨#[79]⟩, .bool true, 
  .bool false, .bool true, .bool true, .int .i64 0, .int .i64 3, .int .i64 0, .string ⟨#[77]⟩, .bool true, .bool true, .bool true, .bool true, .int .i64 4, .int .i64 3, .int .i64 0]
def glM (e0 : TypeId) (z0 : Nat × Nat) (e1 : TypeId) (z1 : Nat × Nat) (e2 : TypeId) (z2 : Nat × Nat) (e3 : TypeId) (z3 : Nat × Nat) : Nat → Option Blk := fun i =>
  if i = 0 then some (.cells limE e0 z0 true) else if i = 1 then some (.cells opsE e1 z1 true) else if i = 2 then some (.cells kinE e2 z2 true) else if i = 3 then some (.cells moeE e3 z3 true) else none
def cfE : Value := .agg ⟨[I 1, I 1, I 1, I 1, I 2, I 1, I 1]⟩
/-- calls at the one configuration of the examples -/
def facts : Facts := [
  (89, [cfE], I 0), (63, [cfE], I 2), (90, [cfE], I 4),
  (182, [cfE, I 0], .tuple ⟨[I 0, I 0, I 0]⟩), (182, [cfE, I 1], .tuple ⟨[I 0, I 1, I 0]⟩), (182, [cfE, I 2], .tuple ⟨[I 1, I 0, I 0]⟩), (182, [cfE, I 3], .tuple ⟨[I 1, I 1, I 0]⟩),
  (191, [cfE, I 0], .tuple ⟨[I 0, I 0]⟩), (238, [cfE, I 0], .tuple ⟨[I 0, I 0]⟩), (238, [cfE, I 1], .tuple ⟨[I 0, I 0]⟩),
  (213, [cfE, .agg ⟨[I 1, I 0, I 0, I 1, I 0, I 0, I 0, .bool false, I 0]⟩], I 0),
  (213, [cfE, .agg ⟨[I 12, I 0, I 0, I 0, I 0, I 4, I 0, .bool false, I 0]⟩], I 0),
  (213, [cfE, .agg ⟨[I 2, I 0, I 0, I 1, I 0, I 0, I 0, .bool false, I 0]⟩], I 0),
  (213, [cfE, .agg ⟨[I 4, I 0, I 0, I 0, I 0, I 0, I 0, .bool false, I 0]⟩], I 0),
  (213, [cfE, .agg ⟨[I 6, I 0, I 0, I 0, I 0, I 0, I 0, .bool false, I 0]⟩], I 0),
  (213, [cfE, .agg ⟨[I 8, I 0, I 0, I 1, I 2, I 7, I 0, .bool false, I 0]⟩], I 0),
  (213, [cfE, .agg ⟨[I 8, I 0, I 0, I 1, I 4, I 0, I 0, .bool false, I 0]⟩], I 0)]
noncomputable def K1 : FuncId → List Value → Option Ans := addL K0 facts
variable (e0 : TypeId) (z0 : Nat × Nat) (e1 : TypeId) (z1 : Nat × Nat) (e2 : TypeId) (z2 : Nat × Nat) (e3 : TypeId) (z3 : Nat × Nat)
noncomputable def st4 : AH := Go.Ab.start 4 (oldOf 4 (glM e0 z0 e1 z1 e2 z2 e3 z3) [])
end Go.Proofs.YtajjljbmfdboaaaGreatDoor
end
