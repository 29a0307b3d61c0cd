/- A part of the proof. -/
import Derived.Test.YthgemaaghgpncaaDoorB6
import Derived.Tactics
import Derived.Tactics2
import Derived.Defers
import Derived.Recover
import Derived.Laws.Pointers
import Derived.OneCell
import Derived.Below
section
namespace Go.Proofs.YthgemaaghgpncaaDoor
open Go Go.Ab Go.RowKit
theorem J2 (p q:Addr) (w:World):
  CallsD Tryd.prog 69 #[.pointer (some p),.pointer (some q)] .returning w fun e u' w'=>e= .returned (.tuple #[])∧u'= .returning∧w'=w:=by
 refine callsD_of_wpS Tryd.func69 rfl fun c₀ cs hu=>?_
 apply wpS_seq
 apply wpS_region
 simp[wpOpsS,go_sem,recoverD,hu,Tryd.ntmps69,Exit.thenS]
 refine wpS_cond (t:=false) (by simp[Act.eval,Array.replicate]) ?_
 simp only[Bool.false_eq_true,if_false]
 refine wpS_of_wp (wp_skip ?_)
 cases c₀
 simp_all [bodyPostS,results,Tryd.results69]
theorem Nk {w w':World} (hk:Qa w.heap.size ((w.alloc (.cells #[.int .i64 0] 3)).alloc (.cells #[.bool false] 4)) w') (n:Int) (b:Bool):
  w'.cell? ⟨w.heap.size,0,none⟩=some (.int .i64 0)∧w'.frozen? ⟨w.heap.size,0,none⟩=false∧
  (w'.setCell ⟨w.heap.size,0,none⟩ (.int .i64 n)).cell? ⟨w.heap.size+1,0,none⟩=some (.bool false)∧(w'.setCell ⟨w.heap.size,0,none⟩ (.int .i64 n)).frozen? ⟨w.heap.size+1,0,none⟩=false∧
  ((w'.setCell ⟨w.heap.size,0,none⟩ (.int .i64 n)).setCell ⟨w.heap.size+1,0,none⟩ (.bool b)).cell? ⟨w.heap.size,0,none⟩=some (.int .i64 n)∧
  ((w'.setCell ⟨w.heap.size,0,none⟩ (.int .i64 n)).setCell ⟨w.heap.size+1,0,none⟩ (.bool b)).cell? ⟨w.heap.size+1,0,none⟩=some (.bool b):=by
 have e0:w'.heap[w.heap.size]?=some (.cells #[.int .i64 0] 3 (0,0)):=(hk.yO _ (Nat.le_refl _) (by simp;omega)).trans (by show((w.heap.push _).push _)[w.heap.size]?=_;rw[Array.getElem?_push,if_neg (by simp),Array.getElem?_push,if_pos rfl])
 have e1:w'.heap[w.heap.size+1]?=some (.cells #[.bool false] 4 (0,0)):=(hk.yO _ (by omega) (by simp)).trans (by show((w.heap.push _).push _)[w.heap.size+1]?=_;rw[Array.getElem?_push,if_pos (by simp)])
 have e2:(w'.setCell ⟨w.heap.size,0,none⟩ (.int .i64 n)).heap[w.heap.size]?=some (.cells #[.int .i64 n] 3 (0,0)):=one_setCell e0
 have e3:(w'.setCell ⟨w.heap.size,0,none⟩ (.int .i64 n)).heap[w.heap.size+1]?=some (.cells #[.bool false] 4 (0,0)):=(Below.heap_setCell _ _ _ _ (by simp)).trans e1
 have e4:((w'.setCell ⟨w.heap.size,0,none⟩ (.int .i64 n)).setCell ⟨w.heap.size+1,0,none⟩ (.bool b)).heap[w.heap.size]?=some (.cells #[.int .i64 n] 3 (0,0)):=(Below.heap_setCell _ _ _ _ (by simp)).trans e2
 have e5:((w'.setCell ⟨w.heap.size,0,none⟩ (.int .i64 n)).setCell ⟨w.heap.size+1,0,none⟩ (.bool b)).heap[w.heap.size+1]?=some (.cells #[.bool b] 4 (0,0)):=one_setCell e3
 exact⟨by simp[World.cell?,e0],by simp[World.frozen?,e0],by simp[World.cell?,e3],by simp[World.frozen?,e3],by simp[World.cell?,e4],by simp[World.cell?,e5]⟩
set_option maxRecDepth 100000 in
theorem Kj (v x l:Value) (w:World) (S:World→Prop) (n:Int) (b:Bool) (hc:Calls Tryd.prog 24 #[v,x,l] ((w.alloc (.cells #[.int .i64 0] 3)).alloc (.cells #[.bool false] 4)) (fun e w'=>e= .returned (.tuple #[.int .i64 n,.bool b])∧Qa w.heap.size ((w.alloc (.cells #[.int .i64 0] 3)).alloc (.cells #[.bool false] 4)) w'∧S w')):
  Calls Tryd.prog 48 #[.iface 25 v,x,l] w fun e w'=>e= .returned (.tuple #[.int .i64 n,.bool b])∧∃w2,S w2∧Yy w.heap.size (w.heap.size+2) w2 w':=by
 have hmf:∀(fn:Fn) (first cap:Array Value) (w:World),(Instr.makeFunc fn first cap).run Tryd.prog w= .ok (.func fn first cap) w:=fun _ _ _ _=>rfl
 have hm:∀w:World,(method 272 25 v "May").run Tryd.prog w= .ok (24,v) w:=fun _=>by kernel_rfl
 go_enter_defers Tryd.func48,Tryd.ntmps48
 go_wp2_with (go_at_call 24;refine hc.mono ?_;rintro e w' ⟨rfl,hk,hS⟩;obtain⟨c1,z1,c2,z2,c4,c5⟩:=Nk hk n b)
 refine leaves_cons (f:=69) (args:= #[.pointer (some ⟨w.heap.size,0,none⟩),.pointer (some ⟨w.heap.size+1,0,none⟩)]) (by simp) (by simp[go_sem]) ?_
 refine(J2 ⟨w.heap.size,0,none⟩ ⟨w.heap.size+1,0,none⟩ _).mono ?_
 rintro e u' w'' ⟨rfl,rfl,rfl⟩
 simp[Leaves,settle,results,Tryd.results48,go_sem,c4,c5]
 refine⟨w',hS,⟨fun i _ h=>?_,?_,rfl,rfl,rfl⟩⟩
 ·rw[Below.heap_setCell _ _ _ _ (by simp;omega),Below.heap_setCell _ _ _ _ (by simp;omega)]
 ·simp
end Go.Proofs.YthgemaaghgpncaaDoor
end
