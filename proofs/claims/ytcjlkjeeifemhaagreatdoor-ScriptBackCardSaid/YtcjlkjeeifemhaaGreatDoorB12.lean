/- A part of the proof. -/
import Derived.Test.YtcjlkjeeifemhaaGreatDoorB11
import Derived.Test.YtcjlkjeeifemhaaGreatDoorB4
import Derived.Shelf.SlIterI.Nil
import Derived.Shelf.SortM.Plain
import Derived.Shelf.SortM.SortNone
import Derived.Ground.GgzProg
import Derived.Ground.SlgmProg
import Derived.Test.YtcjlkjeeifemhaaGreatDoorChecked
import Derived.Test.YtcjlkjeeifemhaaGreatDoorB10
import Derived.Tactics
import Derived.Tactics2
import Derived.Defers
import Derived.Recover
import Derived.Laws.Pointers
import Derived.OneCell
import Derived.Below
import Derived.Test.YtcjlkjeeifemhaaGreatDoorB8
import Derived.Test.YtcjlkjeeifemhaaGreatDoorB9
namespace Go.Proofs.YtcjlkjeeifemhaaGreatDoor
open Go Go.Ab
section
set_option maxRecDepth 100000
variable (e0:TypeId) (z0:Nat×Nat) (e1:TypeId) (z1:Nat×Nat) (e2:TypeId) (z2:Nat×Nat) (e3:TypeId) (z3:Nat×Nat)
theorem Ib:((U1 Pr K0 8000 (.call 12 []) (sq e0 z0 e1 z1 e2 z2 e3 z3)).any fun r=>mA r.1.v (.bool true))=true:=by kernel_rfl
end
end Go.Proofs.YtcjlkjeeifemhaaGreatDoor
namespace Go.Proofs
open Go.Shelf
section
def Tryz.Dm:Go.Shelf.Ren:=⟨fun|7=>274|10=>341|n=>n,fun|23=>206|26=>3|3=>416|28=>374|0=>0|27=>373|33=>248|4=>4|n=>n,fun|n=>n⟩
theorem Tryz.kx:Go.Proofs.SlLaysZI.n7 Tryz.prog Tryz.Dm:={
 mixed:=by kernel_rfl
 f7:=⟨Tryz.f274.name,by decide,Tryz.func274.trans (congrArg some (by kernel_rfl))⟩
 f10:=⟨Tryz.f341.name,by decide,Tryz.func341.trans (congrArg some (by kernel_rfl))⟩
 t0:=Tryz.underlying0
 a0:=Tryz.isAgg0
 z0:=Tryz.sizeOf0
 v0:=Tryz.zeroValue0
 t4:=Tryz.underlying4
 a4:=Tryz.isAgg4
 z4:=Tryz.sizeOf4
 v4:=Tryz.zeroValue4
 t23:=Tryz.underlying206
 a23:=Tryz.isAgg206
 z23:=Tryz.sizeOf206
 v23:=Tryz.zeroValue206
 t26:=Tryz.underlying3
 a26:=Tryz.isAgg3
 z26:=Tryz.sizeOf3
 v26:=Tryz.zeroValue3
 t27:=Tryz.underlying373
 a27:=Tryz.isAgg373
 z27:=Tryz.sizeOf373
 v27:=Tryz.zeroValue373
 t28:=Tryz.underlying374
 a28:=Tryz.isAgg374
 z28:=Tryz.sizeOf374
 v28:=Tryz.zeroValue374
 t33:=Tryz.underlying248
 a33:=Tryz.isAgg248
 z33:=Tryz.sizeOf248
 v33:=Tryz.zeroValue248}
def Tryz.wV:Go.Shelf.Ren:=⟨fun|6=>273|8=>339|9=>340|11=>378|13=>188|12=>379|23=>265|24=>266|14=>384|15=>385|16=>386|17=>387|18=>388|19=>389|20=>390|21=>391|22=>392|25=>393|26=>330|27=>331|28=>394|29=>395|30=>189|31=>396|n=>n,fun|26=>3|28=>374|24=>28|0=>0|3=>3|37=>380|48=>434|50=>436|4=>4|40=>428|39=>427|45=>64|5=>5|9=>9|51=>492|55=>231|57=>529|58=>530|33=>248|n=>n,fun|n=>n⟩
theorem Tryz.Wu:Go.Proofs.SlLaysZI.n6 Tryz.prog Tryz.wV:={
 mixed:=by kernel_rfl
 f6:=⟨Tryz.f273.name,by decide,Tryz.func273.trans (congrArg some (by kernel_rfl))⟩
 f8:=⟨Tryz.f339.name,by decide,Tryz.func339.trans (congrArg some (by kernel_rfl))⟩
 f11:=⟨Tryz.f378.name,by decide,Tryz.func378.trans (congrArg some (by kernel_rfl))⟩
 t0:=Tryz.underlying0
 a0:=Tryz.isAgg0
 z0:=Tryz.sizeOf0
 v0:=Tryz.zeroValue0
 t24:=Tryz.underlying28
 a24:=Tryz.isAgg28
 z24:=Tryz.sizeOf28
 v24:=Tryz.zeroValue28
 t26:=Tryz.underlying3
 a26:=Tryz.isAgg3
 z26:=Tryz.sizeOf3
 v26:=Tryz.zeroValue3
 t28:=Tryz.underlying374
 a28:=Tryz.isAgg374
 z28:=Tryz.sizeOf374
 v28:=Tryz.zeroValue374
 i26:=by kernel_rfl}
def Tryz.Qf:Go.Shelf.Ren:=⟨fun|5=>340|8=>188|7=>379|19=>265|20=>266|10=>384|11=>385|12=>386|13=>387|14=>388|15=>389|16=>390|17=>391|18=>392|30=>393|31=>330|32=>331|33=>394|34=>395|35=>189|40=>396|n=>n,fun|23=>28|25=>3|3=>3|32=>380|22=>28|0=>0|44=>434|46=>436|4=>4|36=>428|35=>427|41=>64|5=>5|9=>9|53=>492|57=>231|63=>529|64=>530|n=>n,fun|n=>n⟩
theorem Tryz.Zv:Go.Proofs.SlLaysM.n5 Tryz.prog Tryz.Qf:={
 mixed:=by kernel_rfl
 f5:=⟨Tryz.f340.name,by decide,Tryz.func340.trans (congrArg some (by kernel_rfl))⟩
 f7:=⟨Tryz.f379.name,by decide,Tryz.func379.trans (congrArg some (by kernel_rfl))⟩
 f8:=Tryz.func188.trans (congrArg some (by kernel_rfl))
 f10:=⟨Tryz.f384.name,by decide,Tryz.func384.trans (congrArg some (by kernel_rfl))⟩
 f11:=⟨Tryz.f385.name,by decide,Tryz.func385.trans (congrArg some (by kernel_rfl))⟩
 f12:=⟨Tryz.f386.name,by decide,Tryz.func386.trans (congrArg some (by kernel_rfl))⟩
 f13:=⟨Tryz.f387.name,by decide,Tryz.func387.trans (congrArg some (by kernel_rfl))⟩
 f14:=⟨Tryz.f388.name,by decide,Tryz.func388.trans (congrArg some (by kernel_rfl))⟩
 f15:=⟨Tryz.f389.name,by decide,Tryz.func389.trans (congrArg some (by kernel_rfl))⟩
 f16:=⟨Tryz.f390.name,by decide,Tryz.func390.trans (congrArg some (by kernel_rfl))⟩
 f17:=⟨Tryz.f391.name,by decide,Tryz.func391.trans (congrArg some (by kernel_rfl))⟩
 f18:=⟨Tryz.f392.name,by decide,Tryz.func392.trans (congrArg some (by kernel_rfl))⟩
 f19:=Tryz.func265.trans (congrArg some (by kernel_rfl))
 f20:=Tryz.func266.trans (congrArg some (by kernel_rfl))
 f30:=⟨Tryz.f393.name,by decide,Tryz.func393.trans (congrArg some (by kernel_rfl))⟩
 f31:=Tryz.func330.trans (congrArg some (by kernel_rfl))
 f32:=Tryz.func331.trans (congrArg some (by kernel_rfl))
 f33:=⟨Tryz.f394.name,by decide,Tryz.func394.trans (congrArg some (by kernel_rfl))⟩
 f34:=⟨Tryz.f395.name,by decide,Tryz.func395.trans (congrArg some (by kernel_rfl))⟩
 f35:=⟨Tryz.f189.name,by decide,Tryz.func189.trans (congrArg some (by kernel_rfl))⟩
 f40:=⟨Tryz.f396.name,by decide,Tryz.func396.trans (congrArg some (by kernel_rfl))⟩
 t0:=Tryz.underlying0
 a0:=Tryz.isAgg0
 z0:=Tryz.sizeOf0
 v0:=Tryz.zeroValue0
 t3:=Tryz.underlying3
 a3:=Tryz.isAgg3
 z3:=Tryz.sizeOf3
 v3:=Tryz.zeroValue3
 t4:=Tryz.underlying4
 a4:=Tryz.isAgg4
 z4:=Tryz.sizeOf4
 v4:=Tryz.zeroValue4
 t5:=Tryz.underlying5
 a5:=Tryz.isAgg5
 z5:=Tryz.sizeOf5
 v5:=Tryz.zeroValue5
 t9:=Tryz.underlying9
 a9:=Tryz.isAgg9
 z9:=Tryz.sizeOf9
 v9:=Tryz.zeroValue9
 t22:=Tryz.underlying28
 a22:=Tryz.isAgg28
 z22:=Tryz.sizeOf28
 v22:=Tryz.zeroValue28
 t23:=Tryz.underlying28
 a23:=Tryz.isAgg28
 z23:=Tryz.sizeOf28
 v23:=Tryz.zeroValue28
 t25:=Tryz.underlying3
 a25:=Tryz.isAgg3
 z25:=Tryz.sizeOf3
 v25:=Tryz.zeroValue3
 t32:=Tryz.underlying380
 a32:=Tryz.isAgg380
 z32:=Tryz.sizeOf380
 v32:=Tryz.zeroValue380
 t35:=Tryz.underlying427
 a35:=Tryz.isAgg427
 z35:=Tryz.sizeOf427
 v35:=Tryz.zeroValue427
 t36:=Tryz.underlying428
 a36:=Tryz.isAgg428
 z36:=Tryz.sizeOf428
 v36:=Tryz.zeroValue428
 t41:=Tryz.underlying64
 a41:=Tryz.isAgg64
 z41:=Tryz.sizeOf64
 v41:=Tryz.zeroValue64
 t44:=Tryz.underlying434
 a44:=Tryz.isAgg434
 z44:=Tryz.sizeOf434
 v44:=Tryz.zeroValue434
 t46:=Tryz.underlying436
 a46:=Tryz.isAgg436
 z46:=Tryz.sizeOf436
 v46:=Tryz.zeroValue436
 t53:=Tryz.underlying492
 a53:=Tryz.isAgg492
 z53:=Tryz.sizeOf492
 v53:=Tryz.zeroValue492
 t57:=Tryz.underlying231
 a57:=Tryz.isAgg231
 z57:=Tryz.sizeOf231
 v57:=Tryz.zeroValue231
 t63:=Tryz.underlying529
 a63:=Tryz.isAgg529
 z63:=Tryz.sizeOf529
 v63:=Tryz.zeroValue529
 t64:=Tryz.underlying530
 a64:=Tryz.isAgg530
 z64:=Tryz.sizeOf530
 v64:=Tryz.zeroValue530}
end
end Go.Proofs
namespace Go.Proofs
open Go.RowKit Go.Maps Go.Sort Go.Shelf
section
theorem Tryz.fm (m:Nat):AnyZI.SortsIn Tryz.prog Tryz.wV Fence.wide m:=
 ⟨fun gH d a f W e b c=>callsIn_wide.2 (AnyM.slices_Sort_int Tryz.Zv gH d a f W e b c),
   fun p a W=>callsIn_wide.2 (AnyM.slices_Sort_int_none Tryz.Zv p a W)⟩
theorem Tryz.Lo {H:Type} (c b k:Nat) (d:DataW H) (R:Value->Option (DataW H×List MemPlace)) (w:World) (m:c<w.heap.size) (o:w.cell? ⟨c,0,none⟩=some (.map (some b))) (i:w.ownsMap Tryz.prog 3 R b k d) (g:Maps.size d<=maxLen) (a:Maps.size d*8<=140737488355328):
  Calls Tryz.prog 273 #[.func (.func 341) #[] #[.pointer (some ⟨c,0,none⟩)]] w fun e l=>∃(v:Value) (f:List Int),e= .returned v/\f.Perm (intKeys d)/\
   l.ownsRow w.heap.size 3 1 v f.length ((f.mergeSort (fun x y=>decide (x<=y))).map encZ)/\(v= .slice none 0 0↔f=[])/\Below w.heap.size w l:=by
 refine(callsIn_wide (n:=5)).1 ?_
 have j:SeqGives Fence.wide 2 Tryz.prog 341 #[.pointer (some ⟨c,0,none⟩)] encZ (fun f=>f.Perm (intKeys d)) (Maps.size d) w:=
  AnyZI.keys_gives (ρ:=Tryz.Dm) {Tryz.kx with} Fence.wide _ trivial rfl (by omega) c b k d _ m o i
 exact AnyZI.sorted_in Tryz.Wu Fence.wide 5 trivial trivial trivial trivial rfl (by omega) (Tryz.fm _) (enters_of Tryz.func340 (by kernel_rfl) rfl) 341 #[.pointer (some ⟨c,0,none⟩)] trivial (enters_of Tryz.func341 (by kernel_rfl) rfl) _ _ g a _ j
end
end Go.Proofs
namespace Go.Proofs.YtcjlkjeeifemhaaGreatDoor
open Go Go.Ab Go.RowKit
section
theorem Np (p q:Addr) (w:World):
  CallsD Tryz.prog 306 #[.pointer (some p),.pointer (some q)] .returning w fun e c d=>e= .returned (.tuple #[])/\c= .returning/\d=w:=by
 refine callsD_of_wpS Tryz.func306 rfl fun a f b=>?_
 apply wpS_seq
 apply wpS_region
 simp[wpOpsS,go_sem,recoverD,b,Tryz.ntmps306,Exit.thenS]
 refine wpS_cond (t:=false) (by simp[Act.eval,Array.replicate]) ?_
 simp only[Bool.false_eq_true,if_false]
 refine wpS_of_wp (wp_skip ?_)
 cases a
 simp_all [bodyPostS,results,Tryz.results306]
theorem Rb {w w':World} (a:Ua w.heap.size ((w.alloc (.cells #[.int .i64 0] 3)).alloc (.cells #[.bool false] 4)) w') (n:Int) (b:Bool):
  w'.cell? ⟨w.heap.size,0,none⟩=some (.int .i64 0)/\w'.frozen? ⟨w.heap.size,0,none⟩=false/\
  (w'.setCell ⟨w.heap.size,0,none⟩ (.int .i64 n)).cell? ⟨w.heap.size+1,0,none⟩=some (.bool false)/\(w'.setCell ⟨w.heap.size,0,none⟩ (.int .i64 n)).frozen? ⟨w.heap.size+1,0,none⟩=false/\
  ((w'.setCell ⟨w.heap.size,0,none⟩ (.int .i64 n)).setCell ⟨w.heap.size+1,0,none⟩ (.bool b)).cell? ⟨w.heap.size,0,none⟩=some (.int .i64 n)/\
  ((w'.setCell ⟨w.heap.size,0,none⟩ (.int .i64 n)).setCell ⟨w.heap.size+1,0,none⟩ (.bool b)).cell? ⟨w.heap.size+1,0,none⟩=some (.bool b):=by
 have e0:w'.heap[w.heap.size]?=some (.cells #[.int .i64 0] 3 (0,0)):=(a.A0 _ (Nat.le_refl _) (by simp;omega)).trans (by show((w.heap.push _).push _)[w.heap.size]?=_;rw[Array.getElem?_push,tt (by simp),Array.getElem?_push,tu rfl])
 have e1:w'.heap[w.heap.size+1]?=some (.cells #[.bool false] 4 (0,0)):=(a.A0 _ (by omega) (by simp)).trans (by show((w.heap.push _).push _)[w.heap.size+1]?=_;rw[Array.getElem?_push,tu (by simp)])
 have e2:(w'.setCell ⟨w.heap.size,0,none⟩ (.int .i64 n)).heap[w.heap.size]?=some (.cells #[.int .i64 n] 3 (0,0)):=one_setCell e0
 have e3:(w'.setCell ⟨w.heap.size,0,none⟩ (.int .i64 n)).heap[w.heap.size+1]?=some (.cells #[.bool false] 4 (0,0)):=(Below.heap_setCell _ _ _ _ (by simp)).trans e1
 have c:((w'.setCell ⟨w.heap.size,0,none⟩ (.int .i64 n)).setCell ⟨w.heap.size+1,0,none⟩ (.bool b)).heap[w.heap.size]?=some (.cells #[.int .i64 n] 3 (0,0)):=(Below.heap_setCell _ _ _ _ (by simp)).trans e2
 have d:((w'.setCell ⟨w.heap.size,0,none⟩ (.int .i64 n)).setCell ⟨w.heap.size+1,0,none⟩ (.bool b)).heap[w.heap.size+1]?=some (.cells #[.bool b] 4 (0,0)):=one_setCell e3
 exact⟨by simp[World.cell?,e0],by simp[World.frozen?,e0],by simp[World.cell?,e3],by simp[World.frozen?,e3],by simp[World.cell?,c],by simp[World.cell?,d]⟩
set_option maxRecDepth 100000 in
theorem M8 (v x l:Value) (w:World) (S:World->Prop) (n:Int) (b:Bool) (k:Calls Tryz.prog 417 #[v,x,l] ((w.alloc (.cells #[.int .i64 0] 3)).alloc (.cells #[.bool false] 4)) (fun e a=>e= .returned (.tuple #[.int .i64 n,.bool b])/\Ua w.heap.size ((w.alloc (.cells #[.int .i64 0] 3)).alloc (.cells #[.bool false] 4)) a/\S a)):
  Calls Tryz.prog 234 #[.iface 343 v,x,l] w fun e a=>e= .returned (.tuple #[.int .i64 n,.bool b])/\∃g,S g/\gh w.heap.size (w.heap.size+2) g a:=by
 have o:∀(d:Fn) (first c:Array Value) (w:World),(Instr.makeFunc d first c).run Tryz.prog w= .ok (.func d first c) w:=fun _ _ _ _=>rfl
 have r:∀w:World,(method 664 343 v "May").run Tryz.prog w= .ok (417,v) w:=fun _=>by kernel_rfl
 go_enter_defers Tryz.func234,Tryz.ntmps234
 go_wp2_with (go_at_call 417;refine k.mono ?_;rintro e a ⟨rfl,m,j⟩;obtain⟨q,z1,c2,z2,c4,c5⟩:=Rb m n b)
 refine leaves_cons (f:=306) (args:= #[.pointer (some ⟨w.heap.size,0,none⟩),.pointer (some ⟨w.heap.size+1,0,none⟩)]) (by simp) (by simp[go_sem]) ?_
 refine(Np ⟨w.heap.size,0,none⟩ ⟨w.heap.size+1,0,none⟩ _).mono ?_
 rintro e s p ⟨rfl,rfl,rfl⟩
 simp[Leaves,settle,results,Tryz.results234,go_sem,c4,c5]
 refine⟨a,j,⟨fun i _ h=>?_,?_,rfl,rfl,rfl⟩⟩
 .rw[Below.heap_setCell _ _ _ _ (by simp;omega),Below.heap_setCell _ _ _ _ (by simp;omega)]
 .simp
end
section
def ju:List Value:=[.int .u64 1,.int .u64 10,.int .u64 100,.int .u64 1000,.int .u64 10000,.int .u64 100000,.int .u64 1000000,.int .u64 10000000,.int .u64 100000000,.int .u64 1000000000,.int .u64 10000000000,.int .u64 100000000000,.int .u64 1000000000000,.int .u64 10000000000000,.int .u64 100000000000000,
  .int .u64 1000000000000000,.int .u64 10000000000000000,.int .u64 100000000000000000,.int .u64 1000000000000000000,.int .u64 10000000000000000000]
def rz (w:World) (g:Nat):Prop:=∃a e z,w.heap[g]?=some (.cells ⟨[a]⟩ e z)/\(a= .nilIface\/∃c b,a= .iface c b)
structure Gl (w:World):Prop where
 ops:∃e z,w.heap[0]?=some (.cells ⟨eP⟩ e z)
 lim:∃e z,w.heap[1]?=some (.cells ⟨jM⟩ e z)
 rf:∃e z,w.heap[3]?=some (.cells ⟨S5⟩ e z)
 tn:∃e z,w.heap[5]?=some (.cells ⟨Vm⟩ e z)
 pow:∃e z,w.heap[4]?=some (.cells ⟨ju⟩ e z)
 ti:rz w 8
 iq:rz w 9
 size:12<=w.heap.size
theorem Z4 {w:World} {e0 e1 e2 e3:TypeId} {z0 z1 z2 z3:Nat×Nat} (d:w.heap[1]?=some (.cells ⟨jM⟩ e0 z0)) (f:w.heap[0]?=some (.cells ⟨eP⟩ e1 z1)) (g:w.heap[3]?=some (.cells ⟨S5⟩ e2 z2)) (j:w.heap[5]?=some (.cells ⟨Vm⟩ e3 z3)):Yg Pr 12 (X0 e0 z0 e1 z1 e2 z2 e3 z3) w:=by
 have plain:∀(l:List Value) (e:TypeId) (z:Nat×Nat) (b:Nat),iF l=true->w.heap[b]?=some (.cells ⟨l⟩ e z)->∃c,w.heap[b]?=some c/\∀ρ,mB Pr ρ (0,0) (.cells l e z true) c:=fun l e z b k h=>
  ⟨_,h,fun ρ=>⟨⟨l⟩,rfl,by rw[List.drop_zero,List.take_of_length_le (by simp)];exact gS _ k,by simp,fun _=>⟨rfl,rfl,rfl⟩⟩⟩
 intro i o m a;unfold X0 at a;split at a;rename_i e;subst e;cases a;exact plain _ _ _ _ (by rfl) f;split at a;rename_i e;subst e;cases a;exact plain _ _ _ _ (by rfl) d;split at a;rename_i e;subst e;cases a;exact plain _ _ _ _ (by rfl) g;split at a;rename_i e;subst e;cases a;exact plain _ _ _ _ (by rfl) j;cases a
theorem Ze {B:Nat} (hB:12<=B) {w w':World} (h:Below B w w') (g:Gl w):Gl w':=by
 have k:∀{i:Nat} {x:Obj},i<12->w.heap[i]?=some x->w'.heap[i]?=some x:=fun r o=>(h.block _ (by omega)).trans o;obtain⟨⟨e,z,d⟩,⟨e1,z1,f⟩,⟨e2,z2,j⟩,⟨e3,z3,l⟩,⟨a,z4,m⟩,⟨v5,b,z5,n,p⟩,⟨v6,c,q,h6,k6⟩,h12⟩:=g;exact⟨⟨e,z,k (by omega) d⟩,⟨e1,z1,k (by omega) f⟩,⟨e2,z2,k (by omega) j⟩,⟨e3,z3,k (by omega) l⟩,⟨a,z4,k (by omega) m⟩,⟨v5,b,z5,k (by omega) n,p⟩,⟨v6,c,q,k (by omega) h6,k6⟩,Nat.le_trans h12 h.size⟩
theorem j9:Tryz.prog.globalNamed "internal/strconv.uint64pow10"=some 4:=by kernel_rfl
theorem et:Pr.underlying 3=some (.int .i64):=by kernel_rfl
theorem br:Pr.cellsOf 3=1:=by kernel_rfl
theorem Mu {w:World} {n:Nat} {os:Array Obj}:Below w.heap.size w (Go.Sort.grow (w.drewN n) os):=⟨rfl,rfl,rfl,by
 show w.heap.size<=(w.heap++os).size;simp,fun k a=>by
 show(w.heap++os)[k]?=w.heap[k]?;rw[Array.getElem?_append_left a]⟩
theorem pR {w:World}:Below w.heap.size w w:=⟨rfl,rfl,rfl,Nat.le_refl _,fun _ _=>rfl⟩
theorem cell_of {w:World} {g:Nat} {a:Value} {e:TypeId} {z:Nat×Nat} (h:w.heap[g]?=some (.cells ⟨[a]⟩ e z)):w.cell? ⟨g,0,none⟩=some a:=by
 simp[World.cell?,h]
theorem Hf (ρ:dR) (n:Int) (t:TypeId) (v:Value):aA ρ (.tuple ⟨[I n,.iface t top]⟩) (.tuple ⟨[I n,.iface t v]⟩):=by
 simp only[aA];refine⟨_,?_,rfl⟩;show aC ρ _ _;refine aC.cons (dB _ rfl) (aC.cons ?_ (gS [] rfl));simp only[aA];exact⟨v,by simp[top,aA],rfl⟩
noncomputable def mg (B:Nat) (hB:12<=B):Ctx Pr B K0 where
 G:=Gl
 A0:=fun w J h=>Ze hB h
 call:=fun f A v w d Q=>by
  unfold K0 at d;split at d;rename_i n;split at d;rename_i W;cases d;refine⟨rfl,lK rfl ?_⟩;obtain⟨e2,z2,r⟩:=Q.pow;refine(Tryz.strconv_Itoa n W.1 W.2 w ?_).mono fun e J ⟨i,k,os,z⟩=>⟨i,by rw[z];exact Mu⟩;simp only[Lib.TabIs,World.var?,j9,Option.bind_some,r];rfl;cases d;rename_i s c;cases d;exact⟨rfl,lK rfl ((Tryz.strings_Count_one s c w).mono fun e J ⟨i,z⟩=>⟨i,by rw[z];exact pR⟩)⟩;rename_i s c;cases d;exact⟨rfl,lK rfl ((Tryz.strings_Index_one s c w).mono fun e J ⟨i,z⟩=>⟨i,by rw[z];exact pR⟩)⟩;rename_i s c;cases d;exact⟨rfl,lK rfl ((Tryz.stringslite_Index_one s c w).mono fun e J ⟨i,z⟩=>⟨i,by rw[z];exact pR⟩)⟩;rename_i s;obtain⟨v3,e3,z3,C,k3⟩:=Q.ti;obtain⟨v4,e4,z4,E,k4⟩:=Q.iq;split at d;rename_i y;split at d;rename_i v p;cases d;refine⟨rfl,lK rfl ((Tryz.strconv_Atoi_ok s (by omega) v p w).mono fun e J ⟨i,z⟩=>⟨i,?_⟩)⟩;rcases z with rfl|⟨t,rfl⟩;exact pR;exact⟨rfl,rfl,rfl,by rw[Lib.bytesWorld_size];omega,fun j hj=>Lib.bytesWorld_at_old w _ t j hj⟩;rename_i p;cases d;exact⟨rfl,(Tryz.strconv_Atoi_syntax s y p v3 w (cell_of C) k3).mono fun e J ⟨N,i,_,_,V⟩=>⟨⟨_,i,fun ρ=>Hf ρ _ _ _⟩,V⟩⟩;rename_i p;cases d;exact⟨rfl,(Tryz.strconv_Atoi_range s y p v4 w (cell_of E) k4).mono fun e J ⟨N,i,_,_,V⟩=>⟨⟨_,i,fun ρ=>Hf ρ _ _ _⟩,V⟩⟩;cases d;all_goals cases d
 fwd:=fun f A g bs d ρ D w H Q=>by
  unfold K0 at d;split at d;split at d<;>cases d;cases d;cases d;cases d;split at d;split at d<;>cases d;cases d;cases d;cases d;cases d;cases d;rename_i v x l;cases d;simp only[aC] at H;obtain⟨_,_,p,⟨Z,_,hx,⟨X,_,hl,rfl,rfl⟩,rfl⟩,rfl⟩:=H;simp only[aA] at p;obtain⟨Y,p,rfl⟩:=p;refine⟨[Y,Z,X],(w.alloc (.cells #[.int .i64 0] 3)).alloc (.cells #[.bool false] 4),aC.cons p (aC.cons hx (aC.cons hl rfl)),((Below.refl _ _).alloc (Nat.le_refl _) _).alloc (by simp) _,fun a S I hc=>?_⟩;unfold D6 at I;split at I;rename_i n b;have y:((w.alloc (.cells #[.int .i64 0] 3)).alloc (.cells #[.bool false] 4)).heap.size=w.heap.size+2:=by simp
  rw[y];exact M8 Y Z X w S n b hc;cases I;cases d
 host:=fun f A F d h v h' hF ρ w D T _ H=>by
  unfold K0 at d;split at d;split at d<;>cases d;cases d;cases d;cases d;split at d;split at d<;>cases d;cases d;cases d;exact Sa (fun bk o c xs sep w m r C E O=>Tryz.strings_Join bk o c xs sep w m r (by omega) E (by unfold Aa at O;omega)) hF T H;cases d;exact Rv (t:=141) (fun b w m r C=>Any.Builder_copyCheck_fresh Tryz.N7 Tryz.qB b w m r C) (fun b w m=>Any.Builder_copyCheck_used Tryz.N7 Tryz.qB b w m) hF T H;cases d;exact R3 (t:=141) (u:=5) (fun b w m=>Tryz.Lq Tryz.Pm Tryz.mE b w m) (fun b g q U cells l w m r C E O h6 h7=>Tryz.R4 Tryz.Pm Tryz.mE b g q U cells l w m r C E O h6 h7) hF T H;rename_i c;cases d;exact Iv et br (fun c b nn D0 R w m r C E O=>Tryz.Lo c b nn D0 R w m r C E O) hF T H;cases d;cases d
theorem S6 {w:World} {e0 e1 e2 e3:TypeId} {z0 z1 z2 z3:Nat×Nat} (b:12<=w.heap.size) (h:Yg Pr 12 (X0 e0 z0 e1 z1 e2 z2 e3 z3) w):Reads Pr 12 (qC 12 (X0 e0 z0 e1 z1 e2 z2 e3 z3) []) (kD 12 []) w:=
 Ue (rs:=[]) (by rw[Ec];exact Nat.le_refl _) b h (fun r a=>by cases a)
theorem J0 {w:World} (c:Gl w):Calls Pr 12 #[] w fun e j=>e= .returned (.bool true)/\Below w.heap.size w j:=by
 have b:=c;obtain⟨⟨e1,z1,f⟩,⟨e0,z0,d⟩,⟨e2,z2,g⟩,⟨e3,z3,i⟩,_,_,_,a⟩:=c;exact Jj rfl (Ip (Ib e0 z0 e1 z1 e2 z2 e3 z3)) (mg w.heap.size a) b (S6 a (Z4 d f g i))
end
end Go.Proofs.YtcjlkjeeifemhaaGreatDoor
section
namespace Go.Ab
variable {P:Program} {K:FuncId->List Value->Option dU} {G:Bg} {h:AH} {L L' M:List HP}
theorem Hs.fu {W:Nat} {e:TypeId} {a:Option Addr} {cap:Nat} {x:Nat×List Value} (d:Hs G h (cB W e a cap x::L)):x.1<=cap:=by
 obtain⟨r,_,c,_⟩:=d.fst;rcases c.2.2 with⟨b,_⟩|⟨b,_⟩|⟨b,_⟩;omega;omega;exact b
theorem Di:∀l:List (List UInt8),wJ (l.map tx)=some (l.map fun x=>(⟨x.toArray⟩:ByteArray))
 |[]=>rfl
 |x::l=>by
  show(wJ (l.map tx)).map _=_;rw[Di l];rfl
theorem Vh {l:List (List UInt8)} {s:List UInt8}:Aa (l.map fun x=>(⟨x.toArray⟩:ByteArray)) ⟨s.toArray⟩=Lib.join l s:=by
 unfold Aa;rw[List.map_map];congr 1;exact List.map_id' l
theorem Om {f:FuncId} {e:TypeId} {a:Option Addr} {c n:Nat} {l:List (List UInt8)} {s:List UInt8} {Q:Value->AH->Prop}
  (w:∀b o,K f [.slice (some ⟨b,o,none⟩) n c,tx s]=some (.host (D3 b o n c ⟨s.toArray⟩))) (m:l.length=n) (A:0<n) (hle:n<=1000) (x:(Lib.join l s).length<=1000000)
  (p:Hs G h (cB 1 e a c (n,l.map tx)::L)) (y:∀i,Hs G i (cB 1 e a c (n,l.map tx)::L)->Q (tx (Lib.join l s)) i):Cl P K f [.slice a n c,tx s] h Q:=by
 have d:=p.fu
 simp only at d
 have r:=p
 obtain⟨b,o,rfl,q⟩:=p.iD (by omega)
 have z:aT h ⟨b,o,none⟩ n=some (l.map tx):=by
  obtain⟨v,t,rfl⟩:=bE (b:=b) (o:=o) (c:=l.map tx) (l:=l.map tx) (n:=n) (j:=0) (k:=fun v=>v= .agg ⟨l.map tx⟩) q (by omega) (by rw[List.drop_zero,List.take_of_length_le (by rw[List.length_map,m];exact Nat.le_refl _)]) (by rw[List.length_map,m]) rfl;simp only[sW,pt,Nat.add_zero,Option.map_eq_some_iff] at t;obtain⟨B,u,g⟩:=t;rw[u];injection g with g;injection g with g;rw[g]
 refine uB (w b o) (v:=tx (Lib.join l s)) (h':=h) ?_ (y h r)
 unfold D3
 rw[z]
 simp only
 rw[Di]
 simp only
 rw[Vh,List.length_map,tu (by rw[m,Nat.beq_refl,Nat.ble_eq_true_of_le d,Nat.ble_eq_true_of_le hle,Nat.ble_eq_true_of_le x];rfl)]
end Go.Ab
end
section
namespace Go.Ab
variable {P:Program} {K:FuncId->List Value->Option dU} {G:Bg} {h:AH} {L L' M:List HP}
abbrev Ca (x:UInt8):Value:= .int .u8 x.toNat
theorem Hs.o6 {b:Nat} {c:List Value} {e:TypeId} {x:Bool} (g:Hs G h ((fun r=>r=eZ b c (some (.mt e x c.length)))::L)):Hs G (h.set b none) L:=by
 obtain⟨r,l,w,p,q,f,d⟩:=g.fst;subst w;obtain⟨m,z⟩:=lL f d;have t:=Nat.le_trans g.le m;have a:∀j,(h.set b none).get j=if j=b then none else h.get j:=fun j=>AH.dO t
 have u:∀j,(l.tok j≠none\/∃o,l.cell j o≠none)->j≠b:=by
  intro j s n;subst n;rcases s with k|⟨o,k⟩;rcases q.tok j with h|h;simp[eZ] at h;exact k h;rcases q.cell j o with h|h;simp only[eZ,if_true] at h;cases hc:l.cell j o with
  |none=>exact k hc
  |some v=>
   obtain⟨_,y,_,_,g1,g2⟩:=d.cell j o v hc;grind
  exact k h
 refine⟨by simp;exact g.base,fun i f=>by rw[a,aab];exact g.old i f,by simp;exact g.wf,fun i f=>by simp at f;rw[a];split;rfl;exact g.fr i f,l,p,?_⟩;exact d.of (by simp) (by simp) fun j s=>by grind
theorem Hs.gH {b:Nat} {c:List Value} {e:TypeId} {x:Bool} {n:Nat} (i:n=c.length) (k:Hs G h (aM b 0 c::mt b (e,x,n)::L)):h.base<=b/\h.get b=some (.cells c e (0,0) x):=by
 subst i;have f:Hs G h ((fun r=>r=eZ b c (some (.mt e x c.length)))::L):=Hs.join (A:=[_,_]) k fun r d=>kX d;obtain⟨r,m,d,j,l,g,a⟩:=f.fst;subst d;exact⟨Nat.le_trans f.le (lL g a).1,(lL g a).2⟩
theorem Ac:∀l:List UInt8,vN (l.map Ca)=some l
 |[]=>rfl
 |x::l=>by
  show(if 0<=(x.toNat:Int)/\(x.toNat:Int)<256 then(vN (l.map Ca)).map fun r=>((x.toNat:Int).toNat.toUInt8)::r else none)=_;have:=x.toNat_lt;rw[aae,Ac l];simp
theorem Xl {f:FuncId} {t:TypeId} {b:Nat} {p s:Value} {Q:Value->AH->Prop} (q:K f [pt b 0 0]=some (.host (Bc t b))) (w:p= .pointer none\/p=pt b 0 0)
  (i:Hs G h (aM b 0 [p,s]::mt b (t,true,2)::L)) (r:∀a,Hs G a (aM b 0 [pt b 0 0,s]::mt b (t,true,2)::L)->Q (.tuple ⟨[]⟩) a):Cl P K f [pt b 0 0] h Q:=by
 obtain⟨u,g⟩:=i.gH rfl
 rcases w with rfl|rfl
 .obtain⟨a,d,m⟩:=dL (b:=b) (o:=0) (j:=0) (c:=[.pointer none,s]) (n:=1) (vs:=[pt b 0 0]) (v:=pt b 0 0) (L':=mt b (t,true,2)::L) (k:=fun a=>Hs G a (aM b 0 [pt b 0 0,s]::mt b (t,true,2)::L)) i rfl rfl rfl rfl fun a l=>l;have e:a=h.set b (some (.cells [pt b 0 0,s] t (0,0) true)):=by
   simp[vI,pt,dS,nJ,Value.cells,bL,g] at d;obtain⟨_,d⟩:=d;rw[<-d];rfl
  refine uB q (v:= .tuple ⟨[]⟩) (h':=a) ?_ (r a m)
  unfold Bc
  rw[g]
  simp only
  rw[Nat.beq_refl,Nat.ble_eq_true_of_le u,e]
  rfl
 .refine uB q (v:= .tuple ⟨[]⟩) (h':=h) ?_ (r h i);unfold Bc;rw[g];show(if Nat.beq b b&&Nat.beq t t then _ else _)=_;rw[Nat.beq_refl,Nat.beq_refl];rfl
theorem Za {f:FuncId} {t u:TypeId} {b:Nat} {p:Value} {Q:Value->AH->Prop} (a:K f [pt b 0 0]=some (.host (xP t u b)))
  (e:Hs G h (aM b 0 [p,.slice none 0 0]::mt b (t,true,2)::L)) (d:Q (tx []) h):Cl P K f [pt b 0 0] h Q:=by
 obtain⟨g,c⟩:=e.gH rfl
 refine uB a (v:=tx []) (h':=h) ?_ d
 unfold xP
 rw[c]
 simp only
 rw[Nat.beq_refl]
 rfl
theorem Y3 {f:FuncId} {t u:TypeId} {b c:Nat} {a:Option Addr} {p:Value} {l:List UInt8} {Q:Value->AH->Prop} (E:K f [pt b 0 0]=some (.host (xP t u b))) (C:0<l.length) (hle:l.length<=1000000)
  (x:Hs G h (aM b 0 [p,.slice a l.length c]::mt b (t,true,2)::cB 1 u a c (l.length,l.map Ca)::L)) (I:∀q,Hs G q (aM b 0 [p,.slice a l.length c]::mt b (t,true,2)::L)->Q (tx l) q):Cl P K f [pt b 0 0] h Q:=by
 obtain⟨O,H⟩:=x.gH rfl
 have j:Hs G h (cB 1 u a c (l.length,l.map Ca)::aM b 0 [p,.slice a l.length c]::mt b (t,true,2)::L):=x.perm ((List.perm_append_comm (l₁:=[aM b 0 [p,.slice a l.length c],mt b (t,true,2)]) (l₂:=[cB 1 u a c (l.length,l.map Ca)])).append_right L)
 obtain⟨r,N,o,w,z,A,n⟩:=j.fst
 obtain⟨J,F,o⟩:=o
 simp only at J F o
 rcases o with⟨D,_⟩|⟨D,_⟩|⟨m,g,d,i,ex,rfl,B,rfl⟩
 .omega
 .omega
 obtain⟨k,s⟩:=lL A n
 have k:=Nat.le_trans x.le k
 have y:Hs G h ((fun r=>r=eZ g (d++l.map Ca++i) (some (.mt u ex (d++l.map Ca++i).length)))::aM b 0 [p,.slice (some ⟨g,d.length,none⟩) l.length c]::mt b (t,true,2)::L):=⟨j.base,j.old,j.wf,j.fr,_,⟨_,N,rfl,w,z,rfl⟩,(aU.dA z).2 ⟨A,n⟩⟩
 refine uB E (v:=tx l) (h':=h.set g none) ?_ (I _ y.o6)
 unfold xP
 rw[H]
 simp only
 rw[Nat.beq_refl,Nat.ble_eq_true_of_le (show 1<=l.length from C),Nat.ble_eq_true_of_le m,Nat.ble_eq_true_of_le hle,Nat.ble_eq_true_of_le k,s]
 simp only[Bool.and_self,if_true]
 have e:((d++l.map Ca++i).drop d.length).take l.length=l.map Ca:=by
  rw[List.append_assoc,List.drop_left];exact List.take_left' (by simp)
 rw[Nat.beq_refl,Nat.ble_eq_true_of_le (show d.length+l.length<=(d++l.map Ca++i).length by simp),e,Ac]
 rfl
end Go.Ab
end
