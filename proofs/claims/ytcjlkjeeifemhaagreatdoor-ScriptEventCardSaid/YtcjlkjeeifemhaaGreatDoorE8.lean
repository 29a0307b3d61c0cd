/- A part of the proof. -/
import Derived.Test.YtcjlkjeeifemhaaGreatDoorE6
import Derived.Test.YtcjlkjeeifemhaaGreatDoorE7
import Derived.Test.YtcjlkjeeifemhaaGreatDoorE5
import Derived.LaidLaws
import Derived.MakeChecks
import Derived.WalkKit
import Derived.ProofKit
import Derived.ChangeOld
import Derived.ChangeSame
import Derived.ChangeVars
import Derived.JoinedOf
import Derived.Carry
import Derived.LaidHandle
import Derived.Stop.Joined
import Derived.Lib.ItoaNum
import Derived.Lib.Bytes
import Derived.Lib.AtoiAll
import Derived.Lib.Bytealg
import Derived.Lib.Join
section
namespace Go.Ab
noncomputable section
variable {P:Program} {K:FuncId->List Value->Option bZ}
def hA:Unit:=Function.const _ () @Cl
def hB:Unit:=Function.const _ () hA
def hC:Unit:=Function.const _ () hB
def hD:Unit:=Function.const _ () hC
def hE:Unit:=Function.const _ () hD
def hG:Unit:=Function.const _ () hE
def hP (p:Prop):Prop:=(fun _:Unit=>p) hG
def hF:Prop:=hP False
inductive Kn where
 |un|ex|b (x:Bool)|sk|no
abbrev Ek:=List (Nat×Value×Kn)
def Ek.lk:Ek->Nat->Option (Value×Kn)
 |[],_=>none
 |(d,v,k)::a,t=>match Nat.beq d t with
  |true=>(match k with
   |.no=>none
   |k=>some (v,k))
  |false=>Ek.lk a t
def bB (a:Ek) (env:List Value):Prop:=∀t v k,a.lk t=some (v,k)->env[t]?=some v/\(∀x,k= .b x->v= .bool x)/\(k= .sk->v=undef)
def Ht (v:Value) (k:Value->Prop):Prop:=match v with
 |.int .i64 n=>k (I n)
 |v=>hP (k v)
def fQ (P:Program) (a:Ek) (x:Operand) (k:Value->Prop):Prop:=match x with
 |.tmp t=>(match a.lk t with
  |some (v,_)=>k v
  |none=>hF)
 |.const v=>(match aR v with
  |true=>Ht v k
  |false=>k top)
 |.global g=>(match Nat.blt g P.globals.size with
  |true=>k (.pointer (some ⟨g,0,none⟩))
  |false=>k top)
 |.func f=>k (.func (.func f) #[] #[])
theorem aY {a:Ek} {env:List Value} (o:bB a env) {x:Operand} {k:Value->Prop} (h:fQ P a x k):k (aH P env x):=by
 unfold fQ at h;split at h;split at h;rename_i j;have:=(o _ _ _ j).1;simpa only[aH,List.getD_eq_getElem?_getD,this,Option.getD_some] using h;cases h;split at h;rename_i m;simp only[aH,m,if_true];unfold Ht at h;split at h<;>exact h;rename_i m;simpa only[aH,m,Bool.false_eq_true,if_false] using h;split at h;rename_i g _ d;have:g<P.globals.size:=Nat.le_of_ble_eq_true d;simpa only[aH,this,if_true] using h;rename_i g _ d;have:¬g<P.globals.size:=fun j=>by rw[show Nat.blt g P.globals.size=true from Nat.ble_eq_true_of_le j] at d;cases d
 simpa only[aH,this,if_false] using h;exact h
def Dw (P:Program) (a:Ek) (x:Option Operand) (k:Option Value->Prop):Prop:=match x with
 |none=>k none
 |some x=>fQ P a x fun v=>k (some v)
theorem wW {a:Ek} {env:List Value} (d:bB a env) {x:Option Operand} {k:Option Value->Prop} (h:Dw P a x k):k (x.map (aH P env)):=by
 cases x with
 |none=>exact h
 |some x=>exact aY d h
def vE (P:Program) (a:Ek):List Operand->(List Value->Prop)->Prop
 |[],k=>k []
 |x::l,k=>fQ P a x fun v=>vE P a l fun d=>k (v::d)
theorem jV {a:Ek} {env:List Value} (d:bB a env):∀{l:List Operand} {k:List Value->Prop},vE P a l k->k (l.map (aH P env))
 |[],_,h=>h
 |_::l,k,h=>by
  have g:=aY d h;have j:=jV d (l:=l) g;exact j
def Gr {α:Type}:List α->(List α->Prop)->Prop
 |[],k=>hP (k [])
 |v::l,k=>Gr l fun l=>k (v::l)
theorem qB {α:Type}:∀{l:List α} {k:List α->Prop},Gr l k->k l
 |[],_,h=>h
 |_::l,_k,h=>qB (l:=l) h
def sU (P:Program) (t:TypeId) (k:Nat->Prop):Prop:=match P.info? t with
 |some ⟨_,_,n,_,_,_,_,_,_,_⟩=>k n
 |none=>hF
theorem eO {t:TypeId} {k:Nat->Prop} (h:sU P t k):(P.info? t).isSome=true/\k (P.cellsOf t):=by
 unfold sU at h;split at h;rename_i d;exact⟨by rw[d];rfl,by unfold Program.cellsOf;rw[d];exact h⟩;cases h
def pC (P:Program) (a:Ek) (place:Nat->(Nat->Nat->Prop)->Prop):List (Nat×Operand)->(List (Nat×Nat×Value)->Prop)->Prop
 |[],k=>k []
 |(i,x)::rest,k=>place i fun d size=>fQ P a x fun v=>pC P a place rest fun l=>k ((d,size,v)::l)
theorem kJ {a:Ek} {env:List Value} (d:bB a env) {place:Nat->(Nat->Nat->Prop)->Prop} {pl:Nat->Option (Nat×Nat)} (g:∀i k,place i k->∃o s,pl i=some (o,s)/\k o s):
  ∀{l:List (Nat×Operand)} {k:List (Nat×Nat×Value)->Prop},pC P a place l k->∃r,gL pl (aH P env) l=some r/\k r
 |[],_,h=>⟨_,rfl,h⟩
 |(i,x)::rest,_,h=>by
  obtain⟨o,s,j,m⟩:=g _ _ h;obtain⟨r,t,u⟩:=kJ d g (aY d m);exact⟨_,by simp only[gL,j,t],u⟩
def J5 (P:Program) (fs:Array Field) (i:Nat) (k:Nat->Nat->Prop):Prop:=match fs[i]? with
 |some ⟨_,t,d,_,_,_,_⟩=>sU P t fun n=>k d n
 |none=>hF
theorem Hx {fs:Array Field} (i:Nat) (k:Nat->Nat->Prop) (h:J5 P fs i k):∃o s,((fs[i]?).map fun f=>(f.offset,P.cellsOf f.type))=some (o,s)/\k o s:=by
 unfold J5 at h;split at h;rename_i d;exact⟨_,_,by rw[d];rfl,(eO h).2⟩;cases h
def Kf (n:Nat) (i:Nat) (k:Nat->Nat->Prop):Prop:=hP (k (i*n) n)
def wZ (P:Program) (t:TypeId) (k:List Value->Prop):Prop:=match zeroOf P t with
 |some z=>Gr z k
 |none=>hF
theorem zU {t:TypeId} {k:List Value->Prop} (h:wZ P t k):∃z,zeroOf P t=some z/\k z:=by
 unfold wZ at h;split at h;exact⟨_,by assumption,qB h⟩;cases h
def Hc (l:List Nat):Nat->List Nat->List Nat
 |0,acc=>acc
 |n+1,acc=>Hc l n (l++acc)
def kF (P:Program):Nat->TypeId->Option (List Nat)
 |0,_=>none
 |d+1,t=>match P.underlying t with
  |some .bool=>some [1]
  |some (.int _)=>some [0]
  |some .string=>some [2]
  |some (.array n e)=>(match kF P d e with
   |some l=>some (Hc l n [])
   |none=>none)
  |some (.struct g)=>g.toList.foldr (fun f r=>match kF P d f.type,r with
   |some a,some b=>some (a++b)
   |_,_=>none) (some [])
  |_=>none
def J0:Option (List Nat)->List Nat->Bool
 |some l,m=>l==m
 |none,_=>false
theorem Er {o:Option (List Nat)} {l:List Nat} (h:J0 o l=true):o=some l:=by
 unfold J0 at h;grind
def wB (P:Program) (op:BinOp) (t:TypeId) (x y:Operand) (a b:Value) (q:Value->Prop):Prop:=
 match P.underlying t with
 |some (.int _)=>aQ (Bi op a b) q
 |some .string=>aQ (E5 op a b) q
 |some .bool=>aQ (H5 op a b) q
 |some (.pointer _)=>aQ (I0 op a b) q
 |some (.slice _)=>aQ (Ix op a b) q
 |some (.func _ _ _)=>aQ (Iz op a b) q
 |some (.interface _)=>(match isConst x||isConst y with
  |true=>aQ (H0 true op a b) q
  |false=>aQ (H0 false op a b) q)
 |some (.struct _)|some (.array _ _)=>(match kF P 20 t with
  |some d=>Gr d fun d=>Ji (J0 (mX P t) d) d op a b q
  |none=>hF)
 |_=>hF
theorem Js {op:BinOp} {t:TypeId} {x y:Operand} {a b:Value} {q:Value->Prop} (h:wB P op t x y a b q):sY P op t x y a b q aQ:=by
 unfold wB at h;unfold sY;split at h;case h_7=>
  grind
 case h_8=>
  rename_i d;rw[d];split at h;obtain⟨g,h⟩:=qB h;simp only[Er g];exact h;cases h
 case h_9=>
  rename_i d;rw[d];split at h;obtain⟨g,h⟩:=qB h;simp only[Er g];exact h;cases h
 all_goals first|(rename_i d;rw[d];exact h)|cases h
def wL (P:Program) (a:Ek) (h:AH) (q:Value->Prop):Op->Prop
 |.move x=>fQ P a x q
 |.assign x=>fQ P a x q
 |.pick c x y=>fQ P a c fun c=>fQ P a x fun x=>fQ P a y fun y=>aQ (Bw c x y) q
 |.build t j=>wZ P t fun z=>(match P.underlying t with
  |some (.struct r)=>(match r.toList.all (fun f=>(P.info? f.type).isSome) with
   |true=>pC P a (J5 P r) j.toList fun l=>aQ (iF z l) fun c=>q (.agg ⟨c⟩)
   |false=>hF)
  |some (.array _ e)=>sU P e fun n=>pC P a (Kf n) j.toList fun l=>aQ (iF z l) fun c=>q (.agg ⟨c⟩)
  |_=>hF)
 |.load t x=>fQ P a x fun x=>(match bY P t with
  |some true=>sU P t fun n=>aQ (Co h n x) q
  |some false=>aQ (Cq h x) q
  |none=>hF)
 |.nilCheck x=>fQ P a x fun x=>aQ (Fy x) q
 |.binOp op t x y _=>fQ P a x fun u=>fQ P a y fun v=>wB P op t x y u v q
 |.unOp op _ x=>fQ P a x fun x=>aQ (Il op x) q
 |.convert s d x=>fQ P a x fun x=>(match P.underlying s with
  |some .string=>(match P.underlying d with
   |some (.int k)=>aQ (mQ k x) q
   |some .string=>aQ (xM x) q
   |_=>hF)
  |some (.slice e)=>(match P.underlying d with
   |some .string=>(match P.underlying e with
    |some (.int .u8)=>aQ (strOf h x) q
    |_=>hF)
   |_=>hF)
  |some _=>(match P.underlying d with
   |some (.int k)=>aQ (mQ k x) q
   |_=>hF)
  |none=>hF)
 |.makeInterface t x=>fQ P a x fun x=>(match P.underlying t with
  |some (.interface _)=>hF
  |some _=>q (.iface t x)
  |none=>hF)
 |.makeFunc D first g=>(match D with
  |.func f=>vE P a first.toList fun x=>vE P a g.toList fun y=>q (.func (.func f) ⟨x⟩ ⟨y⟩)
  |_=>hF)
 |.slice t x B A C=>fQ P a x fun x=>Dw P a B fun B=>Dw P a A fun A=>Dw P a C fun C=>(match P.underlying t with
  |some (.slice e)=>sU P e fun n=>aQ (I8 n h x B A C) q
  |some (.array n e)=>sU P e fun m=>aQ (Iy n m x B A C) q
  |some .string=>(match C with
   |none=>aQ (Iv x B A) q
   |some _=>hF)
  |_=>hF)
 |.fieldAddr s x f=>fQ P a x fun x=>(match P.underlying s with
  |some (.struct r)=>(match r[f]? with
   |some ⟨_,t,o,_,_,_,_⟩=>sU P t fun n=>(match Nat.beq n 0 with
    |true=>hF
    |false=>aQ (zF o x) q)
   |none=>hF)
  |_=>hF)
 |.field t x f=>fQ P a x fun x=>(match P.underlying t with
  |some (.struct r)=>(match r[f]? with
   |some ⟨_,t,o,_,_,_,_⟩=>(match bY P t with
    |some true=>sU P t fun n=>aQ (yD o n x) q
    |some false=>aQ (yO o x) q
    |none=>hF)
   |none=>hF)
  |_=>hF)
 |.indexAddr t x i=>fQ P a x fun x=>fQ P a i fun i=>(match P.underlying t with
  |some (.array n e)=>sU P e fun m=>aQ (Cr n m x i) q
  |some (.slice e)=>sU P e fun m=>aQ (wN m x i) q
  |_=>hF)
 |.index t x i=>fQ P a x fun x=>fQ P a i fun i=>(match P.underlying t with
  |some (.array n e)=>sU P e fun m=>(match bY P e with
   |some true=>aQ (I4 n m x i) q
   |some false=>aQ (Ja n m x i) q
   |none=>hF)
  |some .string=>aQ (I9 x i) q
  |_=>hF)
 |.extract t i=>fQ P a t fun t=>aQ (F5 i t) q
 |.lookup t x ix ok=>fQ P a x fun x=>fQ P a ix fun ix=>(match lF P t with
  |some e=>(match zeroV P e with
   |some z=>aQ (Jm z h x ix ok) q
   |none=>hF)
  |none=>hF)
 |_=>hF
theorem G8 {a:Ek} {env:List Value} (g:bB a env) {h:AH} {q:Value->Prop} {op:Op} (d:wL P a h q op):cA P (aH P env) h q op:=by
 unfold wL at d;split at d;case h_1=>exact aY g d
 case h_2=>exact aY g d
 case h_3=>exact aY g (aY g (aY g d))
 case h_4=>
  obtain⟨z,E,d⟩:=zU d;unfold cA;simp only[E];split at d;rename_i v;simp only[v];split at d;rename_i o;rw[Array.all_toList] at o;simp only[o,if_true];obtain⟨r,m,u⟩:=kJ g Hx d;grind;cases d;rename_i e v;simp only[v];obtain⟨C,d⟩:=eO d;simp only[C,if_true];obtain⟨r,m,u⟩:=kJ (pl:=fun i=>some (i*P.cellsOf e,P.cellsOf e)) g (fun i k D=>⟨_,_,rfl,D⟩) d;grind;cases d
 case h_5=>
  have d:=aY g d;unfold cA;split at d;rename_i v;simp only[v];exact(eO d).2;grind;cases d
 case h_6=>exact aY g d
 case h_7=>exact Js (aY g (aY g d))
 case h_8=>exact aY g d
 case h_9=>
  have d:=aY g d;unfold cA;split at d;rename_i j;simp only[j];split at d<;>first|(rename_i t;simp only[t];exact d)|cases d
  rename_i j;simp only[j];split at d;rename_i t;simp only[t];split at d<;>first|(rename_i t;simp only[t];exact d)|cases d
  cases d;rename_i m u j;simp only[j];split at d<;>first|(rename_i t;simp only[t];exact d)|cases d
  cases d
 case h_10=>
  have d:=aY g d;unfold cA;split at d;cases d;grind;cases d
 case h_11=>
  unfold cA;split at d;have d:=jV g (jV g d);simpa only[List.map_toArray,<-Array.toList_map] using d;cases d
 case h_12=>
  have d:=wW g (wW g (wW g (aY g d)));unfold cA;split at d;rename_i j;simp only[j];obtain⟨m,u⟩:=eO d;grind;rename_i j;simp only[j];obtain⟨m,u⟩:=eO d;grind;rename_i j;simp only[j];split;exact d;exact d.elim;cases d
 case h_13=>
  have d:=aY g d;unfold cA;split at d;rename_i j;simp only[j];split at d;rename_i y;simp only[y];obtain⟨_,d⟩:=eO d;split at d;cases d;rename_i A;rw[Kw (fun e=>by rw[e] at A;cases A)];exact d;cases d;cases d
 case h_14=>
  have d:=aY g d;unfold cA;split at d;rename_i j;simp only[j];split at d;rename_i y;simp only[y];split at d;rename_i B;simp only[B];exact(eO d).2;grind;cases d;cases d;cases d
 case h_15=>
  have d:=aY g (aY g d);unfold cA;split at d;rename_i j;simp only[j];obtain⟨m,u⟩:=eO d;grind;rename_i j;simp only[j];obtain⟨m,u⟩:=eO d;grind;cases d
 case h_16=>
  have d:=aY g (aY g d);unfold cA;split at d;rename_i j;simp only[j];obtain⟨m,d⟩:=eO d;simp only[m,if_true];split at d;grind;grind;cases d;grind;cases d
 case h_17=>exact aY g d
 case h_18=>
  have d:=aY g (aY g d);unfold cA;split at d;rename_i j;simp only[j];split at d;grind;cases d;cases d
 case h_19=>cases d
end
end Go.Ab
end
section
namespace Go.Ab
noncomputable section
variable {P:Program} {K:FuncId->List Value->Option bZ}
def Kr (v:Value) (p:Prop):Prop:=∃k n,v= .int k n/\p
def lits:List Nat:=[0,1,2,3,4,5,6,7,8,9,10,11,12,13,14,15,16,17,18,19,20,21,22,23,24,25,26,27,28,29,30,31,32,33,34,35,36,37,38,39,40,41,42,43,44,45,46,47,48,49,50,51,52,53,54,55,56,57,58,59,60,61,62,63,64,65,66,67,68,69,70,71,72,73,74,75,76,77,78,79,80,81,82,83,84,85,86,87,88,89,90,91,92,93,94,95,96,97,98,99]
def nK (n:Nat) (k:Nat->Prop):Prop:=match lits[n]? with
 |some m=>(match Nat.beq m n with
  |true=>k m
  |false=>hF)
 |none=>k n
theorem Aj {n:Nat} {k:Nat->Prop} (h:nK n k):k n:=by
 unfold nK at h;split at h;split at h;simp_all;cases h;exact h
def I3 (P:Program) (t:TypeId) (k:Nat->Prop):Prop:=match P.info? t with
 |some ⟨_,_,_,n,_,_,_,_,_,_⟩=>k n
 |none=>hF
theorem Ex {t:TypeId} {k:Nat->Prop} (h:I3 P t k):k (P.bytesOf t):=by
 unfold I3 at h;split at h;rename_i d;unfold Program.bytesOf;rw[d];exact h;cases h
def Io (P:Program) (h:AH) (q:Value->AH->Prop) (j:Array TypeId):Builtin->List Value->Prop
 |.len,[x]=>match(j[0]?).bind P.underlying with
  |some .string=>aQ (B0 x) fun v=>q v h
  |some (.slice _)=>aQ (zD x) fun v=>q v h
  |some (.array n _)=>q (I n) h
  |some (.pointer e)=>(match P.underlying e with
   |some (.array n _)=>q (I n) h
   |_=>hF)
  |some (.map _ _)=>aQ (Dl h x) fun v=>q v h
  |_=>hF
 |.append,[s,x]=>match(j[0]?).bind P.underlying with
  |some (.slice e)=>(match nC P j with
   |true=>wZ P e fun _=>sU P e fun n=>I3 P e fun m=>aQ (iH n m e h s x) fun r=>(match r with|(v,g)=>q v g)
   |false=>hF)
  |_=>hF
 |.copy,[d,x]=>match(j[0]?).bind P.underlying with
  |some (.slice e)=>sU P e fun n=>aQ (copyV n h d x) fun r=>(match r with|(v,g)=>q v g)
  |_=>hF
 |.clear,[x]=>match(j[0]?).bind P.underlying with
  |some (.slice e)=>wZ P e fun z=>aQ (sP z h x) fun r=>(match r with|(v,g)=>q v g)
  |_=>hF
 |.min,[x,y]=>aQ (Ao x y) fun v=>q v h
 |.max,[x,y]=>aQ (Ba x y) fun v=>q v h
 |.delete,[m,k]=>(match j[0]? with
  |some t=>(match lF P t with
   |some _=>aQ (yN h m k) fun g=>q (.tuple #[]) g
   |none=>hF)
  |none=>hF)
 |.cap,[x]=>match(j[0]?).bind P.underlying with
  |some (.slice _)=>aQ (F2 x) fun v=>q v h
  |_=>hF
 |_,_=>hF
theorem Ey {h:AH} {q:Value->AH->Prop} {m:Array TypeId} {b:Builtin} {l:List Value} (d:Io P h q m b l):fS P h q m b l:=by
 unfold Io at d;unfold fS;split at d;split at d<;>(rename_i g;simp only[g];exact d);split at d;rename_i g;simp only[g];split at d;rename_i o;obtain⟨z,j,d⟩:=zU d;obtain⟨_,d⟩:=eO d;rw[Kx ⟨o,by rw[j];rfl⟩];exact Ex d;cases d;cases d;split at d;rename_i g;simp only[g];obtain⟨r,d⟩:=eO d;grind;cases d;split at d;rename_i g;simp only[g];obtain⟨z,j,d⟩:=zU d;grind;cases d;exact d;exact d;split at d;rename_i g;simp only[g];split at d;grind;cases d;cases d;split at d;rename_i g;simp only[g];exact d;cases d;cases d
def wH (P:Program) (K:FuncId->List Value->Option bZ) (a:Ek) (h:AH) (q:Value->AH->Prop):Op->Prop
 |.store t p x=>sU P t fun n=>fQ P a p fun p=>fQ P a x fun x=>aQ (I2 h n p x) fun d=>q undef d
 |.call c=>(match c.callee with
  |.builtin b=>vE P a c.args.toList fun l=>Io P h q c.argTypes b l
  |.value (.func g)=>(match cB P g with
   |true=>vE P a c.args.toList fun l=>Cl P K g l h q
   |false=>hF)
  |.value f=>fQ P a f fun f=>vE P a c.args.toList fun l=>Dj P K f l h q
  |.invoke _ _=>hF)
 |.mapUpdate t m k x=>(match lF P t with
  |some _=>fQ P a m fun m=>fQ P a k fun k=>fQ P a x fun x=>aQ (xV h m k x) fun d=>q undef d
  |none=>hF)
 |_=>hF
theorem Fo {a:Ek} {env:List Value} (g:bB a env) {h:AH} {q:Value->AH->Prop} {op:Op} (d:wH P K a h q op):iY P K (aH P env) h q op:=by
 unfold wH at d;unfold iY;split at d;obtain⟨m,d⟩:=eO d;simp only[m,if_true];exact aY g (aY g d);split at d;rename_i j;simp only[j];exact Ey (jV g d);rename_i j;simp only[j];split at d;rename_i o;simp only[o,if_true];exact jV g d;cases d;rename_i j;simp only[j];exact jV g (aY g d);cases d;split at d;rename_i r;simp only[r];exact aY g (aY g (aY g d));cases d;cases d
def wA (P:Program) (a:Ek) (mk:dQ->(Nat->AH->Prop)->Prop) (Cp:Nat->TypeId->List Value->Nat->Nat->(Value->AH->Prop)->Prop) (q:Value->AH->Prop):Op->Prop
 |.alloc e=>wZ P e fun z=>mk (.cells z e (0,0) true) fun p d=>q (pt p 0 0) d
 |.box e x=>fQ P a x fun x=>aQ (oH e x) fun b=>mk b fun p d=>q (pt p 0 0) d
 |.buildSlice t len g=>match P.underlying t with
  |some (.slice e)=>wZ P e fun z=>sU P e fun n=>(match Nat.ble (len*n) 16777216 with
   |true=>pC P a (Kf n) g.toList fun j=>Gr (bP z len) fun o=>aQ (iF o j) fun l=>Cp n e l len len q
   |false=>hF)
  |_=>hF
 |.makeSlice t l c=>match P.underlying t with
  |some (.slice e)=>wZ P e fun z=>sU P e fun n=>I3 P e fun m=>fQ P a l fun l=>fQ P a c fun c=>aQ (Jn m l c) fun r=>Cp n e (bP z r.2) r.1 r.2 q
  |_=>hF
 |.makeMap _ none=>mk (.map [] 0) fun p d=>q (D1 p) d
 |.makeMap t (some x)=>match P.underlying t with
  |some (.map _ _)=>fQ P a x fun x=>Kr x (mk (.map [] 0) fun p d=>q (D1 p) d)
  |_=>hF
 |_=>hF
where Jn:=Go.Ab.Cp
theorem Gw {a:Ek} {env:List Value} (g:bB a env) {mk:dQ->(Nat->AH->Prop)->Prop} {Cp:Nat->TypeId->List Value->Nat->Nat->(Value->AH->Prop)->Prop}
  (y:∀W e l n c k,Cp W e l n c k->mk (.cells l e (0,0) true) fun p o=>k (B2 n c p) o) {q:Value->AH->Prop} {op:Op} (d:wA P a mk Cp q op):
  iX P (aH P env) (fun b f=>mk b fun i o=>q (f i) o) op:=by
 unfold wA at d
 unfold iX
 split at d
 .obtain⟨z,m,d⟩:=zU d;simp only[m];exact d
 .exact aY g d
 .split at d
  .rename_i j;simp only[j];obtain⟨z,m,d⟩:=zU d;obtain⟨_,d⟩:=eO d;simp only[m];split at d
   .rename_i A;rw[Kx (Nat.le_of_ble_eq_true A)];obtain⟨r,u,d⟩:=kJ (pl:=fun i=>some (i*P.cellsOf _,P.cellsOf _)) g (fun i k B=>⟨_,_,rfl,B⟩) d;simp only[u];exact(qB d).mono fun v t=>y _ _ _ _ _ _ t
   .cases d
  .cases d
 .split at d
  .rename_i j;simp only[j];obtain⟨z,m,d⟩:=zU d;obtain⟨_,d⟩:=eO d;simp only[m];exact(aY g (aY g (Ex d))).mono fun v t=>y _ _ _ _ _ _ t
  .cases d
 .exact d
 .split at d
  .rename_i j;simp only[j];obtain⟨k,n,u,d⟩:=aY g d;grind
  .cases d
 .cases d
end
end Go.Ab
end
section
namespace Go.Ab
variable {P:Program} {K:FuncId->List Value->Option bZ} {G:Bg} {h:AH} {L L' M:List HP}
theorem D3 {f:FuncId} {args:List Value} {F:AH->Option (Value×AH)} {v:Value} {h':AH} {Q:Value->AH->Prop} (d:K f args=some (.host F)) (hF:F h=some (v,h')) (g:Q v h'):Cl P K f args h Q:=by
 refine⟨1,(⟨.cO,[],[],v⟩,h'),?_,g⟩;show cN P K (fun t h=>run P K 0 t h) f args h=_;unfold cN;rw[d];simp only[hF,Option.map_some]
end Go.Ab
end
section
namespace Go.Ab
variable {P:Program} {K:FuncId->List Value->Option bZ} {G:Bg} {h:AH} {L L' M:List HP}
def eL {α:Type} (enc:α->List Value) (l:List α):List Value:=l.flatMap enc
end Go.Ab
end
namespace Go.Hm
open Go Go.Ab
section
structure Ay where
 A6:Int
 kM:Int
 Gi:Int
 ways:Int
 depth:Int
 entries:Int
 oM:Int
 deriving DecidableEq
def Ay.enc (C:Ay):List Value:=[I C.A6,I C.kM,I C.Gi,I C.ways,I C.depth,I C.entries,I C.oM]
def A1:List Value:=[I 4,I 16,I 8,I 4,I 16,I 8,I 4]
def Ay.Ok (C:Ay):Prop:=(1<=C.A6/\C.A6<=4)/\(1<=C.kM/\C.kM<=16)/\(1<=C.Gi/\C.Gi<=8)/\(1<=C.ways/\C.ways<=4)/\(1<=C.depth/\C.depth<=16)/\(1<=C.entries/\C.entries<=8)/\(1<=C.oM/\C.oM<=4)
def Ay.lines (C:Ay):Nat:=(C.kM*2).toNat
end
section
abbrev Ln:=Int×Int
theorem Ay.bk {C:Ay} (h:C.Ok):(C.oM.toNat:Int)=C.oM/\0<C.oM.toNat/\C.oM.toNat<=4:=by unfold Ay.Ok at h;omega
end
section
structure dC where
 kind:Int
 core:Int
 line:Int
 world:Int
 state:Int
 d0:Int
 d1:Int
 tS:Bool
 no:Int
 deriving DecidableEq
def dC.enc (n:dC):List Value:=[I n.kind,I n.core,I n.line,I n.world,I n.state,I n.d0,I n.d1,.bool n.tS,I n.no]
def dC.zero:dC:=⟨0,0,0,0,0,0,0,false,0⟩
def Cd (l:List dC):List Value:=l.flatMap dC.enc
@[simp] theorem F7 (n:dC) (l:List dC):Cd (n::l)=n.enc++Cd l:=rfl
@[simp] theorem Gs:Cd []=[]:=rfl
structure Row where
 owner:Int
 sh:Nat->Bool
 waits:List dC
 busy:Bool
 served:dC
 world:Int
 asked:Nat->Bool
 granted:Bool
 told:Bool
 d0:Int
 d1:Int
def Row.enc (r:Row) (a:Option Addr) (c:Nat):List Value:=
 [I r.owner,.bool (r.sh 0),.bool (r.sh 1),.bool (r.sh 2),.bool (r.sh 3),.slice a r.waits.length c,.bool r.busy,I r.served.kind,I r.served.core,I r.served.line,I r.served.world,I r.served.state,I r.served.d0,I r.served.d1,.bool r.served.tS,I r.served.no,
   I r.world,.bool (r.asked 0),.bool (r.asked 1),.bool (r.asked 2),.bool (r.asked 3),.bool r.granted,.bool r.told,I r.d0,I r.d1]
def A7 (f:Nat->Bool) (i:Int) (v:Bool):Nat->Bool:=fun j=>if(j:Int)=i then v else f j
def Row.free (r:Row):Row:={r with busy:=false,granted:=false,told:=false,served:=dC.zero,world:=0,d0:=0,d1:=0}
def Row.leave (r:Row) (core:Int):Row:={r with sh:=A7 r.sh core false,owner:=if r.owner=core then -1 else r.owner}
def Row.holds (r:Row) (d:Int) (i:Nat):Bool:=decide ((i:Int)≠d)&&(r.sh i||decide ((i:Int)=r.owner))
def Row.Ap (r:Row) (d:Int):Nat->Nat->Int
 |0,_=> -1
 |f+1,i=>if r.holds d i then i else r.Ap d f (i+1)
def Row.first (r:Row) (d:Int):Int:=r.Ap d 4 0
def Row.nO (r:Row) (d:Int):Nat->Nat->List Nat
 |0,_=>[]
 |f+1,i=>if r.holds d i then i::r.nO d f (i+1) else r.nO d f (i+1)
def Row.xR (r:Row) (d:Int):List Nat:=r.nO d 4 0
def Row.Bh (r:Row) (l:List Nat):Row:={r with asked:=fun j=>r.asked j||l.contains j}
def A9 (line state:Int) (l:List Nat):List dC:=l.map fun(i:Nat)=>{dC.zero with kind:=11,core:=(i:Int),line:=line,state:=state}
def Row.quiet (r:Row):Bool:= !(r.asked 0||r.asked 1||r.asked 2||r.asked 3)
abbrev Fh:=Row×Ln
def Row.Jp (r:Row) (m:Ln):Ln:=if r.told then(r.d0,r.d1) else m
def Row.xD (r:Row) (line st:Int) (d:Ln):dC:=⟨8,r.served.core,line,r.world,st,d.1,d.2,false,0⟩
def Row.B3 (r:Row) (line:Int) (d:Ln):Row×List dC:=
 if r.served.kind=2 then({r with owner:=r.served.core,sh:=fun _=>false,granted:=true},[r.xD line 4 d])
 else if r.first r.served.core= -1 then({r with owner:=r.served.core,sh:=A7 r.sh r.served.core false,granted:=true},[r.xD line 2 d])
 else({r with sh:=A7 r.sh r.served.core true,granted:=true},[r.xD line 1 d])
def valid (s:Int):Bool:=decide (0<=s/\s<5)&&decide (s≠0)
def Row.oP (r:Row) (n:dC):Row:={r with asked:=A7 r.asked n.core false}
def Row.Bx (r:Row) (n:dC):Row:={r with owner:= -1,sh:=A7 r.sh n.core (valid n.state)}
def Row.Bk (r:Row) (n:dC):Row:={r with told:=true,d0:=n.d0,d1:=n.d1}
def Row.heard (r:Row) (n:dC):Row:=
 if r.served.kind≠1 then(r.oP n).leave n.core
 else if n.state≠3 then(if n.tS then((r.oP n).Bx n).Bk n else(r.oP n).Bx n)
 else if n.tS then(r.oP n).Bk n else r.oP n
def Row.Gm (r:Row) (m:Ln) (n:dC):Ln:=if r.served.kind≠1/\n.tS=true then(n.d0,n.d1) else m
def Row.rest (r:Row) (line:Int) (m:Ln):Row×List dC:=
 if r.quiet then(if r.served.kind=0 then(r.free,[]) else r.B3 line (r.Jp m)) else(r,[])
def Fh.H7 (x:Fh) (line:Int) (n:dC):Fh×List dC:=
 let m:=x.1.Gm x.2 n
 let g:=(x.1.heard n).rest line m
 ((g.1,m),g.2)
def Row.serve (r:Row) (n:dC) (world:Int):Row:={r with busy:=true,served:=n,world:=world}
def Row.getM (r:Row) (line:Int) (m:Ln):Row×List dC:=
 if r.first r.served.core≠ -1 then(r.Bh (r.xR r.served.core),A9 line 0 (r.xR r.served.core)) else r.B3 line (r.Jp m)
def Row.Jf (r:Row) (line:Int) (m:Ln):Row×List dC:=
 if r.owner≠ -1 then(r.Bh [r.owner.toNat],A9 line 1 [r.owner.toNat]) else r.B3 line (r.Jp m)
def Row.Ih (r:Row):Row:=if r.owner=r.served.core then {r with owner:= -1} else r
def Row.get (r:Row) (line:Int) (m:Ln) (n:dC) (world:Int):Row×List dC:=
 let r:=r.serve n world
 if n.kind=2 then r.getM line m else r.Ih.Jf line m
def Row.wait (r:Row) (n:dC):Row:={r with waits:=r.waits++[n]}
def Row.next (r:Row) (w:List dC):Row:={r with waits:=w}
def Fh.take (x:Fh) (line:Int) (n:dC):Fh×List dC×Int:=
 if n.kind=4 then(if x.1.granted=false\/x.1.served.core≠n.core then(x,[],16) else((x.1.free,x.2),[],0))
 else if n.kind=5 then(if x.1.asked n.core.toNat=false then(x,[],16) else let g:=Fh.H7 x line n;(g.1,g.2,0))
 else((x.1.wait n,x.2),[],0)
def Ay.has (C:Ay) (l:Int):Prop:=0<=l/\l<C.lines
structure Row.Inv (r:Row):Prop where
 core:0<=r.served.core/\r.served.core<4
 owner: -1<=r.owner/\r.owner<4
 waits:∀n∈r.waits,0<=n.core/\n.core<4
end
end Go.Hm
namespace Go.Ct
open Go Go.Ab Go.Hm
section
def Kb (s:Int):Bool:=decide (0<=s/\s<5)
structure Em where
 st:Int
 w:Int
 d:Ln
 deriving DecidableEq
def Em.enc (x:Em):List Value:=[I x.st,I x.w,I x.d.1,I x.d.2]
def Em.zero:Em:=⟨0,0,(0,0)⟩
abbrev Th:=Int×Em
def ix (no:Int):List Th->Option Nat
 |[]=>none
 |t::l=>if t.1=no then some 0 else(ix no l).map (·+1)
def get (no:Int) (l:List Th):Option Em:=(l.find? fun t=>decide (t.1=no)).map (·.2)
def rem (no:Int):List Th->List Th
 |[]=>[]
 |t::l=>if t.1=no then l else t::rem no l
structure Ke where
 S:Nat->List Th
 al:Int
 aw:Bool
 Ku:Bool
 gl:Int
 gc:Em
 Kt:Bool
def Ke.new:Ke:=⟨fun _=>[],0,false,false,0,Em.zero,false⟩
variable (n:Nat) (ways:Nat) (lines:Int) (core:Int)
end
end Go.Ct
namespace Go.Ab
open Go.Ct Go.Hm
section
noncomputable section
end
end
end Go.Ab
section
namespace Go.Ab
noncomputable section
variable {P:Program} {K:FuncId->List Value->Option bZ}
theorem bB.cons {a:Ek} {env:List Value} (r:bB a env) {d:Nat} {v:Value} {k:Kn} (A:d<env.length) (z:∀x,k= .b x->v= .bool x) (B:k= .sk->v=undef):bB ((d,v,k)::a) (env.set d v):=by
 intro t u j g;unfold Ek.lk at g;split at g;rename_i e;have:=Nat.eq_of_beq_eq_true e;grind;rename_i e;obtain⟨m,o⟩:=r t u j g;refine⟨?_,o⟩;rw[List.getElem?_set_ne (fun y=>by simp_all)];exact m
theorem bB.Ia {a:Ek} {env:List Value} (m:bB a env) {d:Nat} {v:Value} {k _k':Kn} (o:a.lk d=some (v,k)) {b:Bool} (r:v= .bool b):bB ((d,.bool b,.b b)::a) env:=by
 intro t u j h;unfold Ek.lk at h;split at h;rename_i e;have:=Nat.eq_of_beq_eq_true e;subst this;cases h;exact⟨by rw[<-r];exact(m _ _ _ o).1,fun x g=>(by cases g;rfl),fun g=>(by cases g)⟩;exact m t u j h
def rR (n:Nat) (a:Ek) (d:Option Tmp) (v:Value) (k:Kn) (q:Ek->Prop):Prop:=match d with
 |none=>q a
 |some d=>(match Nat.blt d n with
  |true=>q ((d,v,k)::a)
  |false=>hF)
theorem eN {n:Nat} {a:Ek} {env:List Value} (r:bB a env) (m:env.length=n) {d:Option Tmp} {v:Value} {k:Kn} {q:Ek->Prop} (t:∀x,k= .b x->v= .bool x) (u:k= .sk->v=undef) (g:rR n a d v k q):
  ∃o,bB o (bX env d v)/\(bX env d v).length=n/\q o:=by
 unfold rR at g
 split at g
 .exact⟨a,r,m,g⟩
 .rename_i d;split at g
  .rename_i j;have:d<n:=Nat.le_of_ble_eq_true j;exact⟨_,r.cons (m.symm▸this) t u,by simp[bX,m],g⟩
  .cases g
def wG (dP:Nat->Option Tmp) (a:Ek) (g:Option (Nat×Bool)) (p s:Ek->Prop):Prop:=match g with
 |none=>p a
 |some (j,want)=>match dP j with
  |none=>hF
  |some d=>match a.lk d with
   |some (_,.b x)=>(match x,want with
    |true,true=>p a
    |false,false=>p a
    |_,_=>s a)
   |some (_,.sk)=>s a
   |some (v,_)=>(match want with
    |true=>Br v (p ((d,.bool true,.b true)::a)) (s ((d,.bool false,.b false)::a))
    |false=>Br v (s ((d,.bool true,.b true)::a)) (p ((d,.bool false,.b false)::a)))
   |none=>hF
theorem Hd {all:Array Oper} {a:Ek} {env:List Value} (r:bB a env) {o:Oper} {p s:Ek->Prop} (g:wG (fun j=>(all[j]?).bind (·.dst)) a o.guard p s):
  ∃z,bB z env/\((aP all env o=some true/\p z)\/(aP all env o=some false/\s z)):=by
 unfold wG at g
 unfold aP
 split at g
 .grind
 .rename_i j want C;rw[C];simp only;split at g
  .cases g
  .rename_i d m;replace m:(all[j]?).bind (·.dst)=some d:=m;rw[m];simp only[Option.bind_some];split at g
   .rename_i x t;obtain⟨u,A,_⟩:=r _ _ _ t;have:=A x rfl;subst this;rw[u];split at g
    .grind
    .grind
    .rename_i E I;refine⟨a,r,.inr ⟨?_,g⟩⟩;cases x<;>cases want<;>grind
   .rename_i t;obtain⟨u,_,A⟩:=r _ _ _ t;have:=A rfl;subst this;rw[u];exact⟨a,r,.inr ⟨rfl,g⟩⟩
   .rename_i v k _ _ t;have u:=(r _ _ _ t).1;rw[u];split at g
    .obtain⟨b,y,D,B⟩:=g;refine⟨_,r.Ia (_k':= .un) t y,?_⟩;subst y;cases b with
     |true=>grind
     |false=>grind
    .obtain⟨b,y,D,B⟩:=g;refine⟨_,r.Ia (_k':= .un) t y,?_⟩;subst y;cases b with
     |true=>grind
     |false=>grind
   .cases g
def yG (a:Ek) (op:Op):Option Operand:=match op with
 |.pick (.tmp c) x y=>(match a.lk c with
  |some (_,.b true)=>some x
  |some (_,.b false)=>some y
  |_=>none)
 |.move x=>some x
 |.assign x=>some x
 |_=>none
theorem xX {a:Ek} {env:List Value} (o:bB a env) {op:Op} {x:Operand} (h:yG a op=some x):kindOf op= .gY/\∀j,aC P (aH P env) j op=some (aH P env x):=by
 unfold yG at h;split at h;rename_i c x y;split at h;rename_i m;cases h;obtain⟨d,g,_⟩:=o _ _ _ m;exact⟨rfl,fun j=>by simp[aC,aH,List.getD_eq_getElem?_getD,d,g true rfl]⟩;rename_i m;cases h;obtain⟨d,g,_⟩:=o _ _ _ m;exact⟨rfl,fun j=>by simp[aC,aH,List.getD_eq_getElem?_getD,d,g false rfl]⟩;cases h;cases h;exact⟨rfl,fun _=>rfl⟩;cases h;exact⟨rfl,fun _=>rfl⟩;cases h
def Gq (a:Ek) (x:Operand):Kn:=match x with
 |.const (.bool y)=> .b y
 |.tmp t=>(match a.lk t with
  |some (_,.b y)=> .b y
  |_=> .un)
 |_=> .un
theorem Af {a:Ek} {env:List Value} (j:bB a env) {x:Operand}:(∀y,Gq a x= .b y->aH P env x= .bool y)/\Gq a x≠.sk:=by
 unfold Gq;split;exact⟨fun y h=>(by cases h;simp[aH,aR]),fun h=>(by cases h)⟩;split;rename_i m;obtain⟨d,g,_⟩:=j _ _ _ m;exact⟨fun y h=>(by cases h;simp[aH,List.getD_eq_getElem?_getD,d,g _ rfl]),fun h=>(by cases h)⟩;grind;grind
def A5 (M:Nat) (op:Op) (d:Option Tmp) (q:Kn->Prop):Prop:=match op,d with
 |.assign _,_=>hP (q .un)
 |_,some d=>(match Nat.beq (Nat.land (Nat.shiftRight M d) 1) 1 with
  |true=>q .un
  |false=>q .ex)
 |_,none=>q .un
theorem xL {M:Nat} {op:Op} {d:Option Tmp} {q:Kn->Prop} (h:A5 M op d q):q .un\/q .ex:=by
 unfold A5 at h;split at h;exact .inl h;grind;exact .inl h
def Hi (M:Nat) (op:Op) (d:Option Tmp) (a:Ek) (x:Operand) (q:Kn->Prop):Prop:=match Gq a x with
 |.b y=>q (.b y)
 |_=>A5 M op d q
theorem E1 {M:Nat} {op:Op} {d:Option Tmp} {a:Ek} {x:Operand} {q:Kn->Prop} (h:Hi M op d a x q):(∃y,Gq a x= .b y/\q (.b y))\/q .un\/q .ex:=by
 unfold Hi at h;split at h;grind;exact .inr (xL h)
def Kg:Op->List Operand
 |.move x|.assign x|.load _ x|.nilCheck x|.unOp _ _ x|.convert _ _ x|.fieldAddr _ x _|.field _ x _|.box _ x=>[x]
 |.store _ x y|.binOp _ _ x y _|.indexAddr _ x y|.index _ x y=>[x,y]
 |.slice _ x g d j=>x::(g.toList++(d.toList++j.toList))
 |.call c=>c.args.toList
 |_=>[]
def Iu (t:Nat):Ek->(Ek->Prop)->Prop
 |[],q=>hP (q [])
 |(d,v,k)::a,q=>(match Nat.beq d t with
  |true=>(match k with
   |.ex=>q ((d,undef,.no)::a)
   |k=>q ((d,v,k)::a))
  |false=>Iu t a fun a=>q ((d,v,k)::a))
theorem E3 {t:Nat}:∀{a:Ek} {q:Ek->Prop},Iu t a q->∃g,(∀x r,Ek.lk g x=some r->a.lk x=some r)/\q g
 |[],_,h=>⟨_,fun _ _ h=>h,h⟩
 |(u,v,k)::a,q,h=>by
  unfold Iu at h;split at h;split at h;refine⟨_,fun x r d=>?_,h⟩;unfold Ek.lk at d ⊢;grind;grind;obtain⟨m,o,j⟩:=E3 h;refine⟨_,fun x r d=>?_,j⟩;unfold Ek.lk at d ⊢;grind
def zP:List Operand->Ek->(Ek->Prop)->Prop
 |[],a,q=>hP (q a)
 |x::l,a,q=>(match x with
  |.tmp t=>Iu t a fun a=>zP l a q
  |_=>zP l a q)
theorem rK {env:List Value}:∀{l:List Operand} {a:Ek} {q:Ek->Prop},bB a env->zP l a q->∃g,bB g env/\q g
 |[],a,_,d,h=>⟨a,d,h⟩
 |x::l,a,q,d,h=>by
  unfold zP at h;split at h;obtain⟨r,j,m⟩:=E3 h;exact rK (l:=l) (fun t v k o=>d t v k (j _ _ o)) m;exact rK (l:=l) d h
def J6 (P:Program) (K:FuncId->List Value->Option bZ) (a:Ek) (h:AH) (q:Value->AH->Prop) (op:Op):Prop:=match kindOf op with
 |.gY=>wL P a h (fun v=>q v h) op
 |.alloc=>wA P a (zX h) (Fz h) q op
 |.store=>wH P K a h q op
 |.call=>wH P K a h q op
 |.other=>hF
theorem Ep {a:Ek} {env:List Value} (g:bB a env) {h:AH} {q:Value->AH->Prop} {op:Op} (d:J6 P K a h q op):∃n v j,cS P (run P K n) env h op=some (v,j)/\q v j:=by
 refine vQ ?_;unfold J6 at d;unfold wpOp;split at d<;>(rename_i o;simp only[o]);exact G8 g d;exact Gw g (fun W e l n c k m=>m) d;exact Fo g d;exact Fo g d;exact d
def F1 (P:Program) (K:FuncId->List Value->Option bZ) (M n:Nat) (dP:Nat->Option Tmp) (o:Oper) (d:Ek->AH->(Ek->AH->Prop)->Prop) (a:Ek) (h:AH) (q:Ek->AH->Prop):Prop:=match o with
 |⟨dst,op,_,_,_,guard⟩=>wG dP a guard
  (fun a=>zP (Kg op) a fun g=>(match yG a op with
   |some x=>Hi M op dst a x fun k=>fQ P a x fun v=>rR n g dst v k fun a=>d a h q
   |none=>A5 M op dst fun k=>J6 P K a h (fun v j=>rR n g dst v k fun a=>d a j q) op))
  (fun a=>rR n a dst undef .sk fun a=>d a h q)
def Ds (P:Program) (K:FuncId->List Value->Option bZ) (M n:Nat) (dP:Nat->Option Tmp) (os:List Oper):Ek->AH->(Ek->AH->Prop)->Prop:=
 List.rec (fun a h q=>q a h) (fun o _ d=>F1 P K M n dP o d) os
theorem Hn {M n:Nat} {op:Op} {dst:Option Tmp} {a o:Ek} {env:List Value} {x:Operand} {q:Ek->Prop} (j:bB a env) (d:bB o env) (m:env.length=n) (g:Hi M op dst a x fun k=>fQ P a x fun v=>rR n o dst v k q):
  ∃r,bB r (bX env dst (aH P env x))/\(bX env dst (aH P env x)).length=n/\q r:=by
 obtain⟨u,_⟩:=Af (P:=P) (x:=x) j
 rcases E1 g with⟨y,t,g⟩|g|g
 .exact eN d m (fun z e=>by grind) (fun e=>by cases e) (aY j g)
 .exact eN d m (fun _ e=>by cases e) (fun e=>by cases e) (aY j g)
 .exact eN d m (fun _ e=>by cases e) (fun e=>by cases e) (aY j g)
theorem xE {M n:Nat} {all:Array Oper}:∀{os:List Oper} {a:Ek} {env:List Value} {h:AH} {q:Ek->AH->Prop},bB a env->env.length=n->Ds P K M n (fun j=>(all[j]?).bind (·.dst)) os a h q->
  ∃m o D A,run P K m (.ops all os env) h=some (o,D)/\bB A o.env/\o.env.length=n/\q A D
 |[],a,env,h,q,S,E,Q=>⟨1,_,h,a,rfl,S,E,Q⟩
 |o::os,a,env,h,q,S,E,Q=>by
  change F1 P K M n (fun j=>(all[j]?).bind (·.dst)) o (Ds P K M n (fun j=>(all[j]?).bind (·.dst)) os) a h q at Q;unfold F1 at Q;obtain⟨a1,g,r⟩:=Hd (o:=o) S Q;rcases r with⟨d,r⟩|⟨d,r⟩;obtain⟨A,B,r⟩:=rK g r;obtain⟨u,v,I,z,Z,T,U,C⟩:∃u v I z,cS P (run P K u) env h o.op=some (v,I)/\bB z (bX env o.dst v)/\(bX env o.dst v).length=n/\Ds P K M n (fun j=>(all[j]?).bind (·.dst)) os z I q:=by
   split at r;rename_i x hx;obtain⟨hk,hl⟩:=xX (P:=P) g hx;obtain⟨z,J,N,O⟩:=Hn g B E r;exact⟨0,_,h,z,by simp only[cS,hk,hl];rfl,J,N,O⟩;rcases xL r with r|r;obtain⟨u,v,I,Z,V⟩:=Ep g r;obtain⟨z,J,N,O⟩:=eN B E (fun _ e=>by cases e) (fun e=>by cases e) V;grind;obtain⟨u,v,I,Z,V⟩:=Ep g r;obtain⟨z,J,N,O⟩:=eN B E (fun _ e=>by cases e) (fun e=>by cases e) V;grind
  obtain⟨y,out,D,A,Y,X⟩:=xE T U C;refine⟨max u y+1,out,D,A,?_,X⟩;show eK P (fun t h=>run P K (max u y) t h) all (o::os) env h=_;simp only[eK,d];rw[show(fun t h=>run P K (max u y) t h)=run P K (max u y) from rfl,qZ (cJ (Nat.le_max_left u y)) Z];exact cJ (Nat.le_max_right u y) _ _ _ Y;obtain⟨z,J,N,O⟩:=eN g E (fun _ e=>by cases e) (fun _=>rfl) r;obtain⟨y,out,D,A,Y,X⟩:=xE J N O;refine⟨y+1,out,D,A,?_,X⟩;show eK P (fun t h=>run P K y t h) all (o::os) env h=_;simp only[eK,d];exact Y
end
end Go.Ab
end
section
namespace Go.Ab
noncomputable section
variable {P:Program} {K:FuncId->List Value->Option bZ}
def Gv (P:Program) (a:Ek) (h:AH) (q:Value->Prop):Op->Prop
 |.call c=>(match c.callee with
  |.builtin b=>(match bK b with
   |true=>vE P a c.args.toList fun l=>Io P h (fun v _=>q v) c.argTypes b l
   |false=>hF)
  |_=>hF)
 |op=>wL P a h q op
theorem Eg {a:Ek} {env:List Value} (o:bB a env) {h:AH} {q:Value->Prop} {op:Op} (d:Gv P a h q op):bH op=true/\∃v,aT P (aH P env) h op=some v/\q v:=by
 unfold Gv at d;split at d;split at d;rename_i r;split at d;rename_i t;obtain⟨v,u,g,j⟩:=hJ (Ey (jV o d));exact⟨by simp[bH,r,t],v,by simp only[aT,r,t,if_true,g];rfl,j⟩;cases d;cases d
 .obtain⟨m,v,g,j⟩:=jI (G8 o d);refine⟨?_,v,?_,j⟩
  .cases op<;>first|(simp[bH,m];done)|(simp[kindOf] at m)
  cases op<;>first|exact g|(simp[kindOf] at m)
structure WR where
 a:Ek
 h:AH
 v:Value
 Iw:Bool
def J1 (P:Program) (K:FuncId->List Value->Option bZ) (i r:Nat) (a:Ek) (h:AH) (q:Value->AH->Prop) (op:Op):Prop:=
 match bH op with
 |true=>Gv P a h (fun v=>q v h) op
 |false=>(match kindOf op with
  |.alloc=>(match i with
   |0=>wA P a (qW h r) (oD h r) q op
   |i=>wA P a (qW h (r+i)) (oD h (r+i)) q op)
  |_=>wH P K a h q op)
theorem Ez {all:List Oper} {r i:Nat} {a:Ek} {env:List Value} (B:bB a env) {h:AH} {q:Value->AH->Prop} {o:Oper} (d:aP ⟨all⟩ env o=some true) (t:J1 P K i r a h q o.op):
  ∃n v m,aX P (run P K n) all r i env h o=some (v,m)/\q v m:=by
 unfold J1 at t
 unfold aX
 simp only[d]
 split at t
 .rename_i A;obtain⟨_,v,u,y⟩:=Eg B t;exact⟨0,v,h,by simp[A,u],y⟩
 .rename_i A;split at t
  .rename_i C;have z:∀{j:Nat},wA P a (qW h j) (oD h j) q o.op->j=r+i->∃n v m,aX P (run P K n) all r i env h o=some (v,m)/\q v m:=by
    intro j E e;subst e;obtain⟨_,b,f,u,y⟩:=jD (Gw B (fun W e l n c k D=>D) E);exact⟨0,_,_,by simp[aX,d,A,C,u],y⟩
   have:=(show∃n v m,aX P (run P K n) all r i env h o=some (v,m)/\q v m by
    split at t;exact z t rfl;exact z t rfl)
   unfold aX at this
   simpa only[d] using this
  .obtain⟨C,n,v,m,u,y⟩:=fI (fun g=>rfl) (Fo B t);refine⟨n,v,m,?_,y⟩;have:(kindOf o.op==Kind.alloc)=false:=by rcases C with h|h<;>rw[h]<;>rfl
   simp[this,A,u]
def tP:List (Nat×Nat)->Nat->Bool
 |[],_=>false
 |(a,_)::l,i=>(match Nat.beq a i with
  |true=>true
  |false=>tP l i)
def I7 (d:List (Nat×Nat)) (i:Nat) (a:Ek) (rs:List WR) (k:(AH->Value->Bool->(List WR->Prop)->Prop)->Prop):Prop:=match d with
 |[]=>hP (k fun _ _ _ q=>q rs)
 |d=>(match tP d i with
  |true=>k fun h v r q=>q (⟨a,h,v,r⟩::rs)
  |false=>k fun h _ _ q=>q (⟨[],h,undef,true⟩::rs))
def Rl (d:List (Nat×Nat)):List WR->List WR->Prop
 |[],[]=>True
 |x::g,y::gs=>(x=y\/tP d gs.length=false/\x.h=y.h)/\Rl d g gs
 |_,_=>False
theorem Eu {g:List (Nat×Nat)} {a:Ek} {rs gs:List WR} {i:Nat} {k:(AH->Value->Bool->(List WR->Prop)->Prop)->Prop} (t:gs.length=i) (o:g≠[]->Rl g rs gs) (d:I7 g i a rs k):
  ∃R,k R/\∀h v r q,R h v r q->∃m,(g≠[]->Rl g m (⟨a,h,v,r⟩::gs))/\q m:=by
 unfold I7 at d
 split at d
 .exact⟨_,d,fun h v r q j=>⟨rs,fun e=>absurd rfl e,j⟩⟩
 .split at d
  .exact⟨_,d,fun h v r q j=>⟨⟨a,h,v,r⟩::rs,fun e=>⟨.inl rfl,o e⟩,j⟩⟩
  .rename_i u;exact⟨_,d,fun h v r q j=>⟨⟨[],h,undef,true⟩::rs,fun e=>⟨.inr ⟨by rw[t];exact u,rfl⟩,o e⟩,j⟩⟩
theorem B5 {r:List (Nat×Nat)}:∀{rs gs:List WR},Rl r rs gs->rs.length=gs.length/\∀(j:Nat) (x y:WR),rs.reverse[j]?=some x->gs.reverse[j]?=some y->x=y\/tP r j=false/\x.h=y.h
 |[],[],_=>⟨rfl,fun j x y A=>by simp at A⟩
 |x::rs,y::gs,h=>by
  obtain⟨t,v⟩:=h;obtain⟨o,z⟩:=B5 v;refine⟨by simp[o],fun j u w g d=>?_⟩;rw[List.reverse_cons] at g d;rcases Nat.lt_trichotomy j gs.length with m|m|m;rw[List.getElem?_append_left (by simpa [o] using m)] at g;rw[List.getElem?_append_left (by simpa using m)] at d;exact z j u w g d;subst m;rw[List.getElem?_append_right (by simp[o])] at g;rw[List.getElem?_append_right (by simp)] at d;simp[o] at g d;subst g;subst d;exact t;rw[List.getElem?_eq_none (by simp;omega)] at d;cases d
def Ju (P:Program) (K:FuncId->List Value->Option bZ) (M n:Nat) (dP:Nat->Option Tmp) (r:Nat) (m:List (Nat×Nat)) (o:Oper) (g:Nat->Ek->AH->List WR->(List WR->Ek->AH->Prop)->Prop) (i:Nat) (a:Ek) (h:AH) (rs:List WR) (q:List WR->Ek->AH->Prop):Prop:=match o with
 |⟨dst,op,_,_,_,guard⟩=>nK (i+1) fun j=>wG dP a guard
  (fun a=>I7 m i a rs fun R=>zP (Kg op) a fun d=>(match yG a op with
   |some x=>Hi M op dst a x fun k=>fQ P a x fun v=>rR n d dst v k fun d=>R h v true fun rs=>g j d h rs q
   |none=>A5 M op dst fun k=>J1 P K i r a h (fun v t=>rR n d dst v k fun d=>R h v true fun rs=>g j d t rs q) op))
  (fun a=>I7 m i a rs fun R=>rR n a dst undef .sk fun d=>R h undef false fun rs=>g j d h rs q)
def F4 (P:Program) (K:FuncId->List Value->Option bZ) (M n:Nat) (dP:Nat->Option Tmp) (r:Nat) (d:List (Nat×Nat)) (os:List Oper):Nat->Ek->AH->List WR->(List WR->Ek->AH->Prop)->Prop:=
 List.rec (fun _ a h j q=>q j a h) (fun o _ g=>Ju P K M n dP r d o g) os
def Ec (all:List Oper) (rs:List WR) (es:List (List Value)):Prop:=rs.length=es.length/\∀(i:Nat) (o:Oper) (x:WR) (e:List Value),all[i]?=some o->rs[i]?=some x->es[i]?=some e->bB x.a e/\aP ⟨all⟩ e o=some x.Iw
theorem Ec.snoc {all:List Oper} {rs:List WR} {es:List (List Value)} (r:Ec all rs es) {o:Oper} {x:WR} {e:List Value} (y:all[rs.length]?=some o) (u:bB x.a e) (v:aP ⟨all⟩ e o=some x.Iw):Ec all (rs++[x]) (es++[e]):=by
 refine⟨by simp[r.1],fun i z A t d g j=>?_⟩;rcases Nat.lt_trichotomy i rs.length with m|m|m;rw[List.getElem?_append_left m] at g;rw[List.getElem?_append_left (r.1▸m)] at j;exact r.2 i z A t d g j;subst m;rw[y] at d;cases d;simp at g;subst g;rw[r.1] at j;simp at j;subst j;exact⟨u,v⟩;rw[List.getElem?_eq_none (by simp;omega)] at g;cases g
theorem xT {M n:Nat} {all:List Oper} {r:Nat} {I:List (Nat×Nat)}:∀{os:List Oper} {i:Nat} {a:Ek} {env:List Value} {h:AH} {rs gs:List WR} {es:List (List Value)} {q:List WR->Ek->AH->Prop},bB a env->env.length=n->gs.length=i->(∀j,all[i+j]?=os[j]?)->Ec all gs.reverse es->(I≠[]->Rl I rs gs)->
  F4 P K M n (fun j=>((⟨all⟩:Array Oper)[j]?).bind (·.dst)) r I os i a h rs q->
  ∃m C D e h' a',bI P (run P K m) all r i os env h=some (List.zipWith (fun x e=>⟨e,x.h,x.v⟩) C D,e,h')/\C.length=D.length/\Ec all (gs.reverse++C) (es++D)/\bB a' e/\e.length=n/\∃u,(I≠[]->Rl I u (C.reverse++gs))/\q u a' h'
 |[],i,a,env,h,rs,gs,es,q,ha,Y,_,_,V,hg,Z=>⟨0,[],[],env,h,a,rfl,rfl,by simpa using V,ha,Y,rs,by simpa using hg,Z⟩
 |o::os,i,a,env,h,rs,gs,es,q,ha,Y,B,X,V,hg,Z=>by
  have Z:Ju P K M n (fun j=>((⟨all⟩:Array Oper)[j]?).bind (·.dst)) r I o (F4 P K M n (fun j=>((⟨all⟩:Array Oper)[j]?).bind (·.dst)) r I os) i a h rs q:=Z;unfold Ju at Z;have Z:=Aj Z;obtain⟨a1,t,g⟩:=Hd (o:=o) ha Z;have ho:all[gs.reverse.length]?=some o:=by have:=X 0;rw[List.length_reverse,B];simpa using this
  have Q:∀j,all[i+1+j]?=os[j]?:=fun j=>by
   have:=X (j+1);rw[show i+1+j=i+(j+1) by omega,this];simp
  rcases g with⟨d,g⟩|⟨d,g⟩
  .obtain⟨R,g,hR⟩:=Eu B hg g;obtain⟨T,v,U,A,hs,η,κ,u,γ,ζ⟩:∃T v U A,aX P (run P K T) all r i env h o=some (v,U)/\bB A (bX env o.dst v)/\(bX env o.dst v).length=n/\
     ∃u,(I≠[]->Rl I u (⟨a1,h,v,true⟩::gs))/\F4 P K M n (fun j=>((⟨all⟩:Array Oper)[j]?).bind (·.dst)) r I os (i+1) A U u q:=by
    obtain⟨a',O,g⟩:=rK t g
    split at g
    .rename_i x hx;obtain⟨hk,hl⟩:=xX (P:=P) t hx;have θ:bH o.op=true:=by
      cases hop:o.op<;>rw[hop] at hk<;>first|(simp[bH,kindOf];done)|(simp[kindOf] at hk)
     have ι:aT P (aH P env) h o.op=some (aH P env x):=by
      have:=hl h;cases hop:o.op<;>rw[hop] at hk this<;>first|exact this|(simp[kindOf] at hk)
     have fin:∀{A:Ek} {v:Value},v=aH P env x->bB A (bX env o.dst (aH P env x))->(bX env o.dst (aH P env x)).length=n->R h v true (fun rs=>F4 P K M n (fun j=>((⟨all⟩:Array Oper)[j]?).bind (·.dst)) r I os (i+1) A h rs q)->
       ∃T v U A,aX P (run P K T) all r i env h o=some (v,U)/\bB A (bX env o.dst v)/\(bX env o.dst v).length=n/\∃u,(I≠[]->Rl I u (⟨a1,h,v,true⟩::gs))/\F4 P K M n (fun j=>((⟨all⟩:Array Oper)[j]?).bind (·.dst)) r I os (i+1) A U u q:=by
      intro A v e J N E
      subst e
      exact⟨0,_,h,A,by simp[aX,d,θ,ι],J,N,hR _ _ _ _ E⟩
     obtain⟨k1,_⟩:=Af (P:=P) (x:=x) t
     rcases E1 g with⟨y,hy,g⟩|g|g
     .have g:=aY t g;obtain⟨A,J,N,E⟩:=eN O Y (fun z e=>by cases e;exact k1 _ hy) (fun e=>by cases e) g;exact fin rfl J N E
     .have g:=aY t g;obtain⟨A,J,N,E⟩:=eN O Y (fun _ e=>by cases e) (fun e=>by cases e) g;exact fin rfl J N E
     .have g:=aY t g;obtain⟨A,J,N,E⟩:=eN O Y (fun _ e=>by cases e) (fun e=>by cases e) g;exact fin rfl J N E
    .rcases xL g with g|g
     .obtain⟨T,v,U,hs,hp⟩:=Ez t d g;obtain⟨A,J,N,E⟩:=eN O Y (fun _ e=>by cases e) (fun e=>by cases e) hp;exact⟨T,v,U,A,hs,J,N,hR _ _ _ _ E⟩
     .obtain⟨T,v,U,hs,hp⟩:=Ez t d g;obtain⟨A,J,N,E⟩:=eN O Y (fun _ e=>by cases e) (fun e=>by cases e) hp;exact⟨T,v,U,A,hs,J,N,hR _ _ _ _ E⟩
   obtain⟨n2,C,D,e,h',a',hr,δ,S,β,ε,hq⟩:=xT (i:=i+1) η κ (by simp[B]) Q (by rw[List.reverse_cons];exact V.snoc (x:=⟨a1,h,v,true⟩) ho t d) γ ζ;refine⟨max T n2,⟨a1,h,v,true⟩::C,env::D,e,h',a',?_,by simp[δ],by simpa using S,β,ε,by simpa using hq⟩;simp only[bI,mG (cJ (Nat.le_max_left T n2)) hs,iI (cJ (Nat.le_max_right T n2)) _ hr];rfl
  obtain⟨R,g,hR⟩:=Eu B hg g;obtain⟨A,J,N,E⟩:=eN t Y (fun _ e=>by cases e) (fun _=>rfl) g;obtain⟨u,γ,E⟩:=hR _ _ _ _ E;obtain⟨n2,C,D,e,h',a',hr,δ,S,β,ε,hq⟩:=xT (i:=i+1) J N (by simp[B]) Q (by rw[List.reverse_cons];exact V.snoc (x:=⟨a1,h,undef,false⟩) ho t d) γ E;refine⟨n2,⟨a1,h,undef,false⟩::C,env::D,e,h',a',?_,by simp[δ],by simpa using S,β,ε,by simpa using hq⟩;have hs:aX P (run P K n2) all r i env h o=some (undef,h):=by simp only[aX,d]
  simp only[bI,hs,hr];rfl
def zC (P:Program) (all:List Oper) (rs:List WR) (hEnd:AH) (x:Nat×Nat) (d:Prop->Prop) (p:Prop):Prop:=match x with
 |(i,s)=>(match all[i]?,rs[i]? with
  |some o,some ⟨a,_,v,true⟩=>(match rs[s]? with
   |some ⟨_,h,_,_⟩=>Gv P a h (fun x=>iC x v=true) o.op/\d p
   |none=>Gv P a hEnd (fun x=>iC x v=true) o.op/\d p)
  |some _,some ⟨_,_,_,false⟩=>d p
  |_,_=>hF)
def C9 (P:Program) (all:List Oper) (rs:List WR) (hEnd:AH) (fs:List (Nat×Nat)):Prop->Prop:=List.rec (fun p=>p) (fun x _ d=>zC P all rs hEnd x d) fs
theorem Bl {all:List Oper} {rs:List WR} {es:List (List Value)} {hEnd:AH} (g:Ec all rs es) {p:Prop}:∀{fs:List (Nat×Nat)},C9 P all rs hEnd fs p->(fs.all (eP P all (List.zipWith (fun x e=>⟨e,x.h,x.v⟩) rs es) hEnd)=true)/\p
 |[],m=>⟨rfl,m⟩
 |(i,s)::fs,m=>by
  change zC P all rs hEnd (i,s) (C9 P all rs hEnd fs) p at m;unfold zC at m;simp only at m;have I:∀{j:Nat} {x:WR},rs[j]?=some x->∃e,es[j]?=some e/\(List.zipWith (fun x e=>(⟨e,x.h,x.v⟩:Rec)) rs es)[j]?=some ⟨e,x.h,x.v⟩:=by
   intro j x r;have O:j<es.length:=by rw[<-g.1];exact(List.getElem?_eq_some_iff.1 r).1
   exact⟨es[j],by simp[O],by simp[List.getElem?_zipWith,r,O]⟩
  split at m;rename_i o a h v y r;obtain⟨e,C,t⟩:=I r;obtain⟨N,d⟩:=g.2 i o _ e y r C;have fin:∀{z:AH},(match(List.zipWith (fun x e=>(⟨e,x.h,x.v⟩:Rec)) rs es)[s]? with|some q=>q.h|none=>hEnd)=z->Gv P a z (fun x=>iC x v=true) o.op/\C9 P all rs hEnd fs p->(((i,s)::fs).all (eP P all (List.zipWith (fun x e=>⟨e,x.h,x.v⟩) rs es) hEnd)=true)/\p:=by
   intro z D ⟨Q,S⟩;obtain⟨A,B⟩:=Bl g S;refine⟨?_,B⟩;obtain⟨_,u,T,U⟩:=Eg N Q;rw[List.all_cons,A,Bool.and_true];cases hc:(List.zipWith (fun x e=>(⟨e,x.h,x.v⟩:Rec)) rs es)[s]?<;>(rw[hc] at D;simp only at D;subst D;simp only[eP,y,t,d,hc,T,U])
  split at m;rename_i E;obtain⟨V,_,J⟩:=I E;exact fin (by rw[J]) m;rename_i E;have:(List.zipWith (fun x e=>(⟨e,x.h,x.v⟩:Rec)) rs es)[s]?=none:=by simp[List.getElem?_zipWith,E]
  exact fin (by rw[this]) m;rename_i o a h v y r;obtain⟨e,C,t⟩:=I r;obtain⟨N,d⟩:=g.2 i o _ e y r C;obtain⟨A,B⟩:=Bl g m;refine⟨?_,B⟩;rw[List.all_cons,A,Bool.and_true];simp only[eP,y,t,d];cases m
def Iq:List (Nat×Nat)->List (Nat×Nat)->Bool
 |[],[]=>true
 |(a,b)::l,(c,d)::m=>Nat.beq a c&&(Nat.beq b d&&Iq l m)
 |_,_=>false
theorem Eb:∀{l m:List (Nat×Nat)},Iq l m=true->l=m
 |[],[],_=>rfl
 |(a,b)::l,(c,d)::m,h=>by
  simp only[Iq,Bool.and_eq_true] at h;rw[Nat.eq_of_beq_eq_true h.1,Nat.eq_of_beq_eq_true h.2.1,Eb h.2.2]
 |[],_::_,h=>by cases h
 |_::_,[],h=>by cases h
def Ee (P:Program) (ops:Array Oper) (d:List (Nat×Nat)):Bool:=lQ ops.toList&&(P.follows .mixedOrders|| !Region.departs ops)&&Iq (jQ ops.toList) d
def Cs:List (Nat×List (Nat×Nat))->Nat->(List (Nat×Nat)->Prop)->Prop
 |[],_,q=>hP (q [])
 |(i,l)::F,id,q=>(match Nat.beq i id with
  |true=>q l
  |false=>Cs F id q)
theorem Aw:∀{F:List (Nat×List (Nat×Nat))} {id:Nat} {q:List (Nat×Nat)->Prop},Cs F id q->∃l,q l
 |[],_,_,h=>⟨_,h⟩
 |_::F,_,_,h=>by
  unfold Cs at h;split at h;exact⟨_,h⟩;exact Aw (F:=F) h
theorem qK {all:List Oper} {rs gs:List WR} {hEnd:AH} {p:Prop} {B:List (Nat×Nat)} (r:rs.length=gs.length) (z:∀(j:Nat) (x y:WR),rs[j]?=some x->gs[j]?=some y->x=y\/tP B j=false/\x.h=y.h):
  ∀{fs:List (Nat×Nat)},(∀x∈fs,tP B x.1=true)->C9 P all rs hEnd fs p->C9 P all gs hEnd fs p
 |[],_,g=>g
 |(i,s)::fs,D,g=>by
  change zC P all rs hEnd (i,s) (C9 P all rs hEnd fs) p at g;show zC P all gs hEnd (i,s) (C9 P all gs hEnd fs) p;have A:=qK (hEnd:=hEnd) (all:=all) (p:=p) r z (fs:=fs) fun x I=>D x (List.mem_cons_of_mem _ I);have E:rs[i]?=gs[i]?:=by
   have v:=D (i,s) List.mem_cons_self;rcases Nat.lt_or_ge i rs.length with d|t;have C:rs[i]?=some rs[i]:=List.getElem?_eq_getElem d;have o:gs[i]?=some (gs[i]'(r▸d)):=List.getElem?_eq_getElem _;rcases z i _ _ C o with m|⟨m,_⟩;rw[C,o,m];rw[v] at m;cases m;rw[List.getElem?_eq_none t,List.getElem?_eq_none (r▸t)]
  unfold zC at g ⊢;simp only at g ⊢;rw[<-E];split at g;split at g;rename_i J v v1 N u;have d:s<rs.length:=(List.getElem?_eq_some_iff.1 u).1;have o:gs[s]?=some (gs[s]'(r▸d)):=List.getElem?_eq_getElem _;have m:v=(gs[s]'(r▸d)).h:=by
   rcases z s _ _ u o with m|⟨_,m⟩;rw[<-m];exact m
  rw[o];generalize gs[s]'(r▸d)=y at m;subst m;exact⟨g.1,A g.2⟩;rename_i u;have o:gs[s]?=none:=by
   rw[List.getElem?_eq_none_iff] at u ⊢;omega
  rw[o];exact⟨g.1,A g.2⟩;exact A g;cases g
theorem Bt:∀{d:List (Nat×Nat)} {x:Nat×Nat},x∈d->tP d x.1=true
 |(a,b)::l,x,h=>by
  unfold tP;split;rfl;rename_i e;rcases List.mem_cons.1 h with rfl|h;rw[Nat.beq_refl] at e;cases e;exact Bt h
def Jz (q:List WR->Prop):List WR->List WR->Prop
 |[],acc=>hP (q acc)
 |x::l,acc=>Jz q l (x::acc)
theorem D8 {q:List WR->Prop}:∀{l acc:List WR},Jz q l acc->q (l.reverse++acc)
 |[],_,h=>h
 |x::l,acc,h=>by have:=D8 (l:=l) h;simpa using this
def E2 (P:Program) (K:FuncId->List Value->Option bZ) (M n:Nat) (F:List (Nat×List (Nat×Nat))) (id:Nat) (ops:Array Oper) (a:Ek) (h:AH) (q:Ek->AH->Prop):Prop:=
 Cs F id fun d=>nK ops.size fun m=>Jl (Ee P ops d) h m fun r u=>(match d with
  |[]=>F4 P K M n (fun j=>(ops[j]?).bind (·.dst)) r [] ops.toList 0 a u [] fun _ o g=>q o g
  |d=>F4 P K M n (fun j=>(ops[j]?).bind (·.dst)) r d ops.toList 0 a u [] fun t o g=>Jz (fun t=>C9 P ops.toList t g d (q o g)) t [])
theorem Di {M n:Nat} {F:List (Nat×List (Nat×Nat))} {id:Nat} {ops:Array Oper} {a:Ek} {env:List Value} (X:bB a env) (Y:env.length=n) {h:AH} {q:Ek->AH->Prop} (B:E2 P K M n F id ops a h q):∃m e t u,eB P (run P K m) ops env h=some (e,t)/\bB u e/\e.length=n/\q u t:=by
 obtain⟨fl,B⟩:=Aw B;obtain⟨D,B⟩:=Aj B;unfold Ee at D;rw[Bool.and_eq_true] at D;have J:=Eb D.2;subst J;obtain⟨m,d,g,e,t,u,C,E,z,v,y,A⟩:∃m d g e t u,bI P (run P K m) ops.toList h.next 0 ops.toList env {h with next:=h.next+ops.size}=some (List.zipWith (fun x e=>⟨e,x.h,x.v⟩) d g,e,t)/\d.length=g.length/\Ec ops.toList d g/\bB u e/\e.length=n/\C9 P ops.toList d t (jQ ops.toList) (q u t):=by
  have S:Ec ops.toList ([]:List WR).reverse []:=⟨rfl,fun i o x e _ O=>by simp at O⟩;split at B;rename_i I;obtain⟨m,d,g,e,t,u,C,E,z,v,y,Q,_,A⟩:=xT (all:=ops.toList) (r:=h.next) (i:=0) (gs:=[]) (es:=[]) X Y rfl (fun j=>by simp) S (fun e=>absurd rfl e) B;exact⟨m,d,g,e,t,u,C,E,by simpa using z,v,y,by rw[I];exact A⟩;rename_i I;obtain⟨m,d,g,e,t,u,C,E,z,v,y,Q,N,A⟩:=xT (all:=ops.toList) (r:=h.next) (i:=0) (rs:=[]) (gs:=[]) (es:=[]) X Y rfl (fun j=>by simp) S (fun _=>trivial) B;have T:=N (fun e=>I e);rw[List.append_nil] at T;obtain⟨Z,h3⟩:=B5 T;have U:=D8 A;rw[List.append_nil] at U;have V:=qK (by simpa using Z) h3 (fun x O=>Bt O) U;rw[List.reverse_reverse] at V;exact⟨m,d,g,e,t,u,C,E,by simpa using z,v,y,V⟩
 obtain⟨hf,A⟩:=Bl z A;refine⟨m,e,t,u,?_,v,y,A⟩;unfold eB;rw[Kx D.1,C];simp only;rw[Kx hf]
end
end Go.Ab
end
section
namespace Go.Ab
noncomputable section
variable {P:Program} {K:FuncId->List Value->Option bZ}
inductive It where
 |code (p:List Nat) (c:Code)|inBlock (id:Nat)|inLoop (p:List Nat) (b:Code)|inScope (b:Code)|beginRound
def It.it:It->Item
 |.code _ c=> .code c
 |.inBlock id=> .inBlock id
 |.inLoop _ b=> .inLoop b
 |.inScope b=> .inScope b
 |.beginRound=> .beginRound
abbrev lE (k:List It):List Item:=k.map It.it
def dR (b:Nat) (p:List Nat) (x:Code×List It):Code×List It:=match x.1,b with
 |.seq c d,0=>(c,.code (1::p) d::x.2)
 |.seq _ d,1=>(d,x.2)
 |.cond _ t _,0=>(t,x.2)
 |.cond _ _ e,1=>(e,x.2)
 |.block id c,0=>(c,.inBlock id::x.2)
 |.loop c,0=>(c,.inLoop (0::p) c::x.2)
 |.scope c,0=>(c,.inScope c::x.2)
 |.rangeFunc _ _ a c,0=>(a,[.beginRound,.code (1::p) c])
 |.rangeFunc _ _ _ c,1=>(c,[])
 |_,_=>(.skip,[])
def ctx (P:Program) (f:FuncId):List Nat->Code×List It
 |[]=>((oQ P f).getD .skip,[])
 |b::p=>dR b p (ctx P f p)
def Good (P:Program) (f:FuncId):List It->Prop
 |[]=>True
 |.code p c::k=>ctx P f p=(c,k)/\Good P f k
 |.inLoop p b::k=>ctx P f p=(b,.inLoop p b::k)/\Good P f k
 |_::k=>Good P f k
def fE (id:Nat):List It->Option (List It)
 |[]=>none
 |.inBlock i::k=>(match Nat.beq i id with
  |true=>some k
  |false=>fE id k)
 |_::k=>fE id k
theorem fB {f:FuncId} {id:Nat}:∀{k k':List It},fE id k=some k'->exitTo id (lE k)=some (lE k')/\(Good P f k->Good P f k')
 |[],_,h=>by cases h
 |x::k,k',h=>by
  cases x with
  |inBlock i=>
   unfold fE at h;split at h;rename_i e;cases h;have:=Nat.eq_of_beq_eq_true e;subst this;exact⟨by simp[lE,It.it,exitTo],fun g=>g⟩;rename_i e;obtain⟨d,j⟩:=fB (f:=f) h;refine⟨?_,fun g=>j g⟩;have:(i==id)=false:=by simpa using Nat.ne_of_beq_eq_false e
   simpa [lE,It.it,exitTo,this] using d
  |code p c=>obtain⟨d,j⟩:=fB (f:=f) (k:=k) h;exact⟨d,fun g=>j g.2⟩
  |inLoop p c=>obtain⟨d,j⟩:=fB (f:=f) (k:=k) h;exact⟨d,fun g=>j g.2⟩
  |inScope c=>obtain⟨d,j⟩:=fB (f:=f) (k:=k) h;exact⟨d,fun g=>j g⟩
  |beginRound=>obtain⟨d,j⟩:=fB (f:=f) (k:=k) h;exact⟨d,fun g=>j g⟩
theorem fC {id:Nat}:∀{k:List It},fE id k=none->exitTo id (lE k)=none
 |[],_=>rfl
 |x::k,h=>by
  cases x with
  |inBlock i=>
   unfold fE at h;split at h;cases h;rename_i e;have:(i==id)=false:=by simpa using Nat.ne_of_beq_eq_false e
   simpa [lE,It.it,exitTo,this] using fC h
  |code p c=>exact fC (k:=k) h
  |inLoop p c=>exact fC (k:=k) h
  |inScope c=>exact fC (k:=k) h
  |beginRound=>exact fC (k:=k) h
def cX:Nat->List It->List It
 |0,k=>k
 |n+1,k=>match k with
  |.code p c::d=>(match c with
   |.skip=>cX n d
   |.label _=>cX n d
   |.seq a b=>cX n (.code (0::p) a:: .code (1::p) b::d)
   |.block id b=>cX n (.code (0::p) b:: .inBlock id::d)
   |.scope b=>cX n (.code (0::p) b:: .inScope b::d)
   |.loop b=>cX n (.code (0::p) b:: .inLoop (0::p) b::d)
   |.exit id=>(match fE id d with
    |some g=>cX n g
    |none=>k)
   |_=>k)
  |.inBlock _::d=>cX n d
  |.inScope _::d=>cX n d
  |.inLoop p b::d=>cX n (.code p b:: .inLoop p b::d)
  |_=>k
section
variable {f:FuncId} {p:List Nat} {k:List It} {a b c:Code} {id:Nat}
theorem Good.seq (g:Good P f (.code p (.seq a b)::k)):Good P f (.code (0::p) a:: .code (1::p) b::k):=by
 obtain⟨d,j⟩:=g;exact⟨by simp only[ctx,d,dR],by simp only[ctx,d,dR],j⟩
theorem Good.block (g:Good P f (.code p (.block id b)::k)):Good P f (.code (0::p) b:: .inBlock id::k):=by
 obtain⟨d,j⟩:=g;exact⟨by simp only[ctx,d,dR],j⟩
theorem Good.scope (g:Good P f (.code p (.scope b)::k)):Good P f (.code (0::p) b:: .inScope b::k):=by
 obtain⟨d,j⟩:=g;exact⟨by simp only[ctx,d,dR],j⟩
theorem Good.loop (g:Good P f (.code p (.loop b)::k)):Good P f (.code (0::p) b:: .inLoop (0::p) b::k):=by
 obtain⟨d,j⟩:=g;exact⟨by simp only[ctx,d,dR],by simp only[ctx,d,dR],j⟩
theorem Good.again (g:Good P f (.inLoop p b::k)):Good P f (.code p b:: .inLoop p b::k):=⟨g.1,g⟩
end
theorem dH {f:FuncId}:∀(n:Nat) {k:List It},Good P f k->lE (cX n k)=cY n (lE k)/\Good P f (cX n k)
 |0,_,g=>⟨rfl,g⟩
 |_+1,[],g=>⟨rfl,g⟩
 |n+1,.inBlock _::k,g=>dH n (k:=k) g
 |n+1,.inScope _::k,g=>dH n (k:=k) g
 |n+1,.inLoop _ _::_,g=>dH n g.again
 |_+1,.beginRound::_,g=>⟨rfl,g⟩
 |n+1,.code p c::k,g=>by
  cases c with
  |skip=>exact dH n g.2
  |label _=>exact dH n g.2
  |seq a b=>exact dH n g.seq
  |block id b=>exact dH n g.block
  |scope b=>exact dH n g.scope
  |loop b=>exact dH n g.loop
  |exit id=>
   show lE (match fE id k with|some d=>cX n d|none=>_)=(match exitTo id (lE k) with|some d=>cY n d|none=>_)/\Good P f (match fE id k with|some d=>cX n d|none=>_);cases hx:fE id k with
   |some d=>
    obtain⟨j,m⟩:=fB (P:=P) (f:=f) hx;rw[j];exact dH n (m g.2)
   |none=>rw[fC hx];exact⟨rfl,g⟩
  |_=>exact⟨rfl,g⟩
end
end Go.Ab
end
section
namespace Go.Ab
noncomputable section
variable {P:Program} {K:FuncId->List Value->Option bZ}
structure FT where
 L:List (Nat×List Nat)
 R:List (Nat×List Nat)
 hr:Bool
 M:Nat:=0
 F:List (Nat×List (Nat×Nat)):=[]
def Jy (l:List (List FT)) (f:FuncId):FT:=((l[f/16]?).getD [])[f % 16]?.getD ⟨[],[],false,0,[]⟩
def I5:List Nat->List Nat->Bool
 |[],[]=>true
 |a::l,b::m=>(match Nat.beq a b with
  |true=>I5 l m
  |false=>false)
 |_,_=>false
theorem Ef:∀{l m:List Nat},I5 l m=true->l=m
 |[],[],_=>rfl
 |a::l,b::m,h=>by
  unfold I5 at h;split at h;rename_i e;rw[Nat.eq_of_beq_eq_true e,Ef h];cases h
 |[],_::_,h=>by cases h
 |_::_,[],h=>by cases h
def Gz:List Nat->Nat
 |[]=>1
 |b::p=>2*Gz p+b
def tY:List (Nat×List Nat)->List Nat->Nat->(Nat->Nat->List Nat->Prop)->Prop
 |[],_,_,_=>hF
 |(n,d)::L,p,i,q=>(match Nat.beq (Gz p) n with
  |true=>(match I5 p.reverse (Bv n) with
   |true=>q i n d
   |false=>hF)
  |false=>nK (i+1) fun i=>tY L p i q)
theorem sO:∀{L:List (Nat×List Nat)} {p:List Nat} {i:Nat} {q:Nat->Nat->List Nat->Prop},tY L p i q->∃j n d,L[j]?=some (n,d)/\p=(Bv n).reverse/\q (i+j) n d
 |[],_,_,_,h=>h.elim
 |(n,d)::L,p,i,q,h=>by
  unfold tY at h;split at h;split at h;rename_i e;exact⟨0,n,d,rfl,by rw[<-Ef e,List.reverse_reverse],h⟩;cases h;obtain⟨j,t,g,m,o,r⟩:=sO (Aj h);exact⟨j+1,t,g,m,o,by rw[show i+(j+1)=i+1+j by omega];exact r⟩
def tV (a:Ek):List Nat->(List Value->Prop)->Prop
 |[],q=>q []
 |t::d,q=>(match a.lk t with
  |some (v,_)=>tV a d fun g=>q (v::g)
  |none=>hF)
theorem sE {a:Ek} {env:List Value} (d:bB a env):∀{lv:List Nat} {q:List Value->Prop},tV a lv q->q (lv.map fun t=>env.getD t undef)
 |[],_,h=>h
 |t::lv,q,h=>by
  unfold tV at h;split at h;rename_i j;have g:=(d _ _ _ j).1;have:=sE d (lv:=lv) h;simpa only[List.map_cons,List.getD_eq_getElem?_getD,g,Option.getD_some] using this;cases h
def Hf (P:Program) (K:FuncId->List Value->Option bZ) (T:FT) (f:FuncId) (g:Option Nat) (Q:Out->AH->Prop) (i:Nat) (d:List Nat) (vs:List Value) (h:AH):Prop:=
 Pt P K f g Q (I6 P f) ((T.L[i]?).getD (0,[])).2 (.code (ctx P f (Bv ((T.L[i]?).getD (0,[])).1).reverse).1::lE (ctx P f (Bv ((T.L[i]?).getD (0,[])).1).reverse).2) d vs h
def wE (T:FT) (a:Ek) (k:List It) (q:Nat->List Value->Prop):Prop:=match k with
 |.code p _::_=>tY T.L p 0 fun i _ d=>tV a d fun g=>q i g
 |_=>hF
theorem Hy {T:FT} {f:FuncId} {o:Option Nat} {Q:Out->AH->Prop} {m:List Nat} {h:AH} {a:Ek} {env:List Value} {k:List It} (v:bB a env) (z:env.length=I6 P f) (y:Good P f k) (g:wE T a k fun i A=>Hf P K T f o Q i m A h):Ok P K (.todo f o m env (lE k)) h Q:=by
 unfold wE at g;split at g;obtain⟨j,n,B,r,u,d⟩:=sO g;have d:=sE v d;simp only[Hf,Nat.zero_add,r,Option.getD_some,<-u,y.1] at d;have:=d (fun t=>env.getD t undef) rfl;rwa [qR z] at this;cases g
def uK (P:Program) (a:Ek) (h:AH) (r:ResultVar) (d:(List Value->Prop)->Prop) (p:List Value->Prop):Prop:=match r with
 |.tmp t=>(match a.lk t with
  |some (v,_)=>d fun l=>p (v::l)
  |none=>hF)
 |.cell x t=>(match a.lk x with
  |some (v,_)=>(match bY P t with
   |some true=>sU P t fun n=>aQ (Co h n v) fun v=>d fun l=>p (v::l)
   |some false=>aQ (Cq h v) fun v=>d fun l=>p (v::l)
   |none=>hF)
  |none=>hF)
def yR (P:Program) (a:Ek) (h:AH) (rs:List ResultVar):(List Value->Prop)->Prop:=List.rec (fun p=>p []) (fun r _ d=>uK P a h r d) rs
theorem oG {a:Ek} {env:List Value} (g:bB a env) {h:AH}:∀{rs:List ResultVar} {p:List Value->Prop},yR P a h rs p->rN P h env rs p
 |[],_,d=>d
 |.tmp t::rs,p,d=>by
  have d:uK P a h (.tmp t) (yR P a h rs) p:=d;unfold uK at d;simp only at d;split at d;rename_i o;have j:=(g _ _ _ o).1;have:=oG g (rs:=rs) d;simpa only[rN,List.getD_eq_getElem?_getD,j,Option.getD_some] using this;cases d
 |.cell x t::rs,p,d=>by
  have d:uK P a h (.cell x t) (yR P a h rs) p:=d;unfold uK at d;simp only at d;split at d;rename_i o;have j:=(g _ _ _ o).1;simp only[rN,List.getD_eq_getElem?_getD,j,Option.getD_some];split at d;rename_i m;simp only[m];exact(eO d).2.mono fun v r=>oG g r;rename_i m;simp only[m];exact d.mono fun v r=>oG g r;cases d;cases d
def C6 (Q:Value->AH->Prop) (l:List Value) (h:AH):Prop:=match l with
 |[v]=>Q v h
 |l=>hP (Q (.tuple ⟨l⟩) h)
theorem F0 {Q:Value->AH->Prop} {h:AH}:(fun l=>C6 Q l h)=fun l=>Q (oneOf l) h:=funext fun l=>match l with
 |[]=>rfl
 |[_]=>rfl
 |_::_::_=>rfl
def Dy (P:Program) (f:FuncId) (m:Bool) (Q:Value->AH->Prop) (lv:iE) (g:List Nat) (a:Ek) (h:AH):Prop:=match lv with
 |.exit _=>hF
 |_=>(match m with
  |true=>aQ (aZ g h) fun j=>yR P a j ((P.funcs[f]?).elim [] fun d=>d.results.toList) fun l=>C6 Q l j
  |false=>(match g with
   |[]=>yR P a h ((P.funcs[f]?).elim [] fun d=>d.results.toList) fun l=>C6 Q l h
   |_=>hF))
theorem Ah {f:FuncId} {y:Bool} {Q:Value->AH->Prop} {lv:iE} {o:List Nat} {a:Ek} {env:List Value} {h:AH} (t:bB a env) (g:Dy P f y Q lv o a h):xG P f Q ⟨lv,o,env,undef⟩ h:=by
 have m:(∀id,lv≠.exit id)->(aQ (aZ o h) fun j=>yR P a j ((P.funcs[f]?).elim [] fun v=>v.results.toList) fun l=>C6 Q l j)->xG P f Q ⟨lv,o,env,undef⟩ h:=by
  intro d ⟨j,u,r⟩;simp only[F0] at r;refine vN ?_;unfold Ga;cases lv with
  |exit id=>exact absurd rfl (d id)
  |cO=>exact⟨j,u,oG t r⟩
  |ret=>exact⟨j,u,oG t r⟩
 unfold Dy at g;split at g;cases g;rename_i d;split at g;exact m (fun id e=>d id e) g;split at g;exact m (fun id e=>d id e) ⟨h,rfl,g⟩;cases g
end
end Go.Ab
end
section
namespace Go.Ab
noncomputable section
variable {P:Program} {K:FuncId->List Value->Option bZ}
def Cb:List It->Bool
 |[]=>true
 |.code _ .ret::_=>true
 |.code _ (.exit _)::_=>true
 |_=>false
def vR (k:List It):Bool:=match cX 60 k with
 |.code _ (.region _ _ _)::d=>Cb (cX 60 d)
 |d=>Cb d
def Jb (P:Program) (K:FuncId->List Value->Option bZ) (f:FuncId) (m:Nat) (g:Value) (num:Nat) (lv:List Nat) (vs:List Value) (d:Nat) (h:AH) (q:Option Code->AH->Prop):Prop:=
 ∀e:Nat->Value,lv.map e=vs->zX h (lp P f (Bv num) m e d .ready none) fun l j=>I1 P K g l j fun _ o=>aQ (wR o l) fun r=>(match r with|(pd,t)=>q pd t)
def Jw (P:Program) (K:FuncId->List Value->Option bZ) (E:List Nat->Ek->List It->AH->Prop) (F:iE->List Nat->Ek->AH->Prop) (T:FT) (f:FuncId) (m:Nat) (D:Option Nat) (o:List Nat->Ek->List It->AH->Prop) (g:List Nat) (a:Ek) (k:List It) (h:AH):Prop:=(match k with
  |[]=>F .cO g a h
  |.code p c::k=>(match c with
   |.skip=>o g a k h
   |.label _=>o g a k h
   |.seq x y=>o g a (.code (0::p) x:: .code (1::p) y::k) h
   |.cond c t e=>(match Gq a c with
    |.b true=>o g a (.code (0::p) t::k) h
    |.b false=>o g a (.code (1::p) e::k) h
    |_=>fQ P a c fun v=>Br v
     (match vR (.code (0::p) t::k) with
     |true=>o g a (.code (0::p) t::k) h
     |false=>E g a (cX 60 (.code (0::p) t::k)) h)
     (match vR (.code (1::p) e::k) with
     |true=>o g a (.code (1::p) e::k) h
     |false=>E g a (cX 60 (.code (1::p) e::k)) h))
   |.block id b=>o g a (.code (0::p) b:: .inBlock id::k) h
   |.loop b=>E g a (cX 60 (.code (0::p) b:: .inLoop (0::p) b::k)) h
   |.scope b=>o g a (.code (0::p) b:: .inScope b::k) h
   |.exit id=>(match fE id k with
    |some z=>o g a z h
    |none=>(match D with
     |some _=>F (.exit id) g a h
     |none=>hF))
   |.ret=>F .ret g a h
   |.region _ ops false=>Ds P K T.M m (fun j=>(ops[j]?).bind (·.dst)) ops.toList a h fun B r=>o g B k r
   |.region id ops true=>E2 P K T.M m T.F id ops a h fun B r=>o g B k r
   |.rangeFunc A _ _ u=>fQ P a A fun A=>tY T.R p 0 fun _ num C=>tV a C fun I=>(match D with
    |none=>zX h (.marks true) fun d J=>Jb P K f m A num C I d J fun pd r=>vZ pd (o (d::g) a k r) (F .ret (d::g) a r)
      ((bV u).map fun id=>(id,(match fE id k with
       |some z=>o (d::g) a z r
       |none=>hF)))
    |some l=>aQ (lC h l) fun d=>Jb P K f m A num C I d h fun pd r=>vZ pd (o g a k r) (F .ret g a r)
      ((bV u).map fun id=>(id,(match fE id k with
       |some z=>o g a z r
       |none=>F (.exit id) g a r))))
   |_=>hF)
  |.inBlock _::k=>o g a k h
  |.inScope _::k=>o g a k h
  |.inLoop p b::k=>E g a (cX 60 (.code p b:: .inLoop p b::k)) h
  |.beginRound::k=>(match D with
   |some l=>aQ (rT h l) fun r=>o g a k r
   |none=>hF))
def wT (P:Program) (K:FuncId->List Value->Option bZ) (E:List Nat->Ek->List It->AH->Prop) (F:iE->List Nat->Ek->AH->Prop) (T:FT) (f:FuncId) (m:Nat) (g:Option Nat) (n:Nat):List Nat->Ek->List It->AH->Prop:=
 Nat.rec (fun _ _ _ _=>hF) (fun _ d=>Jw P K E F T f m g d) n
theorem yX {b:Nat} {p q:List Nat} {c:Code} {k k':List It}:(dR b p (c,k)).1=(dR b q (c,k')).1:=by
 unfold dR;rcases b with _|_|b<;>cases c<;>rfl
theorem Al {b:Nat} {c:Code} {l:List Nat}:sub c (b::l)=sub (dR b [] (c,[])).1 l:=by
 have d:∀l:List Nat,sub .skip l= .skip:=fun l=>by cases l<;>simp[sub]
 rcases b with _|_|b<;>cases c<;>simp[sub,dR,d]
theorem sub_fold:∀(l:List Nat) (c:Code),sub c l=l.foldl (fun c b=>(dR b [] (c,[])).1) c
 |[],c=>by simp[sub]
 |b::l,c=>by rw[Al,sub_fold l];rfl
theorem yB {f:FuncId}:∀p:List Nat,(ctx P f p).1=sub ((oQ P f).getD .skip) p.reverse
 |[]=>by simp[ctx,sub]
 |b::p=>by
  have d:(ctx P f (b::p)).1=(dR b [] ((ctx P f p).1,[])).1:=yX;rw[d,yB p,List.reverse_cons,sub_fold,sub_fold,List.foldl_append];rfl
theorem Ed {f:FuncId} {m:Nat} {B:Operand} {v:Value} {num:Nat} {lv:List Nat} {env:List Value} {A:Array Tmp} {u r:Code} {d:Nat} {h:AH} {q:Option Code->AH->Prop} (E:env.length=m) (C:cd P f (Bv num)= .rangeFunc B A u r)
  (I:Jb P K f m v num lv (lv.map fun t=>env.getD t undef) d h q):
  ∃n g first j o y p z,v= .func (.func g) first j/\cB P g=true/\run P K n (.call g (first.toList++[.func (.yield h.next) #[] #[]]++j.toList)) (h.alloc (.loop .ready none f env A u r d))=some (o,y)/\
   wR y h.next=some (p,z)/\q p z:=by
 subst E
 refine nR (lv:=lv) ?_
 intro e D
 have:=I e D
 simp only[lp,C,Im] at this
 exact this
theorem dO {f:FuncId} {g:Option Nat} {d:List Nat} {env:List Value} {k k':List Item} {h:AH} {Q:Out->AH->Prop} (o:Ok P K (.todo f g d env k') h Q) (j:∀m,run P K (m+1) (.todo f g d env k) h=run P K m (.todo f g d env k') h):Ok P K (.todo f g d env k) h Q:=kY j o
theorem E7 {E:List Nat->Ek->List It->AH->Prop} {F:iE->List Nat->Ek->AH->Prop} {T:FT} {f:FuncId} {m:Nat} {X:Option Nat} {Q:Out->AH->Prop}
  (hE:∀A a env k h,bB a env->env.length=m->Good P f k->E A a k h->Ok P K (.todo f X A env (lE k)) h Q) (hF:∀lv A a env h,bB a env->F lv A a h->Q ⟨lv,A,env,undef⟩ h):
  ∀(n:Nat) {A:List Nat} {a:Ek} {env:List Value} {k:List It} {h:AH},bB a env->env.length=m->Good P f k->wT P K E F T f m X n A a k h->Ok P K (.todo f X A env (lE k)) h Q
 |0,_,_,_,_,_,_,_,_,u=>u.elim
 |n+1,A,a,env,k,h,v,D,B,u=>by
  have N:∀{A:List Nat} {a:Ek} {env:List Value} {k:List It} {h:AH},bB a env->env.length=m->Good P f k->wT P K E F T f m X n A a k h->Ok P K (.todo f X A env (lE k)) h Q:=fun x y z w=>E7 hE hF n x y z w;have nm:∀{k:List It},Good P f k->E A a (cX 60 k) h->Ok P K (.todo f X A env (lE k)) h Q:=fun g hk=>by
   obtain⟨Z,h2⟩:=dH (P:=P) (f:=f) 60 g;exact oI 60 (Z▸hE _ _ _ _ _ v D h2 hk)
  have go:∀{k':List It},Good P f k'->(match vR k' with
     |true=>wT P K E F T f m X n A a k' h
     |false=>E A a (cX 60 k') h)->Ok P K (.todo f X A env (lE k')) h Q:=by
   intro k' g hk
   split at hk
   .exact N v D g hk
   .exact nm g hk
  change Jw P K E F T f m X (wT P K E F T f m X n) A a k h at u;unfold Jw at u;split at u;exact⟨1,_,rfl,hF _ _ _ _ _ v u⟩;rename_i p c k;split at u;exact dO (N v D B.2 u) fun _=>rfl;exact dO (N v D B.2 u) fun _=>rfl;exact dO (N v D B.seq u) fun _=>rfl;rename_i c t e;have g1:Good P f (.code (0::p) t::k):=⟨by simp only[ctx,B.1,dR],B.2⟩;have g2:Good P f (.code (1::p) e::k):=⟨by simp only[ctx,B.1,dR],B.2⟩;obtain⟨k1,k2⟩:=Af (P:=P) (x:=c) v;split at u;rename_i hk;exact rG (uY (b:=true) (fun _=>N v D g1 u) (by simp)|>fun x=>by rw[k1 _ hk];exact x);rename_i hk;exact rG (uY (b:=false) (by simp) (fun _=>N v D g2 u)|>fun x=>by rw[k1 _ hk];exact x);exact rG (let⟨b,x,y,z⟩:=aY v u;⟨b,x,fun t=>go g1 (y t),fun t=>go g2 (z t)⟩);exact dO (N v D B.block u) fun _=>rfl;exact dO (nm B.loop u) fun _=>rfl;exact dO (N v D B.scope u) fun _=>rfl;rename_i id;split at u;rename_i k' O;obtain⟨Z,h2⟩:=fB (P:=P) (f:=f) O;refine dO (N v D (h2 B.2) u) fun m=>?_;show aL P (run P K m) _ _ _ _ (.code (.exit id)::lE k) _=_;simp only[aL,Z];rename_i O;split at u;refine⟨1,(⟨.exit id,A,env,undef⟩,h),?_,hF _ _ _ _ _ v u⟩;show aL P (run P K 0) _ _ _ _ (.code (.exit id)::lE k) _=_;simp only[aL,fC O,Option.isSome_some,if_true];cases u;exact⟨1,_,rfl,hF _ _ _ _ _ v u⟩;rename_i ops;obtain⟨I,o,Z,a',hr,δ,ζ,u⟩:=xE v D u;obtain⟨J,r,U,hq⟩:=N δ ζ B.2 u;refine⟨max I J+1,r,?_,hq⟩;show aL P (run P K (max I J)) _ _ _ _ (.code (.region _ ops false)::lE k) _=_;simp only[aL];rw[cJ (Nat.le_max_left I J) _ _ _ hr];exact cJ (Nat.le_max_right I J) _ _ _ U;rename_i ops;obtain⟨I,e,Z,a',hr,δ,ζ,u⟩:=Di v D u;obtain⟨J,r,U,hq⟩:=N δ ζ B.2 u;refine⟨max I J+1,r,?_,hq⟩;show aL P (run P K (max I J)) _ _ _ _ (.code (.region _ ops true)::lE k) _=_;simp only[aL];rw[oU (cJ (Nat.le_max_left I J)) hr];exact cJ (Nat.le_max_right I J) _ _ _ U;rename_i fv ps γ V;have u:=aY v u;obtain⟨j,num,lv,_,hp,u⟩:=sO u;have u:=sE v u;have hc:cd P f (Bv num)= .rangeFunc fv ps γ V:=by
   have:=yB (P:=P) (f:=f) p;rw[B.1,hp,List.reverse_reverse] at this;exact this.symm
  have ex:∀{S:List Nat} {h4:AH} {pd:Option Code},vZ pd (wT P K E F T f m X n S a k h4) (F .ret S a h4)
    ((bV V).map fun id=>(id,(match fE id k with
     |some k'=>wT P K E F T f m X n S a k' h4
     |none=>(match X with
      |none=>False
      |some _=>F (.exit id) S a h4))))->Ok P K (.todo f X S env ((pd.map Item.code).toList++lE k)) h4 Q:=by
   intro S h4 pd O
   unfold vZ at O
   split at O
   .exact N v D B.2 O
   .exact⟨1,_,rfl,hF _ _ _ _ _ v O⟩
   .rename_i id;split at O
    .rename_i hl;have:=vW hl;subst this;split at O
     .rename_i k' hy;obtain⟨Z,h2⟩:=fB (P:=P) (f:=f) hy;refine dO (N v D (h2 B.2) O) fun m=>?_;show aL P (run P K m) _ _ _ _ (.code (.exit id)::lE k) _=_;simp only[aL,Z]
     .rename_i hy;split at O
      .cases O
      .refine⟨1,(⟨.exit id,S,env,undef⟩,h4),?_,hF _ _ _ _ _ v O⟩;show aL P (run P K 0) _ _ _ _ (.code (.exit id)::lE k) _=_;simp only[aL,fC hy,Option.isSome_some,if_true]
    .cases O
   .cases O
  split at u;unfold zX at u;obtain⟨I,g,first,Y,o,h3,p,h4,hf,ε,hr,C,u⟩:=Ed D hc u;obtain⟨J,r,U,hq⟩:=ex u;refine⟨max I J+1,r,?_,hq⟩;show aL P (run P K (max I J)) _ _ _ _ (.code (.rangeFunc fv ps γ V)::lE k) _=_;unfold wR at C;split at C;rename_i hl;split at C;cases C;rename_i hb;simp only[Option.map_eq_some_iff] at C;obtain⟨h5,C,h6⟩:=C;cases h6;simp only[aL,hf,ε,if_true];rw[cJ (Nat.le_max_left I J) _ _ _ hr];simp only[hl,hb,if_false,C];exact cJ (Nat.le_max_right I J) _ _ _ U;cases C;rename_i l;obtain⟨d,β,u⟩:=u;obtain⟨I,g,first,Y,o,h3,p,h4,hf,ε,hr,C,u⟩:=Ed D hc u;obtain⟨J,r,U,hq⟩:=ex u;refine⟨max I J+1,r,?_,hq⟩;show aL P (run P K (max I J)) _ _ _ _ (.code (.rangeFunc fv ps γ V)::lE k) _=_;unfold wR at C;unfold lC at β;split at β;rename_i η;cases β;split at C;rename_i hl;split at C;cases C;rename_i hb;simp only[Option.map_eq_some_iff] at C;obtain⟨h5,C,h6⟩:=C;cases h6;simp only[aL,η,hf,ε,if_true];rw[cJ (Nat.le_max_left I J) _ _ _ hr];simp only[hl,hb,if_false,C];exact cJ (Nat.le_max_right I J) _ _ _ U;cases C;cases β;cases u;rename_i k;exact dO (N (k:=k) v D B u) fun _=>rfl;rename_i k;exact dO (N (k:=k) v D B u) fun _=>rfl;exact dO (nm B.again u) fun _=>rfl;rename_i k;split at u;rename_i l;obtain⟨h',Z,h2⟩:=u;unfold rT at Z;split at Z;rename_i θ;refine kY (t':= .todo f (some l) A env (lE k)) (h':=h') (fun m=>?_) (N v D B h2);show aL P (run P K m) _ _ _ _ (.beginRound::lE k) _=_;simp only[aL,θ,Z];cases Z;cases u
end
end Go.Ab
end
section
namespace Go.Ab
noncomputable section
variable {P:Program} {K:FuncId->List Value->Option bZ}
theorem uX {f:FuncId}:∀p:List Nat,Good P f (ctx P f p).2
 |[]=>trivial
 |b::p=>by
  have g:=uX (f:=f) p;have d:∀c,ctx P f (c::p)=dR c p (ctx P f p):=fun _=>rfl;rw[d];generalize j:ctx P f p=x at g d;obtain⟨c,k⟩:=x;rcases b with _|_|b<;>cases c<;>simp_all [dR,Good]
def D (P:Program) (K:FuncId->List Value->Option bZ) (T:FuncId->FT) (f:FuncId) (i:Nat) (d:List Nat) (Q:Value->AH->Prop) (vs:List Value) (h:AH):Prop:=Hf P K (T f) f none (xG P f Q) i d vs h
def R (P:Program) (K:FuncId->List Value->Option bZ) (T:FuncId->FT) (f:FuncId) (i:Nat) (l:Nat) (Q:Value->AH->Prop) (vs:List Value) (h:AH):Prop:=Hf P K (T f) f (some l) (Bp l Q) i [] vs h
def fW (P:Program) (f:FuncId) (q:Nat->Code->Prop):Prop:=match P.funcs[f]? with
 |some ⟨_,_,_,_,_,_,n,_,some c,_,_,_,_,_,_,_⟩=>q n c
 |_=>hF
theorem Ib {f:FuncId} {q:Nat->Code->Prop} (h:fW P f q):∃d c,P.funcs[f]?=some d/\d.body=some c/\I6 P f=d.ntmps/\oQ P f=some c/\q d.ntmps c:=by
 unfold fW at h;split at h;rename_i g;exact⟨_,_,g,rfl,by simp only[I6,g,Option.elim_some],by simp only[oQ,g,Option.bind_some],h⟩;cases h
def Dn (m:Nat):List Nat->List Value->Ek->(Ek->Prop)->Prop
 |[],[],a,q=>q a
 |t::d,v::g,a,q=>(match Nat.blt t m with
  |true=>Dn m d g ((t,v,.un)::a) q
  |false=>hF)
 |_,_,_,_=>hF
theorem Az {m:Nat}:∀{lv:List Nat} {vs:List Value} {a:Ek} {env:List Value} {q:Ek->Prop},bB a env->env.length=m->Dn m lv vs a q->∃g,bB g ((lv.zip vs).foldl (fun t (p,v)=>t.set p v) env)/\((lv.zip vs).foldl (fun t (p,v)=>t.set p v) env).length=m/\lv.length=vs.length/\q g
 |[],[],a,env,q,o,j,d=>⟨a,o,j,rfl,d⟩
 |t::lv,v::vs,a,env,q,o,j,d=>by
  unfold Dn at d;split at d;rename_i e;have A:t<m:=Nat.le_of_ble_eq_true e;obtain⟨g,r,u,y,z⟩:=Az (o.cons (k:= .un) (v:=v) (j.symm▸A) (fun _ e=>by cases e) (fun e=>by cases e)) (by simpa using j) d;exact⟨g,r,u,by simp[y],z⟩;cases d
 |[],_::_,_,_,_,_,_,d=>d.elim
 |_::_,[],_,_,_,_,_,d=>d.elim
theorem A4 {env:List Value} {t:Nat} {v:Value} (h:∀u,env[t]?=some u->u=v):env.set t v=env:=by
 refine List.ext_getElem? fun i=>?_;rw[List.getElem?_set];by_cases e:t=i;subst e;rw[Kx rfl];cases he:env[t]? with
 |none=>rw[Kw (by simpa using he)]
 |some u=>rw[Kx (List.getElem?_eq_some_iff.1 he).1,h u he]
 rw[Kw e]
theorem tU {e:Nat->Value} {m:Nat}:∀{lv:List Nat} {vs:List Value},lv.map e=vs->(lv.zip vs).foldl (fun t (p,v)=>t.set p v) ((List.range m).map e)=(List.range m).map e
 |[],_,_=>rfl
 |t::lv,vs,h=>by
  subst h;rw[List.map_cons,List.zip_cons_cons,List.foldl_cons];show List.foldl _ (((List.range m).map e).set t (e t)) _=_;rw[A4,tU rfl];intro u d;simp only[List.getElem?_map] at d;rcases Nat.lt_or_ge t m with g|g;rw[List.getElem?_range g] at d;cases d;rfl;rw[List.getElem?_eq_none (by simpa using g)] at d;cases d
theorem bB.nil {env:List Value}:bB [] env:=fun _ _ _ h=>by cases h
def wD (P:Program) (K:FuncId->List Value->Option bZ) (T:FuncId->FT) (f:FuncId) (i:Nat) (d:List Nat) (Q:Value->AH->Prop) (vs:List Value) (h:AH):Prop:=match(T f).L[i]? with
 |some (num,g)=>Gr (Bv num).reverse fun p=>(match ctx P f p with
  |(c,k)=>fW P f fun m _=>Dn m g vs [] fun a=>wT P K (fun d a k h=>wE (T f) a k fun i vs=>D P K T f i d Q vs h) (Dy P f (T f).hr Q) (T f) f m none 200 d a (.code p c::k) h)
 |none=>hF
theorem bW {f:FuncId} {T:FuncId->FT} {i:Nat} {j:List Nat} {Q:Value->AH->Prop} {vs:List Value} {h:AH} (d:wD P K T f i j Q vs h):D P K T f i j Q vs h:=by
 unfold wD at d;split at d;rename_i num C A;have d:=qB d;generalize r:ctx P f (Bv num).reverse=x at d;obtain⟨c,k⟩:=x;obtain⟨y,_,_,_,v,_,d⟩:=Ib d;unfold D Hf;simp only[A,Option.getD_some,r];intro e z;rw[v];obtain⟨a,t,u,_,d⟩:=Az (env:=(List.range y.ntmps).map e) bB.nil (by simp) d;rw[tU z] at t u;have m:=uX (P:=P) (f:=f) (Bv num).reverse;rw[r] at m;exact E7 (fun j a g k h o B m hE=>Hy o (B.trans v.symm) m hE) (fun C j a g h o hF=>Ah o hF) 200 (k:= .code (Bv num).reverse c::k) t u ⟨r,m⟩ d;cases d
def Fa:Nat->List Value->Ek->(Ek->Prop)->Prop
 |_,[],a,q=>q a
 |i,v::l,a,q=>nK (i+1) fun j=>Fa j l ((i,v,.un)::a) q
theorem bB.add {a:Ek} {env:List Value} (m:bB a env) {d:Nat} {v:Value} (o:env[d]?=some v):bB ((d,v,.un)::a) env:=by
 intro t u j g;unfold Ek.lk at g;split at g;rename_i e;have:=Nat.eq_of_beq_eq_true e;subst this;cases g;exact⟨o,fun x e=>(by cases e),fun e=>(by cases e)⟩;exact m t u j g
theorem Bz {env:List Value}:∀{l:List Value} {i:Nat} {a:Ek} {q:Ek->Prop},bB a env->(∀j v,l[j]?=some v->env[i+j]?=some v)->Fa i l a q->∃m,bB m env/\q m
 |[],_,a,_,d,_,g=>⟨a,d,g⟩
 |v::l,i,a,q,d,o,g=>Bz (l:=l) (d.add (o 0 v rfl)) (fun j u r=>by have:=o (j+1) u (by simpa using r);rwa [show i+1+j=i+(j+1) by omega]) (Aj g)
def Bf (n m:Nat):List Nat->Ek->(Ek->Prop)->Prop
 |[],a,q=>hP (q a)
 |t::d,a,q=>(match Nat.ble n t with
  |true=>(match Nat.blt t m with
   |true=>Bf n m d ((t,undef,.un)::a) q
   |false=>hF)
  |false=>Bf n m d a q)
theorem vT {args:List Value} {m:Nat}:∀{lv:List Nat} {a:Ek} {q:Ek->Prop},bB a (args++List.replicate (m - args.length) undef)->Bf args.length m lv a q->∃o,bB o (args++List.replicate (m - args.length) undef)/\q o
 |[],a,_,g,d=>⟨a,g,d⟩
 |t::lv,a,q,g,d=>by
  unfold Bf at d;split at d;rename_i j;have j:=Nat.le_of_ble_eq_true j;split at d;rename_i r;have r:t<m:=Nat.le_of_ble_eq_true r;refine vT (g.add ?_) d;rw[List.getElem?_append_right j,List.getElem?_replicate,Kx (by omega)];cases d;exact vT g d
def wC (P:Program) (K:FuncId->List Value->Option bZ) (T:FuncId->FT) (f:FuncId) (args:List Value) (Q:Value->AH->Prop) (h:AH):Prop:=match K f args with
 |none=>fW P f fun m c=>(match Nat.ble args.length m with
  |true=>Fa 0 args [] fun a=>nK args.length fun n=>Bf n m (((T f).L[0]?).getD (0,[])).2 a fun a=>wT P K (fun d a k h=>wE (T f) a k fun i g=>D P K T f i d Q g h) (Dy P f (T f).hr Q) (T f) f m none 200 [] a [.code [] c] h
  |false=>hF)
 |some _=>hF
theorem cW {f:FuncId} {T:FuncId->FT} {args:List Value} {Q:Value->AH->Prop} {h:AH} (d:wC P K T f args Q h):Cl P K f args h Q:=by
 unfold wC at d;split at d;rename_i z;obtain⟨t,c,B,A,D,r,d⟩:=Ib d;refine Df B A z ?_;split at d;rename_i hle;have hle:args.length<=t.ntmps:=Nat.le_of_ble_eq_true hle;obtain⟨a,m,d⟩:=Bz (env:=args++List.replicate (t.ntmps - args.length) undef) bB.nil (fun j v u=>by
  rw[Nat.zero_add,List.getElem?_append_left (List.getElem?_eq_some_iff.1 u).1];exact u) d
 obtain⟨a,m,d⟩:=vT m (Aj d);exact E7 (fun y a g k h o E C hE=>Hy o (E.trans D.symm) C hE) (fun I y a g h o hF=>Ah o hF) 200 (k:=[.code [] c]) m (by simp;omega) ⟨by simp only[ctx,r,Option.getD_some],trivial⟩ d;cases d;cases d
end
end Go.Ab
end
section
namespace Go.Ab
variable {P:Program} {K:FuncId->List Value->Option bZ} {G:Bg} {h:AH} {L L' M:List HP}
end Go.Ab
end
section
namespace Go.Ab
variable {P:Program} {K:FuncId->List Value->Option bZ} {G:Bg} {h:AH} {L L' M:List HP}
end Go.Ab
end
section
namespace Go.Ab
variable {P:Program} {K:FuncId->List Value->Option bZ} {G:Bg} {h:AH} {L L' M:List HP}
variable {α:Type} {R:Nat->Nat->α->HP} {l:List Nat} {s:Nat->α} {i q:Nat} {x:α}
end Go.Ab
end
namespace Go.Ab
open Go Go.RowKit
section
variable {P:Program} {H:Type}
def iO (f:DataW H->Option (List Value)) (w:Nat):List (DataW H)->Option (List Value)
 |[]=>some []
 |d::g=>match f d with
  |some c=>if c.length=w then(iO f w g).map (c++·) else none
  |none=>none
def gP (f:TypeId->DataW H->Option (List Value)) (w:TypeId->Nat):List Field->List (DataW H)->Nat->Option (List Value)
 |[],[],_=>some []
 |x::j,d::g,o=>match f x.type d with
  |some c=>if x.offset=o/\c.length=w x.type then(gP f w j g (o+c.length)).map (c++·) else none
  |none=>none
 |_,_,_=>none
def lG (P:Program):Nat->TypeId->DataW H->Option (List Value)
 |0,_,_=>none
 |n+1,t,d=>match P.underlying t,d with
  |some (.int _),.lit (.int k m)=>some [.int k m]
  |some .bool,.lit (.bool b)=>some [.bool b]
  |some .string,.lit (.string s)=>some [.string ⟨s.toArray⟩]
  |some (.array _ e),.agg g=>match iO (lG P n e) (P.cellsOf e) g with
   |some l=>if l.length=P.cellsOf t then some l else none
   |none=>none
  |some (.struct j),.agg g=>match gP (lG P n) P.cellsOf j.toList g 0 with
   |some l=>if l.length=P.cellsOf t then some l else none
   |none=>none
  |_,_=>none
theorem oT {f:DataW H->Option (List Value)} {w:Nat}:∀{g:List (DataW H)} {l:List Value},iO f w g=some l->l.length=g.length*w
 |[],l,h=>by simp[iO] at h;subst h;simp
 |d::g,l,h=>by
  unfold iO at h;split at h;rename_i c o;split at h;rename_i j;simp only[Option.map_eq_some_iff] at h;obtain⟨r,m,rfl⟩:=h;have:=oT m;simp[this,j,Nat.succ_mul];omega;cases h;cases h
theorem qU {f:DataW H->Option (List Value)} {w:Nat} {T:List Value->Option (DataW H×List MemPlace)} (m:∀c x l,T c=some x->f x.1=some l->c=l):∀(xs:List (DataW H×List MemPlace)) (cs l:List Value),
    iO f w (xs.map (·.1))=some l->cs.length=xs.length*w->(∀i,i<xs.length->T ((cs.drop (i*w)).take w)=xs[i]?)->cs=l
 |[],cs,l,h,d,_=>by simp[iO] at h;subst h;exact List.eq_nil_of_length_eq_zero (by simpa using d)
 |x::xs,cs,l,h,d,j=>by
  simp only[List.map_cons,iO] at h;split at h;rename_i c u;split at h;rename_i v;simp only[Option.map_eq_some_iff] at h;obtain⟨r,y,rfl⟩:=h;have g:=j 0 (by simp);simp only[Nat.zero_mul,List.drop_zero,List.getElem?_cons_zero] at g;have o:=m _ _ _ g u;have t:=qU m xs (cs.drop w) r y (by rw[List.length_drop,d,List.length_cons,Nat.succ_mul];omega) fun i z=>by
   have:=j (i+1) (by simp;omega);rw[List.getElem?_cons_succ] at this;rw[List.drop_drop,<-this,Nat.succ_mul,Nat.add_comm]
  rw[<-List.take_append_drop w cs,o,t];cases h;cases h
theorem oY {f:TypeId->DataW H->Option (List Value)} {w:TypeId->Nat} {T:TypeId->List Value->Option (DataW H×List MemPlace)} (m:∀t c x l,T t c=some x->f t x.1=some l->c=l) {cs:List Value}:∀(fs:List Field) (xs:List (DataW H×List MemPlace)) (o:Nat) (l:List Value),
    gP f w fs (xs.map (·.1)) o=some l->(∀(i:Nat) (x:Field),fs[i]?=some x->T x.type ((cs.drop x.offset).take (w x.type))=xs[i]?)->(cs.drop o).take l.length=l
 |[],[],o,l,h,_=>by simp[gP] at h;subst h;simp
 |[],_::_,_,_,h,_=>by simp[gP] at h
 |_::_,[],_,_,h,_=>by simp[gP] at h
 |y::fs,x::xs,o,l,h,j=>by
  simp only[List.map_cons,gP] at h;split at h;rename_i c A;split at h;rename_i d;simp only[Option.map_eq_some_iff] at h;obtain⟨r,B,rfl⟩:=h;have v:=j 0 y rfl;have g:=m _ _ _ _ v A;have u:=oY m fs xs (o+c.length) r B fun i z C=>j (i+1) z C;rw[d.1,<-d.2] at g;rw[List.length_append,List.take_add,List.drop_drop,g,u];cases h;cases h
variable {enc:TypeId×Value->H} {w:World} {base:Nat} {spare:Nat->Bool} {held:Bool}
theorem xK:∀(n:Nat) {t:TypeId} {cs l:List Value} {x:DataW H×List MemPlace} {fuel:Nat},DataW.trod enc P w base spare held fuel t cs=some x->lG P n t x.1=some l->cs=l:=by
 intro n;induction n with
 |zero=>intro t cs l x fuel _ h;cases h
 |succ n I=>
  intro t cs l x fuel v h;unfold lG at h;split at h;rename_i g d;obtain⟨m,rfl,j,_⟩:=DataW.trod_int g v;rw[j] at d;cases d;cases h;rfl;rename_i g d;obtain⟨m,rfl,j⟩:=DataW.trod_bool g v;rw[j] at d;cases d;cases h;rfl;rename_i g d;obtain⟨m,rfl,j,_⟩:=DataW.trod_string g v;rw[j] at d;cases d;cases h;rfl;rename_i g d;obtain⟨D,m,_,j,E,C,o⟩:=DataW.trod_array g v;rw[j] at d;cases d;split at h;rename_i r z;split at h;rename_i u;cases h;have:=oT z;rw[List.length_map] at this;exact qU (T:=DataW.trod enc P w base spare held m _) (fun c y l A B=>I A B) D cs l z (by rw[E,<-u,this]) fun i N=>o i (by omega);cases h;cases h;rename_i g d;obtain⟨D,m,_,j,E,C,o⟩:=DataW.trod_struct g v;rw[j] at d;cases d;split at h;rename_i r z;split at h;rename_i u;cases h;have:=oY (w:=P.cellsOf) (T:=fun t c=>DataW.trod enc P w base spare held m t c) (fun t c y l A B=>I A B) (cs:=cs) _ D 0 l z fun i y J=>o i y (by rw[<-J,Array.getElem?_toList]);rw[List.drop_zero,List.take_of_length_le (by omega)] at this;exact this;cases h;cases h;cases h
theorem kT {n:String} {d:DataW Unit}:∀{laid:List (String×DataW Unit)} {o:List MemPlace},DataW.LaidVars P w laid o->(n,d)∈laid->
  ∃g t j fuel p,P.globalNamed n=some g/\(P.globals[g]?).map (·.type)=some t/\w.var? P n=some j/\DataW.trod (fun _=>()) P w 0 (fun _=>true) false fuel t j.toList=some (d,p)
 |[],_,_,m=>by cases m
 |(C,B)::r,o,h,m=>by
  obtain⟨g,t,j,fuel,p,q,u,v,y,z,A,_⟩:=h;rcases List.mem_cons.1 m with e|e;cases e;exact⟨g,t,j,fuel,p,u,v,y,z⟩;exact kT A e
theorem gW {laid:List (String×DataW Unit)} {n:String} {d:DataW Unit} {g:Nat} {t:TypeId} {l:List Value} (fuel:Nat) (C:(laid.all fun x=>x.2.handleName?.isNone)=true) (h:laidMetH P laid w) (B:(n,d)∈laid)
  (o:P.globalNamed n=some g) (D:(P.globals[g]?).map (·.type)=some t) (A:lG P fuel t d=some l):∃e m,w.heap[g]?=some (.cells ⟨l⟩ e m):=by
 rw[Go.MakeChecks.laidMetH_plain _ _ _ C] at h
 obtain⟨J,E,_⟩:=h
 obtain⟨I,N,r,f,p,u,v,j,y⟩:=kT E B
 obtain rfl:=Option.some.inj (o.symm.trans u)
 obtain rfl:=Option.some.inj (D.symm.trans v)
 have:=xK fuel y A
 simp only[World.var?,o,Option.bind_some] at j
 split at j
 .rename_i c e m z;cases j;refine⟨e,m,?_⟩;rw[z];cases r;simp at this;subst this;rfl
 .cases j
end
end Go.Ab
namespace Go.Ab
open Go Go.RowKit Go.ChangeShapes Go.WideShapes Go.ChangeAt
section
variable {H:Type} {enc:TypeId×Value->H}
def vO (P:Program) (d:List TypeId):Bool:=d.all fun t=>P.readableRec t&&decide (t<P.types.size)
theorem qY {P:Program} (B:laidOutB P=true) {W y:World} (A:Below W.heap.size W y):∀(g:List TypeId) {vs:List Value} {j:List (DataW H)} {r:List MemPlace},vO P g=true->
  DataW.TrodAll enc P W 0 (fun _=>true) true g vs j r->DataW.TrodAll enc P y 0 (fun b=>decide (b<W.heap.size)) true g vs j r
 |[],vs,j,r,_,h=>by
  obtain⟨rfl,rfl,rfl⟩:=trodAll_nil h;exact trodAll_mk0
 |t::g,vs,j,r,o,h=>by
  obtain⟨v,I,d,C,p,q,rfl,rfl,rfl,z,D⟩:=trodAll_cons h;simp only[vO,List.all_cons,Bool.and_eq_true,decide_eq_true_eq] at o;have u:∀x∈p,x.block<W.heap.size:=by obtain⟨m,E⟩:=z;exact DataW.trod_lt m _ _ _ E
  exact trodAll_cons_mk (Below.trod B o.1.1 o.1.2 z A u) (qY B A g o.2 D)
theorem yP {P:Program} {w:World} {base:Nat} {spare:Nat->Bool} {held:Bool}:∀(j:List TypeId) {vs:List Value} {g:List (DataW H)} {m:List MemPlace},
    DataW.TrodAll enc P w base spare held j vs g m->g.length=j.length
 |[],vs,g,m,h=>by obtain⟨rfl,rfl,rfl⟩:=trodAll_nil h;rfl
 |t::j,vs,g,m,h=>by
  obtain⟨v,u,d,o,p,q,rfl,rfl,rfl,y,r⟩:=trodAll_cons h;simp[yP j r]
theorem wI {C:Checked} {os:Os} (started:os.Started) {f:FuncId} {d:Func} {s:ChangeSpec} {laid:List (String×DataW Unit)} {S:TypeId} {fresh handsOn:Bool}
  (own:ownKnob C.prog.godebug=none) (o:C.prog.inits.idxOf? f=none) (D:C.prog.funcs[f]?=some d) (E:laidOutB C.prog=true) (I:vO C.prog d.params.toList=true)
  (z:d.resultTypes= #[S]) (J:C.prog.underlying S=some .bool) (g:s.vars=[])
  (u:∀m:List (DataW H),m.length=d.params.size->s.fn H m={results:=[.lit (.bool true)],args:=m})
  (witness:∃(w:World) (tape:Tape) (i:Input),w.os=os/\(w.forCall tape i).Shaped C.prog/\i.vars=[]/\Input.okWide C.prog (w.forCall tape i) .any w.heap.size f i/\
   ((s.pre enc C.prog d [] false (w.forCall tape i).memory i.args/\laidMetH C.prog laid (w.forCall tape i).memory)/\sizedMet enc C.prog d (OpenSpec.ofChange s) false (w.forCall tape i).memory i.args)/\({}:Assume).holds C.prog (lone (Frame.enter C.prog f i.args .normal) [] (w.forCall tape i)))
  (walk:∀(W:World) (base:Nat) (args:List Value) (m:List (DataW H)) (ps:List MemPlace),DataW.TrodAll enc C.prog W 0 (fun _=>true) true d.params.toList args m ps->
   (∀(j:Nat) t v,d.params[j]?=some t->args[j]?=some v->Value.okWide C.prog W .any base t v)->laidMetH C.prog laid W->Calls C.prog f ⟨args⟩ W fun e N=>e= .returned (.bool true)/\Below W.heap.size W N):
  ReturnsInHanded {} C os f .any (fun w args=>(s.pre enc C.prog d [] false w args/\laidMetH C.prog laid w)/\sizedMet enc C.prog d (OpenSpec.ofChange s) false w args) (s.post enc C.prog d false fresh handsOn false):=by
 refine returnsInHanded_of_change_and (C:=C) (X:=fun w _=>laidMetH C.prog laid w) (fun _ _ _ hh h=>h.of_heap hh) own started o D witness ?_
 intro W base args m gs before A Q _ _ V _
 have B:=Q
 obtain⟨p,q,hA,O,rfl,Z,β⟩:=Q
 rw[g] at O
 obtain⟨rfl,rfl⟩:=trodVars_none O
 have r:=u m (by rw[yP _ hA];simp)
 obtain⟨args⟩:=args
 refine(walk W base args m p hA (fun j t v T U=>A j t v T (by simpa using U)) V).mono fun e N ⟨Y,y⟩=>?_
 subst Y
 refine⟨_,rfl,m,[],_,[],p,[],B,?_,?_,?_,y.frame _,fun h=>by cases h⟩
 .rw[List.append_nil,r,z];exact trodAll_mk1 (shut_bool J _)
 .rw[List.append_nil,r];exact qY E y _ I hA
 .rw[List.append_nil,r,g];rfl
theorem dZ {k:IntKind} {d:List (Option IntKind)} {l:List Value} (h:Flat (some k::d) l):∃(n:Int) (g:List Value),l= .int k n::g/\(Lit.int k n).wf=true/\Flat d g:=by
 cases l with
 |nil=>exact h.elim
 |cons v l=>obtain⟨⟨n,rfl,j⟩,h⟩:=h;exact⟨n,l,rfl,j,h⟩
theorem wf_i64 {n:Int} (h:(Lit.int .i64 n).wf=true): -9223372036854775808<=n/\n<=9223372036854775807:=by
 simp[Lit.wf,IntKind.min,IntKind.max,IntKind.signed,IntKind.bits] at h;omega
theorem Bc {l:List Value} (h:Flat [] l):l=[]:=by
 cases l with
 |nil=>rfl
 |cons v l=>exact h.elim
theorem kP {P:Program} {W:World} {base:Nat} {t:TypeId} {fs:Array Field} {v:Value} {d:DataW H} {p:List MemPlace} {n:Nat} {j:List (Option IntKind)} (u:P.underlying t=some (.struct fs)) (o:mM P n t=some j)
  (g:Value.okWide P W .any base t v) (h:DataW.Trod enc P W 0 (fun _=>true) true t v d p):∃l,v= .agg ⟨l⟩/\Flat j l:=by
 simp only[Value.okWide,u] at g
 obtain⟨m,rfl,_,_⟩:=g
 obtain⟨fuel,r⟩:=h
 obtain⟨l⟩:=m
 exact⟨l,rfl,zV n o r⟩
end
section
variable {H:Type} {enc:TypeId×Value->H}
end
section
variable {G:Bg} {h:AH} {L:List HP}
end
end Go.Ab
section
namespace Go.Ab
abbrev tx (l:List UInt8):Value:= .string ⟨l.toArray⟩
theorem xH {a b:List UInt8}:(⟨a.toArray⟩:ByteArray)++⟨b.toArray⟩=⟨(a++b).toArray⟩:=by
 apply ByteArray.ext;rw[ByteArray.data_append];simp
theorem jU {a b:List UInt8} {k:Value->Prop} (h:a.length+b.length<=2^62) (d:k (tx (a++b))):aQ (E5 .add (tx a) (tx b)) k:=by
 refine⟨_,?_,d⟩;show uI .add _ _=_;have:(⟨a.toArray⟩:ByteArray).size+(⟨b.toArray⟩:ByteArray).size=a.length+b.length:=rfl;simp only[uI];rw[Kx (by rw[this];exact h),xH]
theorem Ij {a b:List UInt8}:((⟨a.toArray⟩:ByteArray).toList==(⟨b.toArray⟩:ByteArray).toList)=decide (a=b):=by
 rw[Lib.toList_data,Lib.toList_data,Bool.eq_iff_iff,decide_eq_true_eq,beq_iff_eq]
theorem Ei {a b:List UInt8} {k:Value->Prop} (d:k (.bool (decide (a=b)))):aQ (E5 .eql (tx a) (tx b)) k:=by
 refine⟨_,?_,d⟩;show uI .eql _ _=_;simp only[uI];rw[Ij]
theorem Cj {s:ByteArray}:iC (.string s) (.string s)=true:=by simp only[iC];unfold BEq.beq ByteArray.instBEq ByteArray.beq;simp
theorem Da {v:Int} {k:Value->Prop} (h:0<=v/\v<256) (d:k (.int .u8 v)):aQ (mQ .u8 (I v)) k:=⟨_,by
 show some (Value.int .u8 (IntKind.wrap .u8 v))=_;rw[show IntKind.wrap .u8 v=v by simp[IntKind.wrap,IntKind.signed,IntKind.bits];omega],d⟩
theorem F8 {u:Nat} {k:Value->Prop} (h:u<=9223372036854775808) (d:k (I (-((u/10:Nat):Int)))):aQ (Bi .quo (I (-(u:Int))) (I 10)) k:=by
 refine⟨_,?_,d⟩;show mS .quo .i64 (-(u:Int)) 10=_;simp only[mS];rw[Kw (by decide),Int.neg_tdiv,show(u:Int).tdiv 10=((u/10:Nat):Int) from rfl];show some (I (wr _))=_;rw[yE (by omega)]
theorem Fl {u:Nat} {k:Value->Prop} (d:k (I (-((u % 10:Nat):Int)))):aQ (Bi .rem (I (-(u:Int))) (I 10)) k:=by
 refine⟨_,?_,d⟩;show mS .rem .i64 (-(u:Int)) 10=_;simp only[mS];rw[Kw (by decide),Int.neg_tmod,show(u:Int).tmod 10=((u % 10:Nat):Int) from rfl]
theorem Dg:∀(k n:Nat),n<10^(k+1)->Lib.nDigits n<=k+1:=by
 intro k;induction k with
 |zero=>intro n h;rw[Lib.nDigits];split<;>omega
 |succ k d=>
  intro n h;rw[Lib.nDigits];split;omega;have:=d (n/10) (by omega);omega
theorem iR {u:Nat} (h:u<=9223372036854775808):(Lib.decDigits u).length<=19:=by
 rw[Lib.decDigits_length];exact Dg 18 u (by omega)
theorem iM {n:Int} (h: -9223372036854775808<=n/\n<=9223372036854775807):(Lib.itoa n).length<=20:=by
 unfold Lib.itoa;have d:=iR (u:=n.natAbs) (by omega);split;simp;omega;have g:=iR (u:=n.toNat) (by omega);omega
variable {G:Bg} {h:AH} {L L':List HP}
theorem Bj {e:TypeId} {a:Addr} {c:Nat} {v:Nat} {k:Value->Prop} (_m:v<256) (j:Hs G h (mN 1 e (some a) c (1,[.int .u8 v])::L)) (g:k (tx [UInt8.ofNat v])):aQ (strOf h (.slice (some a) 1 c)) k:=by
 have d:=yJ j;simp only[cH] at d;rw[Kw (by decide),Kx (by decide)] at d;refine⟨_,?_,g⟩;simp only[strOf];rw[Kw (by decide)];have d:aG h a 1=some [.int .u8 v]:=d;rw[d];rfl
end Go.Ab
end
namespace Go.Is
open Go Go.Ab
section
def opsL:List (List UInt8×List Int):=[([],[0,0,0]),([115,101,116],[1,2,0]),([97,100,100],[1,1,1]),([108,111,97,100],[1,1,0]),([115,116,111,114,101],[1,1,0]),([115,119,97,112],[1,1,0]),([102,101,110,99,101],[0,0,0]),
  ([119,111,114,108,100],[3,0,0]),([99,97,108,108],[4,1,1]),([106,117,109,112],[5,0,0]),([122,101,114,111],[1,5,0]),([104,97,108,116],[0,0,0])]
def A3:List Value:=opsL.flatMap fun r=>tx r.1::r.2.map I
structure yY where
 op:Int
 a:Int
 b:Int
 c:Int
 deriving DecidableEq
def yY.enc (x:yY):List Value:=[I x.op,I x.a,I x.b,I x.c]
def Ho (o:Nat):List Int:=(opsL.getD o ([],[])).2
def Ki (x:Int):Bool:=decide (1<=x/\x<12)
def Gy (d v many:Int):Bool:=
 if d=1 then decide (0<=v/\v<4) else if d=2 then true else if d=3 then decide (1<=v/\v<=3) else if d=4 then decide (1<=v/\v<=4) else if d=5 then decide (0<=v/\v<=many) else decide (v=0)
def yY.Gf (x:yY):List Int:=[x.a,x.b,x.c]
def yY.H2 (x:yY):List (Int×Int):=(Ho x.op.toNat).zip x.Gf
def Je (x:yY) (many:Int):Int:=if Ki x.op then(if(x.H2.all fun p=>Gy p.1 p.2 many) then 0 else 10) else 15
def used:List (Int×Int)->List Int
 |[]=>[]
 |p::l=>if p.1=0 then [] else p.2::used l
def jR (vs:List Int):List UInt8:=vs.flatMap fun v=>32::Lib.itoa v
def kD (n:Int):Prop:= -9223372036854775808<=n/\n<=9223372036854775807
def yY.kD (x:yY):Prop:=Is.kD x.a/\Is.kD x.b/\Is.kD x.c
theorem fU:∀(l:List Int),(∀v∈l,kD v)->(jR l).length<=l.length*21
 |[],_=>by simp[jR]
 |v::l,h=>by
  have g:=fU l fun w d=>h w (List.mem_cons_of_mem _ d);have j:=iM (h v List.mem_cons_self);have:jR (v::l)=32::Lib.itoa v++jR l:=rfl;rw[this];simp;omega
end
section
theorem Cm:∀(l:List UInt8) (acc:Nat) (m:List UInt8),Lib.parseUint10 acc (l++m)=match Lib.parseUint10 acc l with|.ok a=>Lib.parseUint10 a m|.syntax=> .syntax|.range=> .range
 |[],acc,m=>rfl
 |c::l,acc,m=>by
  simp only[List.cons_append,Lib.parseUint10];split;split;rfl;split;rfl;exact Cm l _ m;rfl
theorem nA {u:Nat} (h:u<=9):(UInt8.ofNat (48+u)).toNat=48+u:=by
 rw[UInt8.toNat_ofNat'];omega
theorem Ai:∀(u:Nat),u<=9223372036854775808->Lib.parseUint10 0 (Lib.decDigits u)= .ok u:=by
 intro u;induction u using Nat.strongRecOn with
 |_ u d=>
  intro g;rw[Lib.decDigits];split;rename_i h;simp only[Lib.parseUint10];have:=nA (u:=u) (by omega);rw[this,Kx (by omega),aaa,aaa];congr 1;omega;rename_i h;rw[Cm,d (u/10) (by omega) (by omega)];simp only[Lib.parseUint10];have:=nA (u:=u % 10) (by omega);rw[this,Kx (by omega),aaa,aaa];congr 1;omega
theorem gU:∀(u:Nat),(∀b∈Lib.decDigits u,48<=b.toNat/\b.toNat<=57)/\Lib.decDigits u≠[]:=by
 intro u;induction u using Nat.strongRecOn with
 |_ u g=>
  rw[Lib.decDigits];split;rename_i h;refine⟨fun b d=>?_,by simp⟩;rw[List.mem_singleton.1 d,nA (by omega)];omega;rename_i h;refine⟨fun b d=>?_,by simp⟩;rcases List.mem_append.1 d with d|d;exact(g (u/10) (by omega)).1 b d;rw[List.mem_singleton.1 d,nA (by omega)];omega
theorem vP {v:Int}:∀b∈Lib.itoa v,b.toNat=45\/(48<=b.toNat/\b.toNat<=57):=by
 intro b d;unfold Lib.itoa at d;split at d;rcases List.mem_cons.1 d with rfl|d;exact .inl rfl;exact .inr ((gU _).1 b d);exact .inr ((gU _).1 b d)
theorem qP {v:Int} (h:kD v):Lib.atoiAll (Lib.itoa v)= .ok v:=by
 unfold kD at h;unfold Lib.itoa;split;rename_i o;obtain⟨g,d⟩:=gU v.natAbs;simp only[Lib.atoiAll];rw[Kx (.inr rfl)];have:Lib.parseMag (Lib.decDigits v.natAbs)= .ok v.natAbs:=by
  unfold Lib.parseMag;rw[Kw d];exact Ai _ (by omega)
 rw[this];simp only;rw[Kw (fun j=>j.1 rfl),aaa,Kx (show UInt8.toNat 45=45 from rfl)];congr 1;omega;rename_i o;obtain⟨g,d⟩:=gU v.toNat;have m:Lib.parseMag (Lib.decDigits v.toNat)= .ok v.toNat:=by
  unfold Lib.parseMag;rw[Kw d];exact Ai _ (by omega)
 cases hd:Lib.decDigits v.toNat with
 |nil=>exact absurd hd d
 |cons c r=>
  have t:=g c (by rw[hd];exact List.mem_cons_self);simp only[Lib.atoiAll];rw[aaa,<-hd,m];simp only;rw[aaa,aaa,aaa];congr 1;omega
def mT (c:UInt8):List UInt8->Option (List UInt8×List UInt8)
 |[]=>none
 |b::l=>if b=c then some ([],l) else(mT c l).map fun x=>(b::x.1,x.2)
theorem uV {c:UInt8}:∀{l:List UInt8},mT c l=none↔c∉l
 |[]=>by simp[mT]
 |b::l=>by
  rw[mT];by_cases h:b=c;simp[h];rw[Kw h,Option.map_eq_none_iff,uV];simp[Ne.symm h]
theorem Cg {c:UInt8}:∀{a:List UInt8} (b:List UInt8),c∉a->mT c (a++c::b)=some (a,b)
 |[],b,_=>by simp[mT]
 |x::a,b,h=>by
  have g:x≠c:=fun e=>h (by simp[e]);have d:c∉a:=fun e=>h (List.mem_cons_of_mem _ e);rw[List.cons_append,mT,Kw g,Cg b d];rfl
def fK (c:UInt8):List UInt8->List (List UInt8)
 |[]=>[[]]
 |b::l=>if b=c then []::fK c l else match fK c l with
  |[]=>[[b]]
  |w::d=>(b::w)::d
theorem pQ {c:UInt8}:∀{l:List UInt8},mT c l=none->fK c l=[l]
 |[],_=>rfl
 |b::l,h=>by
  rw[mT] at h;split at h;cases h;rename_i d;rw[fK,Kw d,pQ (Option.map_eq_none_iff.1 h)]
theorem pI {c:UInt8}:∀{l a b:List UInt8},mT c l=some (a,b)->fK c l=a::fK c b
 |[],a,b,h=>by simp[mT] at h
 |x::l,a,b,h=>by
  rw[mT] at h;split at h;rename_i d;cases h;rw[fK,Kx d];rename_i d;obtain⟨y,j,g⟩:=Option.map_eq_some_iff.1 h;obtain⟨m,o⟩:=y;cases g;rw[fK,Kw d,pI j]
def mD (c:UInt8):List (List UInt8)->List UInt8
 |[]=>[]
 |w::d=>w++d.flatMap fun v=>c::v
theorem oJ {c:UInt8}:∀(d:List (List UInt8)) (w:List UInt8),c∉w->(∀v∈d,c∉v)->fK c (mD c (w::d))=w::d
 |[],w,h,_=>by
  simp only[mD,List.flatMap_nil,List.append_nil];exact pQ (uV.2 h)
 |v::d,w,h,g=>by
  have:mD c (w::v::d)=w++c::mD c (v::d):=by simp[mD]
  rw[this,pI (Cg _ h),oJ d v (g v List.mem_cons_self) fun u j=>g u (List.mem_cons_of_mem _ j)]
end
section
theorem Cn {c:UInt8} (h:c.toNat≠45/\(c.toNat<48\/57<c.toNat)) (v:Int):c∉Lib.itoa v:=fun d=>by
 have:=vP c d;omega
end
end Go.Is
namespace Go.At
open Go Go.Ab Go.Hm Go.Is
section
structure Ev where
 core:Int
 at':Int
 op:Int
 world:Int
 word:Int
 value:Int
 code:Int
 deriving DecidableEq
def Ev.enc (x:Ev):List Value:=[I x.core,I x.at',I x.op,I x.world,I x.word,I x.value,I x.code]
structure C1 where
 D2:Nat->Int
 at':Int
 world:Int
 over:Bool
 prog:List yY
def C1.core (s:C1):List Value:=[I (s.D2 0),I (s.D2 1),I (s.D2 2),I (s.D2 3),I s.at',I s.world,.bool s.over]
def Jg (p:List yY) (a:Int):yY:=p.getD a.toNat ⟨0,0,0,0⟩
def H9 (p:List yY) (a:Int):Bool:=if(p.length:Int)<=a then true else decide ((Jg p a).op=11)
def C1.Ok (s:C1):Prop:=0<=s.at'/\s.at'<=32/\s.over=H9 s.prog s.at'/\s.prog.length<=32/\∀x∈s.prog,Je x s.prog.length=0
end
end Go.At
namespace Go.Sc
open Go Go.Ab Go.Is Go.At
section
theorem oL {c:UInt8}:∀l:List (List UInt8),Lib.join l [c]=mD c l
 |[]=>rfl
 |w::d=>by
  rw[Lib.join_cons];show w++(d.map ([c]++·)).flatten=w++d.flatMap fun v=>c::v;rw[List.flatMap_def];rfl
theorem Bn {a b:Int} (g:kD a) (j:kD b) (h:Lib.itoa a=Lib.itoa b):a=b:=by
 have d:=qP g;rw[h,qP j] at d;injection d with d;exact d.symm
def dK (l:List Int):List UInt8:=mD 32 (l.map Lib.itoa)
theorem map_inj:∀{a b:List Int},(∀v∈a,kD v)->(∀v∈b,kD v)->a.map Lib.itoa=b.map Lib.itoa->a=b
 |[],[],_,_,_=>rfl
 |[],_::_,_,_,h=>by cases h
 |_::_,[],_,_,h=>by cases h
 |x::a,y::b,g,j,h=>by
  injection h with m o;rw[Bn (g x List.mem_cons_self) (j y List.mem_cons_self) m,map_inj (fun v d=>g v (List.mem_cons_of_mem _ d)) (fun v d=>j v (List.mem_cons_of_mem _ d)) o]
theorem jK {x:Int} {l:List Int}:fK 32 (dK (x::l))=(x::l).map Lib.itoa:=by
 refine oJ _ _ (Cn (by decide) x) fun v d=>?_;obtain⟨y,_,rfl⟩:=List.mem_map.1 d;exact Cn (by decide) y
theorem uS {x y:Int} {a b:List Int} (d:∀v∈x::a,kD v) (g:∀v∈y::b,kD v) (h:dK (x::a)=dK (y::b)):x::a=y::b:=by
 refine map_inj d g ?_;rw[<-jK,<-jK,h]
theorem lA {x:Int} {l:List Int}:dK (x::l)=Lib.itoa x++jR l:=by
 show Lib.itoa x++(l.map Lib.itoa).flatMap (fun v=>32::v)=_;rw[List.flatMap_map];rfl
theorem fU:∀{l:List Int},(∀v∈l,kD v)->(jR l).length<=21*l.length
 |[],_=>by simp[jR]
 |x::l,h=>by
  have g:=fU fun v d=>h v (List.mem_cons_of_mem _ d);have j:=iM (h x List.mem_cons_self);have:jR (x::l)=32::Lib.itoa x++jR l:=rfl;rw[this];simp only[List.length_cons,List.length_append];omega
theorem mO {l:List Int} (h:∀v∈l,kD v):(dK l).length<=21*l.length:=by
 cases l with
 |nil=>simp[dK,mD]
 |cons x l=>
  rw[lA];have g:=fU fun v d=>h v (List.mem_cons_of_mem _ d);have j:=iM (h x List.mem_cons_self);simp only[List.length_cons,List.length_append];omega
def B8 (w:List UInt8) (l:List Int):List UInt8:=w++jR l++[10]
def Bm (x:Ev):List Int:=[x.core,x.at',x.op,x.world,x.word,x.value,x.code]
def fM (x:Ev):List UInt8:=dK (Bm x)
theorem wP {x:Ev}:fM x++[10]=B8 (Lib.itoa x.core) [x.at',x.op,x.world,x.word,x.value,x.code]:=by
 unfold fM Bm B8;rw[lA]
theorem zE {x y:Ev} (A:∀v∈Bm x,kD v) (B:∀v∈Bm y,kD v):fM x=fM y↔x=y:=by
 constructor;intro h;have j:=uS A B h;obtain⟨a,b,c,d,e,f,g⟩:=x;obtain⟨C,D,E,I,J,N,O⟩:=y;injection j with j m;injection m with m o;injection o with o r;injection r with r t;injection t with t u;injection u with u z;injection z with z _;subst j m o r t u z;rfl;rintro rfl;rfl
end
end Go.Sc
