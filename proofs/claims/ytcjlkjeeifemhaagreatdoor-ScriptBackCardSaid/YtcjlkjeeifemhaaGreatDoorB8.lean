/- A part of the proof. -/
import Derived.Test.YtcjlkjeeifemhaaGreatDoorB6
import Derived.Test.YtcjlkjeeifemhaaGreatDoorB7
import Derived.Test.YtcjlkjeeifemhaaGreatDoorB5
import Derived.Shelf.Strings.Builder1
import Derived.Shelf.Strings.OnBuilder
import Derived.Shelf.Strconv.Itoa3
import Derived.Shelf.LaysM
import Derived.Shelf.LaysC
import Derived.Shelf.Strings.Search1
import Derived.Shelf.Strings.Count
import Derived.Shelf.Strconv.AtoiAll
import Derived.Test.YtcjlkjeeifemhaaGreatDoorChecked
import Derived.Lib.UnsafeStr
import Derived.LaidLaws
import Derived.MakeChecks
import Derived.WalkKit
import Derived.ProofKit
import Derived.ChangeOld
import Derived.ChangeSame
import Derived.ChangeVars
import Derived.JoinedOf
import Derived.Carry
import Derived.LaidHandle
import Derived.Stop.Joined
section
namespace Go.Ab
noncomputable section
variable {P:Program} {K:FuncId->List Value->Option dU}
def hA:Unit:=Function.const _ () @Cl
def hB:Unit:=Function.const _ () hA
def hC:Unit:=Function.const _ () hB
def hD:Unit:=Function.const _ () hC
def hE:Unit:=Function.const _ () hD
def hG:Unit:=Function.const _ () hE
def hP (p:Prop):Prop:=(fun _:Unit=>p) hG
def hF:Prop:=hP False
inductive Kn where
 |un|ex|b (x:Bool)|sk|no
abbrev Ek:=List (Nat×Value×Kn)
def Ek.lk:Ek->Nat->Option (Value×Kn)
 |[],_=>none
 |(d,v,k)::a,t=>match Nat.beq d t with
  |true=>(match k with
   |.no=>none
   |k=>some (v,k))
  |false=>Ek.lk a t
def cK (a:Ek) (env:List Value):Prop:=∀t v k,a.lk t=some (v,k)->env[t]?=some v/\(∀x,k= .b x->v= .bool x)/\(k= .sk->v=undef)
def j6 (v:Value) (k:Value->Prop):Prop:=match v with
 |.int .i64 n=>k (I n)
 |v=>hP (k v)
def nE (P:Program) (a:Ek) (x:Operand) (k:Value->Prop):Prop:=match x with
 |.tmp t=>(match a.lk t with
  |some (v,_)=>k v
  |none=>hF)
 |.const v=>(match bU v with
  |true=>j6 v k
  |false=>k top)
 |.global g=>(match Nat.blt g P.globals.size with
  |true=>k (.pointer (some ⟨g,0,none⟩))
  |false=>k top)
 |.func f=>k (.func (.func f) #[] #[])
theorem cJ {a:Ek} {env:List Value} (m:cK a env) {x:Operand} {k:Value->Prop} (h:nE P a x k):k (bA P env x):=by
 unfold nE at h;split at h;split at h;rename_i i;have:=(m _ _ _ i).1;simpa only[bA,List.getD_eq_getElem?_getD,this,Option.getD_some] using h;cases h;split at h;rename_i j;simp only[bA,j,if_true];unfold j6 at h;split at h<;>exact h;rename_i j;simpa only[bA,j,Bool.false_eq_true,if_false] using h;split at h;rename_i g _ d;have:g<P.globals.size:=Nat.le_of_ble_eq_true d;simpa only[bA,this,if_true] using h;rename_i g _ d;have:¬g<P.globals.size:=fun i=>by rw[show Nat.blt g P.globals.size=true from Nat.ble_eq_true_of_le i] at d;cases d
 simpa only[bA,this,if_false] using h;exact h
def Wp (P:Program) (a:Ek) (x:Option Operand) (k:Option Value->Prop):Prop:=match x with
 |none=>k none
 |some x=>nE P a x fun v=>k (some v)
theorem Ni {a:Ek} {env:List Value} (d:cK a env) {x:Option Operand} {k:Option Value->Prop} (h:Wp P a x k):k (x.map (bA P env)):=by
 cases x with
 |none=>exact h
 |some x=>exact cJ d h
def Ju (P:Program) (a:Ek):List Operand->(List Value->Prop)->Prop
 |[],k=>k []
 |x::l,k=>nE P a x fun v=>Ju P a l fun d=>k (v::d)
theorem sZ {a:Ek} {env:List Value} (d:cK a env):∀{l:List Operand} {k:List Value->Prop},Ju P a l k->k (l.map (bA P env))
 |[],_,h=>h
 |_::l,k,h=>by
  have g:=cJ d h;have i:=sZ d (l:=l) g;exact i
def ah {α:Type}:List α->(List α->Prop)->Prop
 |[],k=>hP (k [])
 |v::l,k=>ah l fun l=>k (v::l)
theorem Az {α:Type}:∀{l:List α} {k:List α->Prop},ah l k->k l
 |[],_,h=>h
 |_::l,_k,h=>Az (l:=l) h
def Hc (P:Program) (t:TypeId) (k:Nat->Prop):Prop:=match P.info? t with
 |some ⟨_,_,n,_,_,_,_,_,_,_⟩=>k n
 |none=>hF
theorem kG {t:TypeId} {k:Nat->Prop} (h:Hc P t k):(P.info? t).isSome=true/\k (P.cellsOf t):=by
 unfold Hc at h;split at h;rename_i d;exact⟨by rw[d];rfl,by unfold Program.cellsOf;rw[d];exact h⟩;cases h
def A7 (P:Program) (a:Ek) (place:Nat->(Nat->Nat->Prop)->Prop):List (Nat×Operand)->(List (Nat×Nat×Value)->Prop)->Prop
 |[],k=>k []
 |(i,x)::rest,k=>place i fun d size=>nE P a x fun v=>A7 P a place rest fun l=>k ((d,size,v)::l)
theorem uE {a:Ek} {env:List Value} (d:cK a env) {place:Nat->(Nat->Nat->Prop)->Prop} {pl:Nat->Option (Nat×Nat)} (g:∀i k,place i k->∃o s,pl i=some (o,s)/\k o s):
  ∀{l:List (Nat×Operand)} {k:List (Nat×Nat×Value)->Prop},A7 P a place l k->∃r,pJ pl (bA P env) l=some r/\k r
 |[],_,h=>⟨_,rfl,h⟩
 |(i,x)::rest,_,h=>by
  obtain⟨o,s,j,m⟩:=g _ _ h;obtain⟨r,q,t⟩:=uE d g (cJ d m);exact⟨_,by simp only[pJ,j,q],t⟩
def qb (P:Program) (fs:Array Field) (i:Nat) (k:Nat->Nat->Prop):Prop:=match fs[i]? with
 |some ⟨_,t,d,_,_,_,_⟩=>Hc P t fun n=>k d n
 |none=>hF
theorem jo {fs:Array Field} (i:Nat) (k:Nat->Nat->Prop) (h:qb P fs i k):∃o s,((fs[i]?).map fun f=>(f.offset,P.cellsOf f.type))=some (o,s)/\k o s:=by
 unfold qb at h;split at h;rename_i d;exact⟨_,_,by rw[d];rfl,(kG h).2⟩;cases h
def rb (n:Nat) (i:Nat) (k:Nat->Nat->Prop):Prop:=hP (k (i*n) n)
def wZ (P:Program) (t:TypeId) (k:List Value->Prop):Prop:=match zeroOf P t with
 |some z=>ah z k
 |none=>hF
theorem Q1 {t:TypeId} {k:List Value->Prop} (h:wZ P t k):∃z,zeroOf P t=some z/\k z:=by
 unfold wZ at h;split at h;exact⟨_,by assumption,Az h⟩;cases h
def lx (l:List Nat):Nat->List Nat->List Nat
 |0,acc=>acc
 |n+1,acc=>lx l n (l++acc)
def kF (P:Program):Nat->TypeId->Option (List Nat)
 |0,_=>none
 |d+1,t=>match P.underlying t with
  |some .bool=>some [1]
  |some (.int _)=>some [0]
  |some .string=>some [2]
  |some (.array n e)=>(match kF P d e with
   |some l=>some (lx l n [])
   |none=>none)
  |some (.struct g)=>g.toList.foldr (fun f r=>match kF P d f.type,r with
   |some a,some b=>some (a++b)
   |_,_=>none) (some [])
  |_=>none
def q6:Option (List Nat)->List Nat->Bool
 |some l,m=>l==m
 |none,_=>false
theorem Z1 {o:Option (List Nat)} {l:List Nat} (h:q6 o l=true):o=some l:=by
 unfold q6 at h;grind
def wB (P:Program) (op:BinOp) (t:TypeId) (x y:Operand) (a b:Value) (q:Value->Prop):Prop:=
 match P.underlying t with
 |some (.int _)=>aK (vM op a b) q
 |some .string=>aK (Hb op a b) q
 |some .bool=>aK (Oy op a b) q
 |some (.pointer _)=>aK (K8 op a b) q
 |some (.slice _)=>aK (Kr op a b) q
 |some (.func _ _ _)=>aK (N1 op a b) q
 |some (.interface _)=>(match isConst x||isConst y with
  |true=>aK (Hq true op a b) q
  |false=>aK (Hq false op a b) q)
 |some (.struct _)|some (.array _ _)=>(match kF P 20 t with
  |some d=>ah d fun d=>O5 (q6 (yS P t) d) d op a b q
  |none=>hF)
 |_=>hF
theorem oa {op:BinOp} {t:TypeId} {x y:Operand} {a b:Value} {q:Value->Prop} (h:wB P op t x y a b q):J4 P op t x y a b q aK:=by
 unfold wB at h;unfold J4;split at h;case h_7=>
  grind
 case h_8=>
  rename_i d;rw[d];split at h;obtain⟨g,h⟩:=Az h;simp only[Z1 g];exact h;cases h
 case h_9=>
  rename_i d;rw[d];split at h;obtain⟨g,h⟩:=Az h;simp only[Z1 g];exact h;cases h
 all_goals first|(rename_i d;rw[d];exact h)|cases h
def wL (P:Program) (a:Ek) (h:AH) (q:Value->Prop):Op->Prop
 |.move x=>nE P a x q
 |.assign x=>nE P a x q
 |.pick c x y=>nE P a c fun c=>nE P a x fun x=>nE P a y fun y=>aK (nZ c x y) q
 |.build t j=>wZ P t fun z=>(match P.underlying t with
  |some (.struct r)=>(match r.toList.all (fun f=>(P.info? f.type).isSome) with
   |true=>A7 P a (qb P r) j.toList fun l=>aK (jS z l) fun c=>q (.agg ⟨c⟩)
   |false=>hF)
  |some (.array _ e)=>Hc P e fun n=>A7 P a (rb n) j.toList fun l=>aK (jS z l) fun c=>q (.agg ⟨c⟩)
  |_=>hF)
 |.load t x=>nE P a x fun x=>(match eF P t with
  |some true=>Hc P t fun n=>aK (sW h n x) q
  |some false=>aK (vH h x) q
  |none=>hF)
 |.nilCheck x=>nE P a x fun x=>aK (uH x) q
 |.binOp op t x y _=>nE P a x fun u=>nE P a y fun v=>wB P op t x y u v q
 |.unOp op _ x=>nE P a x fun x=>aK (Kq op x) q
 |.convert s d x=>nE P a x fun x=>(match P.underlying s with
  |some .string=>(match P.underlying d with
   |some (.int k)=>aK (jL k x) q
   |some .string=>aK (mP x) q
   |_=>hF)
  |some (.slice e)=>(match P.underlying d with
   |some .string=>(match P.underlying e with
    |some (.int .u8)=>aK (strOf h x) q
    |_=>hF)
   |_=>hF)
  |some _=>(match P.underlying d with
   |some (.int k)=>aK (jL k x) q
   |_=>hF)
  |none=>hF)
 |.makeInterface t x=>nE P a x fun x=>(match P.underlying t with
  |some (.interface _)=>hF
  |some _=>q (.iface t x)
  |none=>hF)
 |.makeFunc D first g=>(match D with
  |.func f=>Ju P a first.toList fun x=>Ju P a g.toList fun y=>q (.func (.func f) ⟨x⟩ ⟨y⟩)
  |_=>hF)
 |.slice t x B A C=>nE P a x fun x=>Wp P a B fun B=>Wp P a A fun A=>Wp P a C fun C=>(match P.underlying t with
  |some (.slice e)=>Hc P e fun n=>aK (sL n h x B A C) q
  |some (.array n e)=>Hc P e fun m=>aK (P0 n m x B A C) q
  |some .string=>(match C with
   |none=>aK (Ha x B A) q
   |some _=>hF)
  |_=>hF)
 |.fieldAddr s x f=>nE P a x fun x=>(match P.underlying s with
  |some (.struct r)=>(match r[f]? with
   |some ⟨_,t,o,_,_,_,_⟩=>Hc P t fun n=>(match Nat.beq n 0 with
    |true=>hF
    |false=>aK (qF o x) q)
   |none=>hF)
  |_=>hF)
 |.field t x f=>nE P a x fun x=>(match P.underlying t with
  |some (.struct r)=>(match r[f]? with
   |some ⟨_,t,o,_,_,_,_⟩=>(match eF P t with
    |some true=>Hc P t fun n=>aK (mI o n x) q
    |some false=>aK (mL o x) q
    |none=>hF)
   |none=>hF)
  |_=>hF)
 |.indexAddr t x i=>nE P a x fun x=>nE P a i fun i=>(match P.underlying t with
  |some (.array n e)=>Hc P e fun m=>aK (oK n m x i) q
  |some (.slice e)=>Hc P e fun m=>aK (kK m x i) q
  |_=>hF)
 |.index t x i=>nE P a x fun x=>nE P a i fun i=>(match P.underlying t with
  |some (.array n e)=>Hc P e fun m=>(match eF P e with
   |some true=>aK (P1 n m x i) q
   |some false=>aK (Ku n m x i) q
   |none=>hF)
  |some .string=>aK (Pn x i) q
  |_=>hF)
 |.extract t i=>nE P a t fun t=>aK (sB i t) q
 |.lookup t x ix ok=>nE P a x fun x=>nE P a ix fun ix=>(match wI P t with
  |some e=>(match zeroV P e with
   |some z=>aK (nb z h x ix ok) q
   |none=>hF)
  |none=>hF)
 |_=>hF
theorem lj {a:Ek} {env:List Value} (g:cK a env) {h:AH} {q:Value->Prop} {op:Op} (d:wL P a h q op):eH P (bA P env) h q op:=by
 unfold wL at d;split at d;case h_1=>exact cJ g d
 case h_2=>exact cJ g d
 case h_3=>exact cJ g (cJ g (cJ g d))
 case h_4=>
  obtain⟨z,C,d⟩:=Q1 d;unfold eH;simp only[C];split at d;rename_i u;simp only[u];split at d;rename_i o;rw[Array.all_toList] at o;simp only[o,if_true];obtain⟨r,m,t⟩:=uE g jo d;grind;cases d;rename_i e u;simp only[u];obtain⟨A,d⟩:=kG d;simp only[A,if_true];obtain⟨r,m,t⟩:=uE (pl:=fun i=>some (i*P.cellsOf e,P.cellsOf e)) g (fun i k B=>⟨_,_,rfl,B⟩) d;grind;cases d
 case h_5=>
  have d:=cJ g d;unfold eH;split at d;rename_i u;simp only[u];exact(kG d).2;grind;cases d
 case h_6=>exact cJ g d
 case h_7=>exact oa (cJ g (cJ g d))
 case h_8=>exact cJ g d
 case h_9=>
  have d:=cJ g d;unfold eH;split at d;rename_i j;simp only[j];split at d<;>first|(rename_i s;simp only[s];exact d)|cases d
  rename_i j;simp only[j];split at d;rename_i s;simp only[s];split at d<;>first|(rename_i s;simp only[s];exact d)|cases d
  cases d;rename_i m t j;simp only[j];split at d<;>first|(rename_i s;simp only[s];exact d)|cases d
  cases d
 case h_10=>
  have d:=cJ g d;unfold eH;split at d;cases d;grind;cases d
 case h_11=>
  unfold eH;split at d;have d:=sZ g (sZ g d);simpa only[List.map_toArray,<-Array.toList_map] using d;cases d
 case h_12=>
  have d:=Ni g (Ni g (Ni g (cJ g d)));unfold eH;split at d;rename_i j;simp only[j];obtain⟨m,t⟩:=kG d;grind;rename_i j;simp only[j];obtain⟨m,t⟩:=kG d;grind;rename_i j;simp only[j];split;exact d;exact d.elim;cases d
 case h_13=>
  have d:=cJ g d;unfold eH;split at d;rename_i j;simp only[j];split at d;rename_i v;simp only[v];obtain⟨_,d⟩:=kG d;split at d;cases d;rename_i x;rw[tt (fun e=>by rw[e] at x;cases x)];exact d;cases d;cases d
 case h_14=>
  have d:=cJ g d;unfold eH;split at d;rename_i j;simp only[j];split at d;rename_i v;simp only[v];split at d;rename_i y;simp only[y];exact(kG d).2;grind;cases d;cases d;cases d
 case h_15=>
  have d:=cJ g (cJ g d);unfold eH;split at d;rename_i j;simp only[j];obtain⟨m,t⟩:=kG d;grind;rename_i j;simp only[j];obtain⟨m,t⟩:=kG d;grind;cases d
 case h_16=>
  have d:=cJ g (cJ g d);unfold eH;split at d;rename_i j;simp only[j];obtain⟨m,d⟩:=kG d;simp only[m,if_true];split at d;grind;grind;cases d;grind;cases d
 case h_17=>exact cJ g d
 case h_18=>
  have d:=cJ g (cJ g d);unfold eH;split at d;rename_i j;simp only[j];split at d;grind;cases d;cases d
 case h_19=>cases d
end
end Go.Ab
end
section
namespace Go.Ab
noncomputable section
variable {P:Program} {K:FuncId->List Value->Option dU}
def tf (v:Value) (p:Prop):Prop:=∃k n,v= .int k n/\p
def lits:List Nat:=[0,1,2,3,4,5,6,7,8,9,10,11,12,13,14,15,16,17,18,19,20,21,22,23,24,25,26,27,28,29,30,31,32,33,34,35,36,37,38,39,40,41,42,43,44,45,46,47,48,49,50,51,52,53,54,55,56,57,58,59,60,61,62,63,64,65,66,67,68,69,70,71,72,73,74,75,76,77,78,79,80,81,82,83,84,85,86,87,88,89,90,91,92,93,94,95,96,97,98,99]
def nK (n:Nat) (k:Nat->Prop):Prop:=match lits[n]? with
 |some m=>(match Nat.beq m n with
  |true=>k m
  |false=>hF)
 |none=>k n
theorem Qg {n:Nat} {k:Nat->Prop} (h:nK n k):k n:=by
 unfold nK at h;split at h;split at h;simp_all;cases h;exact h
def mz (P:Program) (t:TypeId) (k:Nat->Prop):Prop:=match P.info? t with
 |some ⟨_,_,_,n,_,_,_,_,_,_⟩=>k n
 |none=>hF
theorem bm {t:TypeId} {k:Nat->Prop} (h:mz P t k):k (P.bytesOf t):=by
 unfold mz at h;split at h;rename_i d;unfold Program.bytesOf;rw[d];exact h;cases h
def mu (P:Program) (h:AH) (q:Value->AH->Prop) (i:Array TypeId):Builtin->List Value->Prop
 |.len,[x]=>match(i[0]?).bind P.underlying with
  |some .string=>aK (rX x) fun v=>q v h
  |some (.slice _)=>aK (eO x) fun v=>q v h
  |some (.array n _)=>q (I n) h
  |some (.pointer e)=>(match P.underlying e with
   |some (.array n _)=>q (I n) h
   |_=>hF)
  |some (.map _ _)=>aK (X1 h x) fun v=>q v h
  |_=>hF
 |.append,[s,x]=>match(i[0]?).bind P.underlying with
  |some (.slice e)=>(match yX P i with
   |true=>wZ P e fun _=>Hc P e fun n=>mz P e fun m=>aK (gF n m e h s x) fun r=>(match r with|(v,g)=>q v g)
   |false=>hF)
  |_=>hF
 |.copy,[d,x]=>match(i[0]?).bind P.underlying with
  |some (.slice e)=>Hc P e fun n=>aK (copyV n h d x) fun r=>(match r with|(v,g)=>q v g)
  |_=>hF
 |.clear,[x]=>match(i[0]?).bind P.underlying with
  |some (.slice e)=>wZ P e fun z=>aK (iP z h x) fun r=>(match r with|(v,g)=>q v g)
  |_=>hF
 |.min,[x,y]=>aK (sA x y) fun v=>q v h
 |.max,[x,y]=>aK (sN x y) fun v=>q v h
 |.delete,[m,k]=>(match i[0]? with
  |some t=>(match wI P t with
   |some _=>aK (Pz h m k) fun g=>q (.tuple #[]) g
   |none=>hF)
  |none=>hF)
 |.cap,[x]=>match(i[0]?).bind P.underlying with
  |some (.slice _)=>aK (cg x) fun v=>q v h
  |_=>hF
 |_,_=>hF
theorem ba {h:AH} {q:Value->AH->Prop} {j:Array TypeId} {b:Builtin} {l:List Value} (d:mu P h q j b l):nL P h q j b l:=by
 unfold mu at d;unfold nL;split at d;split at d<;>(rename_i g;simp only[g];exact d);split at d;rename_i g;simp only[g];split at d;rename_i m;obtain⟨z,i,d⟩:=Q1 d;obtain⟨_,d⟩:=kG d;rw[tu ⟨m,by rw[i];rfl⟩];exact bm d;cases d;cases d;split at d;rename_i g;simp only[g];obtain⟨o,d⟩:=kG d;grind;cases d;split at d;rename_i g;simp only[g];obtain⟨z,i,d⟩:=Q1 d;grind;cases d;exact d;exact d;split at d;rename_i g;simp only[g];split at d;grind;cases d;cases d;split at d;rename_i g;simp only[g];exact d;cases d;cases d
def wH (P:Program) (K:FuncId->List Value->Option dU) (a:Ek) (h:AH) (q:Value->AH->Prop):Op->Prop
 |.store t p x=>Hc P t fun n=>nE P a p fun p=>nE P a x fun x=>aK (vI h n p x) fun d=>q undef d
 |.call c=>(match c.callee with
  |.builtin b=>Ju P a c.args.toList fun l=>mu P h q c.argTypes b l
  |.value (.func g)=>(match eA P g with
   |true=>Ju P a c.args.toList fun l=>Cl P K g l h q
   |false=>hF)
  |.value f=>nE P a f fun f=>Ju P a c.args.toList fun l=>yC P K f l h q
  |.invoke _ _=>hF)
 |.mapUpdate t m k x=>(match wI P t with
  |some _=>nE P a m fun m=>nE P a k fun k=>nE P a x fun x=>aK (Of h m k x) fun d=>q undef d
  |none=>hF)
 |_=>hF
theorem di {a:Ek} {env:List Value} (g:cK a env) {h:AH} {q:Value->AH->Prop} {op:Op} (d:wH P K a h q op):rV P K (bA P env) h q op:=by
 unfold wH at d;unfold rV;split at d;obtain⟨j,d⟩:=kG d;simp only[j,if_true];exact cJ g (cJ g d);split at d;rename_i i;simp only[i];exact ba (sZ g d);rename_i i;simp only[i];split at d;rename_i m;simp only[m,if_true];exact sZ g d;cases d;rename_i i;simp only[i];exact sZ g (cJ g d);cases d;split at d;rename_i o;simp only[o];exact cJ g (cJ g (cJ g d));cases d;cases d
def wA (P:Program) (a:Ek) (mk:hZ->(Nat->AH->Prop)->Prop) (yK:Nat->TypeId->List Value->Nat->Nat->(Value->AH->Prop)->Prop) (q:Value->AH->Prop):Op->Prop
 |.alloc e=>wZ P e fun z=>mk (.cells z e (0,0) true) fun p d=>q (pt p 0 0) d
 |.box e x=>nE P a x fun x=>aK (hQ e x) fun b=>mk b fun p d=>q (pt p 0 0) d
 |.buildSlice t len g=>match P.underlying t with
  |some (.slice e)=>wZ P e fun z=>Hc P e fun n=>(match Nat.ble (len*n) 16777216 with
   |true=>A7 P a (rb n) g.toList fun i=>ah (cS z len) fun j=>aK (jS j i) fun l=>yK n e l len len q
   |false=>hF)
  |_=>hF
 |.makeSlice t l c=>match P.underlying t with
  |some (.slice e)=>wZ P e fun z=>Hc P e fun n=>mz P e fun m=>nE P a l fun l=>nE P a c fun c=>aK (oh m l c) fun r=>yK n e (cS z r.2) r.1 r.2 q
  |_=>hF
 |.makeMap _ none=>mk (.map [] 0) fun p d=>q (Cx p) d
 |.makeMap t (some x)=>match P.underlying t with
  |some (.map _ _)=>nE P a x fun x=>tf x (mk (.map [] 0) fun p d=>q (Cx p) d)
  |_=>hF
 |_=>hF
where oh:=Go.Ab.yK
theorem jd {a:Ek} {env:List Value} (g:cK a env) {mk:hZ->(Nat->AH->Prop)->Prop} {yK:Nat->TypeId->List Value->Nat->Nat->(Value->AH->Prop)->Prop}
  (u:∀W e l n c k,yK W e l n c k->mk (.cells l e (0,0) true) fun p o=>k (Sl n c p) o) {q:Value->AH->Prop} {op:Op} (d:wA P a mk yK q op):
  rR P (bA P env) (fun b f=>mk b fun i o=>q (f i) o) op:=by
 unfold wA at d
 unfold rR
 split at d
 .obtain⟨z,m,d⟩:=Q1 d;simp only[m];exact d
 .exact cJ g d
 .split at d
  .rename_i j;simp only[j];obtain⟨z,m,d⟩:=Q1 d;obtain⟨_,d⟩:=kG d;simp only[m];split at d
   .rename_i x;rw[tu (Nat.le_of_ble_eq_true x)];obtain⟨r,t,d⟩:=uE (pl:=fun i=>some (i*P.cellsOf _,P.cellsOf _)) g (fun i k y=>⟨_,_,rfl,y⟩) d;simp only[t];exact(Az d).mono fun v s=>u _ _ _ _ _ _ s
   .cases d
  .cases d
 .split at d
  .rename_i j;simp only[j];obtain⟨z,m,d⟩:=Q1 d;obtain⟨_,d⟩:=kG d;simp only[m];exact(cJ g (cJ g (bm d))).mono fun v s=>u _ _ _ _ _ _ s
  .cases d
 .exact d
 .split at d
  .rename_i j;simp only[j];obtain⟨k,n,t,d⟩:=cJ g d;grind
  .cases d
 .cases d
end
end Go.Ab
end
section
namespace Go.Ab
variable {P:Program} {K:FuncId->List Value->Option dU} {G:Bg} {h:AH} {L L' M:List HP}
abbrev ME:=Nat×Value×Nat
def fc (es:List ME):List (Value×Value×Nat):=es.map fun x=>(I x.1,x.2.1,x.2.2)
def r8 (n:Int):List ME->Nat->Option (Nat×Value)
 |[],_=>none
 |x::d,i=>if n=(x.1:Int) then some (i,x.2.1) else r8 n d (i+1)
structure qa (es:List ME) (clock:Nat):Prop where
 nd:(es.map (·.1)).Nodup
 st:∀x∈es,x.2.2<clock
 sd:(es.map (·.2.2)).Nodup
 kb:∀x∈es,x.1<16
def Tc (es:List ME) (k:Nat):Option Value:=(r8 k es 0).map (·.2)
def K5 (b:Nat) (f:Nat->Option Value):HP:=B9 fun x:List ME×Nat=>sp [Kw (qa x.1 x.2/\∀k,Tc x.1 k=f k),ot b (.map (fc x.1) x.2)]
theorem Rt {b:Nat} {f:Nat->Option Value} {es:List ME} {cl:Nat} (d:qa es cl) (g:∀k,Tc es k=f k) (i:Hs G h (ot b (.map (fc es) cl)::L)):Hs G h (K5 b f::L):=
 Hs.B8 (A:=fun x:List ME×Nat=>sp [Kw (qa x.1 x.2/\∀k,Tc x.1 k=f k),ot b (.map (fc x.1) x.2)]) (es,cl) (Hs.pack (A:=[_,_]) (Hs.nk ⟨d,g⟩ i))
theorem Vj {k:Nat->AH->Prop} (i:Hs G h L) (g:∀p d,Hs G d (K5 p (fun _=>none)::L)->k p d):tX h (.map [] 0) k:=
 g _ _ (Rt (es:=[]) (cl:=0) ⟨by simp,by simp,by simp,by simp⟩ (fun _=>rfl) (i.de rfl))
theorem uB {f:FuncId} {args:List Value} {F:AH->Option (Value×AH)} {v:Value} {h':AH} {Q:Value->AH->Prop} (d:K f args=some (.host F)) (hF:F h=some (v,h')) (g:Q v h'):Cl P K f args h Q:=by
 refine⟨1,(⟨.eM,[],[],v⟩,h'),?_,g⟩;show fJ P K (fun t h=>run P K 0 t h) f args h=_;unfold fJ;rw[d];simp only[hF,Option.map_some]
end Go.Ab
end
section
namespace Go.Ab
variable {P:Program} {K:FuncId->List Value->Option dU} {G:Bg} {h:AH} {L L' M:List HP}
class Fx {α:Type} (enc:α->List Value) (W:outParam Nat):Prop where
 len:∀x,(enc x).length=W
 mw:∀x,(enc x).all cT=true
def eL {α:Type} (enc:α->List Value) (l:List α):List Value:=l.flatMap enc
section
variable {α:Type} {enc:α->List Value} {W:Nat} [F:Fx enc W]
omit F in
@[simp] theorem dw:eL enc []=[]:=rfl
omit F in
theorem kS {x:α} {l:List α}:eL enc (x::l)=enc x++eL enc l:=rfl
omit F in
theorem Va {l m:List α}:eL enc (l++m)=eL enc l++eL enc m:=by simp[eL]
theorem Gh {l:List α}:(eL enc l).length=l.length*W:=by
 induction l with
 |nil=>simp
 |cons x l d=>rw[kS,List.length_append,F.len,d,List.length_cons,Nat.succ_mul];omega
include F in
theorem M0 {l:List α}:(eL enc l).all cT=true:=by
 induction l with
 |nil=>rfl
 |cons x l d=>rw[kS,List.all_append,F.mw,d];rfl
theorem N5 {l:List α}:∀{i:Nat},(eL enc l).drop (i*W)=eL enc (l.drop i):=by
 induction l with
 |nil=>intro i;simp
 |cons x l d=>
  intro i;cases i with
  |zero=>simp
  |succ i=>
   rw[kS,List.drop_succ_cons,Nat.succ_mul,List.drop_append,List.drop_of_length_le (by rw[F.len];omega),F.len,show i*W+W - W=i*W by omega,d,List.nil_append]
theorem Y8 {l:List α}:∀{i:Nat},(eL enc l).take (i*W)=eL enc (l.take i):=by
 induction l with
 |nil=>intro i;simp
 |cons x l d=>
  intro i;cases i with
  |zero=>simp
  |succ i=>
   rw[kS,List.take_succ_cons,kS,Nat.succ_mul,List.take_append,List.take_of_length_le (by rw[F.len];omega),F.len,show i*W+W - W=i*W by omega,d]
theorem j3 {l:List α} {i:Nat} {x:α} (h:l[i]?=some x):((eL enc l).drop (i*W)).take W=enc x:=by
 obtain⟨g,d⟩:=List.getElem?_eq_some_iff.1 h;rw[N5,List.drop_eq_getElem_cons g,kS,d];exact List.take_left' (F.len x)
theorem X2 {l:List α} {i j:Nat} {x:α} {v:Value} (h:l[i]?=some x) (g:(enc x)[j]?=some v):(eL enc l)[i*W+j]?=some v:=by
 have d:=j3 (enc:=enc) h;grind
theorem fi {l:List α} {i:Nat} {y:α} (d:i<l.length):kR (eL enc l) (i*W) (enc y)=eL enc (l.set i y):=by
 rw[<-gX _ _ _ (by rw[Gh,F.len,<-Nat.succ_mul];exact Nat.mul_le_mul_right _ d)];unfold aQ;rw[Y8,F.len,<-Nat.succ_mul,N5,List.set_eq_take_append_cons_drop,tu d,Va,kS,List.append_assoc]
def ls (enc:α->List Value) (W:Nat) (e:TypeId) (a:Option Addr) (c:Nat) (l:List α):HP:=cB W e a c (l.length,eL enc l)
omit F in
theorem vX [Fx enc W] {e:TypeId} (d:Hs G h L):Hs G h (ls enc W e none 0 []::L):=eU d
variable {e:TypeId} {a:Option Addr} {c:Nat} {l:List α}
omit F in
theorem fk {x:α} (d:Hs G h (cB W e a c (1,enc x)::L)):Hs G h (ls enc W e a c [x]::L):=by
 unfold ls;rw[kS,dw,List.append_nil];exact d
theorem j4 {i:Int} {j:Nat} {x:α} {u:Value} {k:Value->Prop} (r:Hs G h L) [m:Has (ls enc W e a c) L l L'] (g:0<=i) (d:l[i.toNat]?=some x) (s:(enc x)[j]?=some u) (o:k u):aK (kK W (.slice a l.length c) (I i)) fun p=>aK (qF j p) fun q=>aK (vH h q) k:=by
 obtain⟨n,rfl⟩:=Int.eq_ofNat_of_zero_le g;rw[Int.toNat_natCast] at d;exact Tq (e:=e) (cs:=eL enc l) (show Hs G h (cB W e a c (l.length,eL enc l)::L') from m.of r) (List.getElem?_eq_some_iff.1 d).1 (X2 d s) o
theorem W6 {i:Int} {y:α} {k:AH->Prop} (q:Hs G h L) [m:Has (ls enc W e a c) L l L'] (hW:0<W) (s:0<=i) (u:i<l.length) (t:∀g,Hs G g (ls enc W e a c (l.set i.toNat y)::L')->k g):aK (kK W (.slice a l.length c) (I i)) fun p=>aK (vI h W p (.agg ⟨enc y⟩)) k:=by
 obtain⟨n,rfl⟩:=Int.eq_ofNat_of_zero_le s;have j:n<l.length:=by omega
 have q:Hs G h (cB W e a c (l.length,eL enc l)::L'):=m.of q;obtain⟨b,o,rfl,r⟩:=q.iD (by omega);refine gB j ?_;rw[show pt b (o+n*W) 0=pt b o (n*W) by simp[pt]];have hle:n*W+W<=(eL enc l).length:=by rw[Gh,<-Nat.succ_mul];exact Nat.mul_le_mul_right _ j
 refine dL r (F.len y) (Nat.ble_eq_true_of_le hle) (F.mw y) (Nat.ble_eq_true_of_le (by omega)) fun g d=>?_;rw[fi j] at d;have:=t g;rw[Int.toNat_natCast] at this;refine this ?_;unfold ls;rw[List.length_set];exact Hs.wM d (by rw[Gh,List.length_set]) M0
omit F in
theorem Zn [Fx enc W] {bytes c2:Nat} {a2:Option Addr} {l2:List α} {k:Value×AH->Prop} (u:Hs G h L) [m:Has (ls enc W e a c) L l L'] [m2:Has (ls enc W e a2 c2) L' l2 M] (s:(l.length+l2.length)*(bytes+1)<=2^46)
  (t:∀d g i,Hs G i (ls enc W e d g (l++l2)::ls enc W e a2 c2 l2::M)->k (.slice d (l++l2).length g,i)):aK (gF W bytes e h (.slice a l.length c) (.slice a2 l2.length c2)) k:=by
 have o:=m.of u
 have q:Hs G h (ls enc W e a2 c2 l2::ls enc W e a c l::M):=(o.perm ((m2.perm.cons _).trans (List.Perm.swap _ _ _)))
 have r:Hs G h (cB W e a c (l.length,eL enc l)::cB W e a2 c2 (l2.length,eL enc l2)::M):=q.pS
 refine pA r s fun d g i j=>?_
 have:=t d g i
 unfold ls at this
 rw[List.length_append,Va] at this
 exact this j
end
end Go.Ab
end
namespace Go.Hm
open Go Go.Ab
section
structure aZ where
 aS:Int
 cH:Int
 xW:Int
 ways:Int
 depth:Int
 entries:Int
 aF:Int
 deriving DecidableEq
def aZ.list (C:aZ):List Int:=[C.aS,C.cH,C.xW,C.ways,C.depth,C.entries,C.aF]
def aZ.enc (C:aZ):List Value:=[I C.aS,I C.cH,I C.xW,I C.ways,I C.depth,I C.entries,I C.aF]
def dq:List Int:=[4,16,8,4,16,8,4]
def jM:List Value:=[I 4,I 16,I 8,I 4,I 16,I 8,I 4]
def aZ.Kt (C:aZ):Nat->Nat->Int
 |0,_=>0
 |f+1,i=>if C.list.getD i 0<1\/dq.getD i 0<C.list.getD i 0 then 10 else C.Kt f (i+1)
def aZ.Ok (C:aZ):Prop:=(1<=C.aS/\C.aS<=4)/\(1<=C.cH/\C.cH<=16)/\(1<=C.xW/\C.xW<=8)/\(1<=C.ways/\C.ways<=4)/\(1<=C.depth/\C.depth<=16)/\(1<=C.entries/\C.entries<=8)/\(1<=C.aF/\C.aF<=4)
instance (C:aZ):Decidable C.Ok:=by unfold aZ.Ok;infer_instance
theorem aZ.jg (C:aZ):C.Kt 7 0=if C.Ok then 0 else 10:=by
 simp only[aZ.Kt,aZ.list,dq,List.getD_cons_zero,List.getD_cons_succ];by_cases h:C.Ok;rw[tu h];unfold aZ.Ok at h;repeat rw[aab]
 .rw[tt h];unfold aZ.Ok at h;repeat' split
  all_goals first|rfl|(exfalso;omega)
def aZ.lines (C:aZ):Nat:=(C.cH*2).toNat
theorem aZ.fC {C:aZ} (h:C.Ok):(C.lines:Int)=C.cH*2/\2<=C.lines/\C.lines<=32:=by
 unfold aZ.Ok at h;unfold aZ.lines;omega
end
section
abbrev Ln:=Int×Int
def Se (l:Ln):List Value:=[I l.1,I l.2]
def gI (n B i:Nat):Nat:=(n+B - 1 - i)/B
theorem Q5 {B i:Nat} (d:i<B):gI 0 B i=0:=Nat.div_eq_of_lt (by omega)
theorem Ej {n B i:Nat} (m:i<B):gI (n+1) B i=if i=n % B then gI n B i+1 else gI n B i:=by
 have d:=Nat.div_add_mod n B;have j:=Nat.mod_lt n (show 0<B by omega);unfold gI;generalize n/B=q at d;generalize n % B=r at d j ⊢;subst d;split;rename_i h;subst h;rw[show B*q+i+1+B - 1 - i=B*q+B by omega,show B*q+i+B - 1 - i=B*q+(B - 1) by omega];rw[Nat.mul_add_div (by omega),Nat.mul_add_div (by omega),Nat.div_self (by omega),Nat.div_eq_of_lt (show B - 1<B by omega)];rename_i h;rcases Nat.lt_or_ge i r with g|g;rw[show B*q+r+1+B - 1 - i=B*q+(B+(r - i)) by omega,show B*q+r+B - 1 - i=B*q+(B+(r - i - 1)) by omega];rw[Nat.mul_add_div (by omega),Nat.mul_add_div (by omega),Nat.add_div_left _ (by omega),Nat.add_div_left _ (by omega),Nat.div_eq_of_lt (show r - i<B by omega),Nat.div_eq_of_lt (show r - i - 1<B by omega)];rw[show B*q+r+1+B - 1 - i=B*q+(B+r - i) by omega,show B*q+r+B - 1 - i=B*q+(B+r - i - 1) by omega];rw[Nat.mul_add_div (by omega),Nat.mul_add_div (by omega),Nat.div_eq_of_lt (show B+r - i<B by omega),Nat.div_eq_of_lt (show B+r - i - 1<B by omega)]
theorem Ou {n B l:Nat} (hB:0<B) (g:l<n):l/B<gI n B (l % B):=by
 unfold gI;have d:=Nat.div_add_mod l B;have i:=Nat.mod_lt l hB;rw[Nat.lt_div_iff_mul_lt hB];rw[Nat.mul_comm];generalize B*(l/B)=q at d ⊢;omega
theorem F4 {B l k i:Nat} (d:i<B):k*B+i=l↔k=l/B/\i=l % B:=by
 constructor;intro h;subst h;rw[Nat.mul_comm,Nat.mul_add_div (by omega),Nat.mul_add_mod,Nat.div_eq_of_lt d,Nat.mod_eq_of_lt d];simp;rintro ⟨rfl,rfl⟩;have:=Nat.div_add_mod l B;rw[Nat.mul_comm];exact this
theorem aZ.bk {C:aZ} (h:C.Ok):(C.aF.toNat:Int)=C.aF/\0<C.aF.toNat/\C.aF.toNat<=4:=by unfold aZ.Ok at h;omega
def Kx (B i:Nat) (mem:Nat->Ln):Nat->List Value:=fun k=>Se (mem (k*B+i))
theorem Zp {B i:Nat} {mem:Nat->Ln} (k:Nat):(Kx B i mem k).length=2:=rfl
theorem Rz {α:Type} {f:Nat->α} {i:Nat}:eG f i (f i)=f:=by
 funext j;unfold eG;split;rename_i h;rw[h];rfl
theorem cn {B l:Nat} {mem:Nat->Ln} (hB:0<B):Kx B (l % B) mem (l/B)=Se (mem l):=by
 unfold Kx;rw[(F4 (Nat.mod_lt l hB)).2 ⟨rfl,rfl⟩]
theorem Yy {B l:Nat} {mem:Nat->Ln} {v:Ln} (hB:0<B):eG (Kx B (l % B) mem) (l/B) (Se v)=Kx B (l % B) (eG mem l v):=by
 funext k;unfold Kx eG;have:=(F4 (l:=l) (k:=k) (Nat.mod_lt l hB));by_cases h:k=l/B;rw[tu h,tu (this.2 ⟨h,rfl⟩)];rw[tt h,tt (fun e=>h (this.1 e).1)]
theorem ep {B l i:Nat} {mem:Nat->Ln} {v:Ln} (d:i<B) (h:i≠l % B):Kx B i (eG mem l v)=Kx B i mem:=by
 funext k;unfold Kx eG;rw[tt (fun e=>h ((F4 d).1 e).2)]
theorem Xa {n B i:Nat} (hB:0<B):gI n B i<=n:=by
 unfold gI;refine Nat.le_of_lt_succ (Nat.div_lt_of_lt_mul ?_);rw[Nat.mul_succ];have:n<=B*n:=Nat.le_mul_of_pos_left _ hB;omega
def iS:Nat->Ln:=fun _=>(0,0)
end
section
structure eC where
 kind:Int
 core:Int
 line:Int
 world:Int
 state:Int
 d0:Int
 d1:Int
 Ph:Bool
 no:Int
 deriving DecidableEq
def eC.enc (n:eC):List Value:=[I n.kind,I n.core,I n.line,I n.world,I n.state,I n.d0,I n.d1,.bool n.Ph,I n.no]
def eC.zero:eC:=⟨0,0,0,0,0,0,0,false,0⟩
def Bu (l:List eC):List Value:=l.flatMap eC.enc
@[simp] theorem dp (n:eC) (l:List eC):Bu (n::l)=n.enc++Bu l:=rfl
@[simp] theorem ir:Bu []=[]:=rfl
structure Row where
 owner:Int
 sh:Nat->Bool
 waits:List eC
 busy:Bool
 served:eC
 world:Int
 asked:Nat->Bool
 granted:Bool
 told:Bool
 d0:Int
 d1:Int
def Row.enc (r:Row) (a:Option Addr) (c:Nat):List Value:=
 [I r.owner,.bool (r.sh 0),.bool (r.sh 1),.bool (r.sh 2),.bool (r.sh 3),.slice a r.waits.length c,.bool r.busy,I r.served.kind,I r.served.core,I r.served.line,I r.served.world,I r.served.state,I r.served.d0,I r.served.d1,.bool r.served.Ph,I r.served.no,
   I r.world,.bool (r.asked 0),.bool (r.asked 1),.bool (r.asked 2),.bool (r.asked 3),.bool r.granted,.bool r.told,I r.d0,I r.d1]
def Row.quiet (r:Row):Bool:= !(r.asked 0||r.asked 1||r.asked 2||r.asked 3)
abbrev r6:=Row×Ln
def Row.wait (r:Row) (n:eC):Row:={r with waits:=r.waits++[n]}
abbrev Er:=Nat->r6
def Lj:Row:=⟨-1,fun _=>false,[],false,eC.zero,0,fun _=>false,false,false,0,0⟩
def nC (n:Nat):Er:=fun i=>if i<n then(Lj,(0,0)) else({Lj with owner:=0},(0,0))
theorem P4 {n:Nat}:eG (nC n) n (Lj,(0,0))=nC (n+1):=by
 funext i;unfold eG nC;by_cases h:i=n;rw[tu h,aae];rw[tt h];by_cases d:i<n;rw[tu d,aae];rw[tt d,aab]
end
end Go.Hm
namespace Go.Ct
open Go Go.Ab Go.Hm
section
structure Z3 where
 st:Int
 w:Int
 d:Ln
 deriving DecidableEq
def Z3.enc (x:Z3):List Value:=[I x.st,I x.w,I x.d.1,I x.d.2]
def Z3.zero:Z3:=⟨0,0,(0,0)⟩
abbrev Th:=Int×Z3
def tg (t:Th):List Value:=I t.1::t.2.enc
def Uf (l:List Th):List Value:=l.flatMap tg
structure tO where
 S:Nat->List Th
 al:Int
 aw:Bool
 s6:Bool
 gl:Int
 gc:Z3
 rh:Bool
def tO.new:tO:=⟨fun _=>[],0,false,false,0,Z3.zero,false⟩
variable (n:Nat) (ways:Nat) (lines:Int) (core:Int)
def setOf (l:Int):Nat:=(l % (n:Int)).toNat
end
end Go.Ct
namespace Go.Ab
open Go.Ct Go.Hm
section
noncomputable section
end
end
end Go.Ab
namespace Go.Proofs
open Go.Shelf
section
def Tryz.xM:Go.Shelf.Ren:=⟨fun|169=>60|n=>n,fun|70=>139|9=>9|0=>0|72=>141|37=>93|127=>254|3=>3|5=>5|n=>n,fun|n=>n⟩
theorem Tryz.Pm:Go.Proofs.Lays.n169 Tryz.prog Tryz.xM:={
 mixed:=by kernel_rfl
 f169:=Tryz.func60.trans (congrArg some (by kernel_rfl))
 t0:=Tryz.underlying0
 a0:=Tryz.isAgg0
 z0:=Tryz.sizeOf0
 v0:=Tryz.zeroValue0
 t3:=Tryz.underlying3
 a3:=Tryz.isAgg3
 z3:=Tryz.sizeOf3
 v3:=Tryz.zeroValue3
 t9:=Tryz.underlying9
 a9:=Tryz.isAgg9
 z9:=Tryz.sizeOf9
 v9:=Tryz.zeroValue9
 t37:=Tryz.underlying93
 a37:=Tryz.isAgg93
 z37:=Tryz.sizeOf93
 v37:=Tryz.zeroValue93
 t70:=Tryz.underlying139
 a70:=Tryz.isAgg139
 z70:=Tryz.sizeOf139
 v70:=Tryz.zeroValue139
 t72:=Tryz.underlying141
 a72:=Tryz.isAgg141
 z72:=Tryz.sizeOf141
 v72:=Tryz.zeroValue141
 t127:=Tryz.underlying254
 a127:=Tryz.isAgg254
 z127:=Tryz.sizeOf254
 v127:=Tryz.zeroValue254}
theorem Tryz.mE:Builder.Extra Tryz.prog Tryz.xM:={
 sizeBuilder:=by kernel_rfl
 liesBuilder:=by kernel_rfl
 t5:=Tryz.underlying5
 a5:=Tryz.isAgg5
 z5:=Tryz.sizeOf5
 v5:=Tryz.zeroValue5
 infoByte:=by kernel_rfl
 cellsByte:=by kernel_rfl
 sizeByte:=by kernel_rfl
 neB5:=by decide}
open Go.RowKit in
def Tryz.xS:Go.Shelf.Ren:=⟨fun|156=>87|165=>135|166=>56|169=>60|240=>102|241=>192|276=>158|277=>271|n=>n,fun|31=>149|9=>9|3=>3|4=>4|0=>0|20=>20|72=>141|76=>144|70=>139|37=>93|75=>143|127=>254|164=>352|5=>5|80=>148|n=>n,fun|n=>n⟩
theorem Tryz.Xq:Go.Proofs.Lays.n156 Tryz.prog Tryz.xS:={
 mixed:=by kernel_rfl
 f156:=Tryz.func87.trans (congrArg some (by kernel_rfl))
 f165:=Tryz.func135.trans (congrArg some (by kernel_rfl))
 f166:=Tryz.func56.trans (congrArg some (by kernel_rfl))
 f169:=Tryz.func60.trans (congrArg some (by kernel_rfl))
 f240:=Tryz.func102.trans (congrArg some (by kernel_rfl))
 f241:=Tryz.func192.trans (congrArg some (by kernel_rfl))
 f276:=Tryz.func158.trans (congrArg some (by kernel_rfl))
 f277:=Tryz.func271.trans (congrArg some (by kernel_rfl))
 t0:=Tryz.underlying0
 a0:=Tryz.isAgg0
 z0:=Tryz.sizeOf0
 v0:=Tryz.zeroValue0
 t3:=Tryz.underlying3
 a3:=Tryz.isAgg3
 z3:=Tryz.sizeOf3
 v3:=Tryz.zeroValue3
 t4:=Tryz.underlying4
 a4:=Tryz.isAgg4
 z4:=Tryz.sizeOf4
 v4:=Tryz.zeroValue4
 t9:=Tryz.underlying9
 a9:=Tryz.isAgg9
 z9:=Tryz.sizeOf9
 v9:=Tryz.zeroValue9
 t20:=Tryz.underlying20
 a20:=Tryz.isAgg20
 z20:=Tryz.sizeOf20
 v20:=Tryz.zeroValue20
 t31:=Tryz.underlying149
 a31:=Tryz.isAgg149
 z31:=Tryz.sizeOf149
 v31:=Tryz.zeroValue149
 t37:=Tryz.underlying93
 a37:=Tryz.isAgg93
 z37:=Tryz.sizeOf93
 v37:=Tryz.zeroValue93
 t70:=Tryz.underlying139
 a70:=Tryz.isAgg139
 z70:=Tryz.sizeOf139
 v70:=Tryz.zeroValue139
 t72:=Tryz.underlying141
 a72:=Tryz.isAgg141
 z72:=Tryz.sizeOf141
 v72:=Tryz.zeroValue141
 t75:=Tryz.underlying143
 a75:=Tryz.isAgg143
 z75:=Tryz.sizeOf143
 v75:=Tryz.zeroValue143
 t76:=Tryz.underlying144
 a76:=Tryz.isAgg144
 z76:=Tryz.sizeOf144
 v76:=Tryz.zeroValue144
 t127:=Tryz.underlying254
 a127:=Tryz.isAgg254
 z127:=Tryz.sizeOf254
 v127:=Tryz.zeroValue254
 t164:=Tryz.underlying352
 a164:=Tryz.isAgg352
 z164:=Tryz.sizeOf352
 v164:=Tryz.zeroValue352}
theorem Tryz.uV:Builder.Extra Tryz.prog Tryz.xS:={
 sizeBuilder:=by kernel_rfl
 liesBuilder:=by kernel_rfl
 t5:=Tryz.underlying5
 a5:=Tryz.isAgg5
 z5:=Tryz.sizeOf5
 v5:=Tryz.zeroValue5
 infoByte:=by kernel_rfl
 cellsByte:=by kernel_rfl
 sizeByte:=by kernel_rfl
 neB5:=by decide}
open Go.RowKit in
theorem Tryz.strings_Join (bk o c:Nat) (xs:List ByteArray) (sep:ByteArray) (w:World) (d:∀(j:Nat) x,xs[j]?=some x->w.cell? ⟨bk,o+j,none⟩=some (.string x)) (m:bk<w.heap.size) (q:xs.length<=140737488355328) (g:xs.length<=c) (i:(Lib.join (xs.map (·.data.toList)) sep.data.toList).length<=140737488355328):
  Calls Tryz.prog 87 #[.slice (some ⟨bk,o,none⟩) xs.length c,.string sep] w fun e r=>e= .returned (.string ⟨(Lib.join (xs.map (·.data.toList)) sep.data.toList).toArray⟩)/\Below w.heap.size w r:=Any.strings_Join Tryz.Xq Tryz.uV bk o c xs sep w d m q g i
def Tryz.E1:Go.Shelf.Ren:=⟨fun|171=>86|243=>134|246=>191|283=>267|284=>268|285=>269|286=>270|129=>266|317=>334|318=>335|319=>336|320=>337|337=>376|338=>377|n=>n,fun|3=>3|9=>9|2=>2|4=>4|171=>437|0=>0|53=>436|37=>93|5=>5|173=>439|212=>498|51=>434|20=>20|213=>499|46=>380|232=>542|233=>543|n=>n,fun|17=>4|18=>10|19=>11|n=>n⟩
theorem Tryz.V6:Go.Proofs.LaysM.n171 Tryz.prog Tryz.E1:={
 mixed:=by kernel_rfl
 f129:=Tryz.func266.trans (congrArg some (by kernel_rfl))
 f171:=Tryz.func86.trans (congrArg some (by kernel_rfl))
 f243:=Tryz.func134.trans (congrArg some (by kernel_rfl))
 f246:=Tryz.func191.trans (congrArg some (by kernel_rfl))
 f283:=Tryz.func267.trans (congrArg some (by kernel_rfl))
 f284:=Tryz.func268.trans (congrArg some (by kernel_rfl))
 f285:=Tryz.func269.trans (congrArg some (by kernel_rfl))
 f286:=Tryz.func270.trans (congrArg some (by kernel_rfl))
 f317:=Tryz.func334.trans (congrArg some (by kernel_rfl))
 f318:=Tryz.func335.trans (congrArg some (by kernel_rfl))
 f319:=Tryz.func336.trans (congrArg some (by kernel_rfl))
 f320:=Tryz.func337.trans (congrArg some (by kernel_rfl))
 f337:=Tryz.func376.trans (congrArg some (by kernel_rfl))
 f338:=Tryz.func377.trans (congrArg some (by kernel_rfl))
 t0:=Tryz.underlying0
 a0:=Tryz.isAgg0
 z0:=Tryz.sizeOf0
 v0:=Tryz.zeroValue0
 t2:=Tryz.underlying2
 a2:=Tryz.isAgg2
 z2:=Tryz.sizeOf2
 v2:=Tryz.zeroValue2
 t3:=Tryz.underlying3
 a3:=Tryz.isAgg3
 z3:=Tryz.sizeOf3
 v3:=Tryz.zeroValue3
 t4:=Tryz.underlying4
 a4:=Tryz.isAgg4
 z4:=Tryz.sizeOf4
 v4:=Tryz.zeroValue4
 t5:=Tryz.underlying5
 a5:=Tryz.isAgg5
 z5:=Tryz.sizeOf5
 v5:=Tryz.zeroValue5
 t9:=Tryz.underlying9
 a9:=Tryz.isAgg9
 z9:=Tryz.sizeOf9
 v9:=Tryz.zeroValue9
 t20:=Tryz.underlying20
 a20:=Tryz.isAgg20
 z20:=Tryz.sizeOf20
 v20:=Tryz.zeroValue20
 t37:=Tryz.underlying93
 a37:=Tryz.isAgg93
 z37:=Tryz.sizeOf93
 v37:=Tryz.zeroValue93
 t46:=Tryz.underlying380
 a46:=Tryz.isAgg380
 z46:=Tryz.sizeOf380
 v46:=Tryz.zeroValue380
 t51:=Tryz.underlying434
 a51:=Tryz.isAgg434
 z51:=Tryz.sizeOf434
 v51:=Tryz.zeroValue434
 t53:=Tryz.underlying436
 a53:=Tryz.isAgg436
 z53:=Tryz.sizeOf436
 v53:=Tryz.zeroValue436
 t171:=Tryz.underlying437
 a171:=Tryz.isAgg437
 z171:=Tryz.sizeOf437
 v171:=Tryz.zeroValue437
 t173:=Tryz.underlying439
 a173:=Tryz.isAgg439
 z173:=Tryz.sizeOf439
 v173:=Tryz.zeroValue439
 t212:=Tryz.underlying498
 a212:=Tryz.isAgg498
 z212:=Tryz.sizeOf498
 v212:=Tryz.zeroValue498
 t213:=Tryz.underlying499
 a213:=Tryz.isAgg499
 z213:=Tryz.sizeOf499
 t232:=Tryz.underlying542
 a232:=Tryz.isAgg542
 z232:=Tryz.sizeOf542
 v232:=Tryz.zeroValue542
 t233:=Tryz.underlying543
 a233:=Tryz.isAgg543
 z233:=Tryz.sizeOf543
 v233:=Tryz.zeroValue543
 g17:=by kernel_rfl
 g18:=by kernel_rfl
 g19:=by kernel_rfl
 i0:=by kernel_rfl
 i2:=by kernel_rfl
 i3:=by kernel_rfl
 i4:=by kernel_rfl
 i5:=by kernel_rfl
 i9:=by kernel_rfl
 i20:=by kernel_rfl
 i37:=by kernel_rfl
 i46:=by kernel_rfl
 i51:=by kernel_rfl
 i53:=by kernel_rfl
 i171:=by kernel_rfl
 i173:=by kernel_rfl
 i212:=by kernel_rfl
 i232:=by kernel_rfl
 i233:=by kernel_rfl
 m17:=by kernel_rfl
 m18:=by kernel_rfl
 m19:=by kernel_rfl}
open Go.RowKit Go.Sort Go.Lib in
theorem Tryz.strconv_Itoa (n:Int) (g: -9223372036854775808<=n) (i:n<=9223372036854775807) (w:World) (d:Lib.TabIs Tryz.prog w "internal/strconv.uint64pow10" .u64 Lib.pow10Tab):
  Calls Tryz.prog 86 #[.int .i64 n] w fun e m=>e= .returned (.string ⟨(Lib.itoa n).toArray⟩)/\∃k j,m=grow (w.drewN k) j:=Any.strconv_Itoa Tryz.V6 n g i w d
def Tryz.F3:Go.Shelf.Ren:=⟨fun|172=>171|244=>247|245=>248|247=>316|279=>317|280=>318|281=>319|282=>320|287=>367|316=>368|171=>86|205=>369|321=>382|322=>383|243=>134|246=>191|283=>267|284=>268|285=>269|286=>270|129=>266|317=>334|318=>335|319=>336|320=>337|337=>376|338=>377|n=>n,fun|9=>9|3=>3|75=>143|76=>144|4=>4|5=>5|167=>477|37=>93|0=>0|85=>478|2=>2|168=>480|53=>436|175=>521|46=>380|210=>525|127=>254|145=>541|143=>539|21=>21|171=>437|173=>439|212=>498|51=>434|20=>20|213=>499|232=>542|233=>543|80=>148|n=>n,fun|15=>8|16=>9|17=>4|18=>10|19=>11|n=>n⟩
theorem Tryz.Aj:Go.Proofs.LaysC.n172 Tryz.prog Tryz.F3:={
 mixed:=by kernel_rfl
 f129:=Tryz.func266.trans (congrArg some (by kernel_rfl))
 f171:=Tryz.func86.trans (congrArg some (by kernel_rfl))
 f172:=Tryz.func171.trans (congrArg some (by kernel_rfl))
 f205:=Tryz.func369.trans (congrArg some (by kernel_rfl))
 f243:=Tryz.func134.trans (congrArg some (by kernel_rfl))
 f244:=Tryz.func247.trans (congrArg some (by kernel_rfl))
 f245:=Tryz.func248.trans (congrArg some (by kernel_rfl))
 f246:=Tryz.func191.trans (congrArg some (by kernel_rfl))
 f247:=Tryz.func316.trans (congrArg some (by kernel_rfl))
 f279:=Tryz.func317.trans (congrArg some (by kernel_rfl))
 f280:=Tryz.func318.trans (congrArg some (by kernel_rfl))
 f281:=Tryz.func319.trans (congrArg some (by kernel_rfl))
 f282:=Tryz.func320.trans (congrArg some (by kernel_rfl))
 f283:=Tryz.func267.trans (congrArg some (by kernel_rfl))
 f284:=Tryz.func268.trans (congrArg some (by kernel_rfl))
 f285:=Tryz.func269.trans (congrArg some (by kernel_rfl))
 f286:=Tryz.func270.trans (congrArg some (by kernel_rfl))
 f287:=Tryz.func367.trans (congrArg some (by kernel_rfl))
 f316:=Tryz.func368.trans (congrArg some (by kernel_rfl))
 f317:=Tryz.func334.trans (congrArg some (by kernel_rfl))
 f318:=Tryz.func335.trans (congrArg some (by kernel_rfl))
 f319:=Tryz.func336.trans (congrArg some (by kernel_rfl))
 f320:=Tryz.func337.trans (congrArg some (by kernel_rfl))
 f321:=Tryz.func382.trans (congrArg some (by kernel_rfl))
 f322:=Tryz.func383.trans (congrArg some (by kernel_rfl))
 f337:=Tryz.func376.trans (congrArg some (by kernel_rfl))
 f338:=Tryz.func377.trans (congrArg some (by kernel_rfl))
 t0:=Tryz.underlying0
 a0:=Tryz.isAgg0
 z0:=Tryz.sizeOf0
 v0:=Tryz.zeroValue0
 t2:=Tryz.underlying2
 a2:=Tryz.isAgg2
 z2:=Tryz.sizeOf2
 v2:=Tryz.zeroValue2
 t3:=Tryz.underlying3
 a3:=Tryz.isAgg3
 z3:=Tryz.sizeOf3
 v3:=Tryz.zeroValue3
 t4:=Tryz.underlying4
 a4:=Tryz.isAgg4
 z4:=Tryz.sizeOf4
 v4:=Tryz.zeroValue4
 t5:=Tryz.underlying5
 a5:=Tryz.isAgg5
 z5:=Tryz.sizeOf5
 v5:=Tryz.zeroValue5
 t9:=Tryz.underlying9
 a9:=Tryz.isAgg9
 z9:=Tryz.sizeOf9
 v9:=Tryz.zeroValue9
 t20:=Tryz.underlying20
 a20:=Tryz.isAgg20
 z20:=Tryz.sizeOf20
 v20:=Tryz.zeroValue20
 t21:=Tryz.underlying21
 a21:=Tryz.isAgg21
 z21:=Tryz.sizeOf21
 v21:=Tryz.zeroValue21
 t37:=Tryz.underlying93
 a37:=Tryz.isAgg93
 z37:=Tryz.sizeOf93
 v37:=Tryz.zeroValue93
 t46:=Tryz.underlying380
 a46:=Tryz.isAgg380
 z46:=Tryz.sizeOf380
 v46:=Tryz.zeroValue380
 t51:=Tryz.underlying434
 a51:=Tryz.isAgg434
 z51:=Tryz.sizeOf434
 v51:=Tryz.zeroValue434
 t53:=Tryz.underlying436
 a53:=Tryz.isAgg436
 z53:=Tryz.sizeOf436
 v53:=Tryz.zeroValue436
 t75:=Tryz.underlying143
 a75:=Tryz.isAgg143
 z75:=Tryz.sizeOf143
 v75:=Tryz.zeroValue143
 t76:=Tryz.underlying144
 a76:=Tryz.isAgg144
 z76:=Tryz.sizeOf144
 v76:=Tryz.zeroValue144
 t85:=Tryz.underlying478
 a85:=Tryz.isAgg478
 z85:=Tryz.sizeOf478
 v85:=Tryz.zeroValue478
 t127:=Tryz.underlying254
 a127:=Tryz.isAgg254
 z127:=Tryz.sizeOf254
 v127:=Tryz.zeroValue254
 t143:=Tryz.underlying539
 a143:=Tryz.isAgg539
 z143:=Tryz.sizeOf539
 v143:=Tryz.zeroValue539
 t145:=Tryz.underlying541
 a145:=Tryz.isAgg541
 z145:=Tryz.sizeOf541
 v145:=Tryz.zeroValue541
 t167:=Tryz.underlying477
 a167:=Tryz.isAgg477
 z167:=Tryz.sizeOf477
 v167:=Tryz.zeroValue477
 t168:=Tryz.underlying480
 a168:=Tryz.isAgg480
 z168:=Tryz.sizeOf480
 v168:=Tryz.zeroValue480
 t171:=Tryz.underlying437
 a171:=Tryz.isAgg437
 z171:=Tryz.sizeOf437
 v171:=Tryz.zeroValue437
 t173:=Tryz.underlying439
 a173:=Tryz.isAgg439
 z173:=Tryz.sizeOf439
 v173:=Tryz.zeroValue439
 t175:=Tryz.underlying521
 a175:=Tryz.isAgg521
 z175:=Tryz.sizeOf521
 v175:=Tryz.zeroValue521
 t210:=Tryz.underlying525
 a210:=Tryz.isAgg525
 z210:=Tryz.sizeOf525
 v210:=Tryz.zeroValue525
 t212:=Tryz.underlying498
 a212:=Tryz.isAgg498
 z212:=Tryz.sizeOf498
 v212:=Tryz.zeroValue498
 t213:=Tryz.underlying499
 a213:=Tryz.isAgg499
 z213:=Tryz.sizeOf499
 t232:=Tryz.underlying542
 a232:=Tryz.isAgg542
 z232:=Tryz.sizeOf542
 v232:=Tryz.zeroValue542
 t233:=Tryz.underlying543
 a233:=Tryz.isAgg543
 z233:=Tryz.sizeOf543
 v233:=Tryz.zeroValue543
 g15:=by kernel_rfl
 g16:=by kernel_rfl
 g17:=by kernel_rfl
 g18:=by kernel_rfl
 g19:=by kernel_rfl
 t80:=Tryz.underlying148
 a80:=Tryz.isAgg148
 z80:=Tryz.sizeOf148
 v80:=Tryz.zeroValue148
 i0:=by kernel_rfl
 i2:=by kernel_rfl
 i3:=by kernel_rfl
 i4:=by kernel_rfl
 i5:=by kernel_rfl
 i9:=by kernel_rfl
 i20:=by kernel_rfl
 i21:=by kernel_rfl
 i37:=by kernel_rfl
 i46:=by kernel_rfl
 i51:=by kernel_rfl
 i53:=by kernel_rfl
 i75:=by kernel_rfl
 i76:=by kernel_rfl
 i80:=by kernel_rfl
 i85:=by kernel_rfl
 i127:=by kernel_rfl
 i143:=by kernel_rfl
 i145:=by kernel_rfl
 i167:=by kernel_rfl
 i168:=by kernel_rfl
 i171:=by kernel_rfl
 i173:=by kernel_rfl
 i175:=by kernel_rfl
 i210:=by kernel_rfl
 i212:=by kernel_rfl
 i232:=by kernel_rfl
 i233:=by kernel_rfl
 m15:=by kernel_rfl
 m16:=by kernel_rfl
 m17:=by kernel_rfl
 m18:=by kernel_rfl
 m19:=by kernel_rfl
 c0:=by kernel_rfl
 c2:=by kernel_rfl
 c3:=by kernel_rfl
 c4:=by kernel_rfl
 c5:=by kernel_rfl
 c9:=by kernel_rfl
 c20:=by kernel_rfl
 c21:=by kernel_rfl
 c37:=by kernel_rfl
 c46:=by kernel_rfl
 c51:=by kernel_rfl
 c53:=by kernel_rfl
 c75:=by kernel_rfl
 c76:=by kernel_rfl
 c80:=by kernel_rfl
 c85:=by kernel_rfl
 c127:=by kernel_rfl
 c143:=by kernel_rfl
 c145:=by kernel_rfl
 c167:=by kernel_rfl
 c168:=by kernel_rfl
 c171:=by kernel_rfl
 c173:=by kernel_rfl
 c175:=by kernel_rfl
 c210:=by kernel_rfl
 c212:=by kernel_rfl
 c213:=by kernel_rfl
 c232:=by kernel_rfl
 c233:=by kernel_rfl}
open Go.RowKit in
theorem Tryz.strconv_Atoi_ok (s:ByteArray) (d:s.size<=9223372036854775806) (v:Int) (h:Lib.atoiAll s.data.toList= .ok v) (w:World):
  Calls Tryz.prog 171 #[.string s] w fun e g=>e= .returned (.tuple #[.int .i64 v,.nilIface])/\(g=w\/∃t,g=Lib.bytesWorld w 5 t):=Any.strconv_Atoi_ok Tryz.Aj s d v h w
open Go.RowKit in
theorem Tryz.strconv_Atoi_syntax (s:ByteArray) (g:s.size<=281474976710656) (h:Lib.atoiAll s.data.toList=Lib.NumEnd.syntax) (d:Value) (w:World) (m:w.cell? ⟨8,0,none⟩=some d) (i:d= .nilIface\/∃q o,d= .iface q o):
  Calls Tryz.prog 171 #[.string s] w fun e j=>∃N,e= .returned (.tuple #[.int .i64 (0),.iface 480 (.pointer (some ⟨N,0,none⟩))])/\w.heap.size<=N/\j.heap[N]?=some (.cells #[.string ⟨#[65,116,111,105]⟩,.string s,d] 525 (0,0))/\Below w.heap.size w j:=Any.strconv_Atoi_syntax Tryz.Aj s g h d w m i
open Go.RowKit in
theorem Tryz.strconv_Atoi_range (s:ByteArray) (g:s.size<=281474976710656) (h:Lib.atoiAll s.data.toList= .range) (d:Value) (w:World) (m:w.cell? ⟨9,0,none⟩=some d) (i:d= .nilIface\/∃q o,d= .iface q o):
  Calls Tryz.prog 171 #[.string s] w fun e j=>∃N,e= .returned (.tuple #[.int .i64 (Lib.atoiSat s.data.toList),.iface 480 (.pointer (some ⟨N,0,none⟩))])/\w.heap.size<=N/\j.heap[N]?=some (.cells #[.string ⟨#[65,116,111,105]⟩,.string s,d] 525 (0,0))/\Below w.heap.size w j:=Any.strconv_Atoi_range Tryz.Aj s g h d w m i
def Tryz.Ie:Go.Shelf.Ren:=⟨fun|219=>245|217=>312|225=>313|224=>314|267=>315|266=>365|314=>366|n=>n,fun|9=>9|3=>3|4=>4|5=>5|46=>380|146=>519|51=>434|n=>n,fun|1=>2|n=>n⟩
theorem Tryz.Yo:Go.Proofs.Lays.n219 Tryz.prog Tryz.Ie:={
 mixed:=by kernel_rfl
 f217:=Tryz.func312.trans (congrArg some (by kernel_rfl))
 f219:=Tryz.func245.trans (congrArg some (by kernel_rfl))
 f224:=Tryz.func314.trans (congrArg some (by kernel_rfl))
 f225:=Tryz.func313.trans (congrArg some (by kernel_rfl))
 f266:=Tryz.func365.trans (congrArg some (by kernel_rfl))
 f267:=Tryz.func315.trans (congrArg some (by kernel_rfl))
 f314:=Tryz.func366.trans (congrArg some (by kernel_rfl))
 t3:=Tryz.underlying3
 a3:=Tryz.isAgg3
 z3:=Tryz.sizeOf3
 v3:=Tryz.zeroValue3
 t4:=Tryz.underlying4
 a4:=Tryz.isAgg4
 z4:=Tryz.sizeOf4
 v4:=Tryz.zeroValue4
 t5:=Tryz.underlying5
 a5:=Tryz.isAgg5
 z5:=Tryz.sizeOf5
 v5:=Tryz.zeroValue5
 t9:=Tryz.underlying9
 a9:=Tryz.isAgg9
 z9:=Tryz.sizeOf9
 v9:=Tryz.zeroValue9
 t46:=Tryz.underlying380
 a46:=Tryz.isAgg380
 z46:=Tryz.sizeOf380
 v46:=Tryz.zeroValue380
 t51:=Tryz.underlying434
 a51:=Tryz.isAgg434
 z51:=Tryz.sizeOf434
 v51:=Tryz.zeroValue434
 t146:=Tryz.underlying519
 a146:=Tryz.isAgg519
 z146:=Tryz.sizeOf519
 v146:=Tryz.zeroValue519
 g1:=by kernel_rfl}
open Go.RowKit Go.Lib in
theorem Tryz.stringslite_Index_one (s:ByteArray) (c:UInt8) (w:World):
  Calls Tryz.prog 245 #[.string s,.string ⟨#[c]⟩] w fun e d=>e= .returned (.int .i64 (Lib.indexByte s.data.toList c))/\d=w:=Any.stringslite_Index_one Tryz.Yo s c w
def Tryz.Jg:Go.Shelf.Ren:=⟨fun|143=>161|219=>245|217=>312|225=>313|224=>314|267=>315|266=>365|314=>366|n=>n,fun|9=>9|3=>3|4=>4|5=>5|46=>380|146=>519|51=>434|n=>n,fun|1=>2|n=>n⟩
theorem Tryz.X8:Go.Proofs.Lays.n143 Tryz.prog Tryz.Jg:={
 mixed:=by kernel_rfl
 f143:=Tryz.func161.trans (congrArg some (by kernel_rfl))
 f217:=Tryz.func312.trans (congrArg some (by kernel_rfl))
 f219:=Tryz.func245.trans (congrArg some (by kernel_rfl))
 f224:=Tryz.func314.trans (congrArg some (by kernel_rfl))
 f225:=Tryz.func313.trans (congrArg some (by kernel_rfl))
 f266:=Tryz.func365.trans (congrArg some (by kernel_rfl))
 f267:=Tryz.func315.trans (congrArg some (by kernel_rfl))
 f314:=Tryz.func366.trans (congrArg some (by kernel_rfl))
 t3:=Tryz.underlying3
 a3:=Tryz.isAgg3
 z3:=Tryz.sizeOf3
 v3:=Tryz.zeroValue3
 t4:=Tryz.underlying4
 a4:=Tryz.isAgg4
 z4:=Tryz.sizeOf4
 v4:=Tryz.zeroValue4
 t5:=Tryz.underlying5
 a5:=Tryz.isAgg5
 z5:=Tryz.sizeOf5
 v5:=Tryz.zeroValue5
 t9:=Tryz.underlying9
 a9:=Tryz.isAgg9
 z9:=Tryz.sizeOf9
 v9:=Tryz.zeroValue9
 t46:=Tryz.underlying380
 a46:=Tryz.isAgg380
 z46:=Tryz.sizeOf380
 v46:=Tryz.zeroValue380
 t51:=Tryz.underlying434
 a51:=Tryz.isAgg434
 z51:=Tryz.sizeOf434
 v51:=Tryz.zeroValue434
 t146:=Tryz.underlying519
 a146:=Tryz.isAgg519
 z146:=Tryz.sizeOf519
 v146:=Tryz.zeroValue519
 g1:=by kernel_rfl}
open Go.RowKit Go.Lib in
theorem Tryz.strings_Index_one (s:ByteArray) (c:UInt8) (w:World):
  Calls Tryz.prog 161 #[.string s,.string ⟨#[c]⟩] w fun e d=>e= .returned (.int .i64 (Lib.indexByte s.data.toList c))/\d=w:=Any.strings_Index_one Tryz.X8 s c w
def Tryz.Hv:Go.Shelf.Ren:=⟨fun|138=>109|195=>166|218=>167|143=>161|219=>245|217=>312|225=>313|224=>314|267=>315|266=>365|314=>366|n=>n,fun|9=>9|3=>3|4=>4|5=>5|0=>0|46=>380|146=>519|51=>434|n=>n,fun|1=>2|n=>n⟩
theorem Tryz.Zi:Go.Proofs.Lays.n138 Tryz.prog Tryz.Hv:={
 mixed:=by kernel_rfl
 f138:=Tryz.func109.trans (congrArg some (by kernel_rfl))
 f143:=Tryz.func161.trans (congrArg some (by kernel_rfl))
 f195:=Tryz.func166.trans (congrArg some (by kernel_rfl))
 f217:=Tryz.func312.trans (congrArg some (by kernel_rfl))
 f218:=Tryz.func167.trans (congrArg some (by kernel_rfl))
 f219:=Tryz.func245.trans (congrArg some (by kernel_rfl))
 f224:=Tryz.func314.trans (congrArg some (by kernel_rfl))
 f225:=Tryz.func313.trans (congrArg some (by kernel_rfl))
 f266:=Tryz.func365.trans (congrArg some (by kernel_rfl))
 f267:=Tryz.func315.trans (congrArg some (by kernel_rfl))
 f314:=Tryz.func366.trans (congrArg some (by kernel_rfl))
 t0:=Tryz.underlying0
 a0:=Tryz.isAgg0
 z0:=Tryz.sizeOf0
 v0:=Tryz.zeroValue0
 t3:=Tryz.underlying3
 a3:=Tryz.isAgg3
 z3:=Tryz.sizeOf3
 v3:=Tryz.zeroValue3
 t4:=Tryz.underlying4
 a4:=Tryz.isAgg4
 z4:=Tryz.sizeOf4
 v4:=Tryz.zeroValue4
 t5:=Tryz.underlying5
 a5:=Tryz.isAgg5
 z5:=Tryz.sizeOf5
 v5:=Tryz.zeroValue5
 t9:=Tryz.underlying9
 a9:=Tryz.isAgg9
 z9:=Tryz.sizeOf9
 v9:=Tryz.zeroValue9
 t46:=Tryz.underlying380
 a46:=Tryz.isAgg380
 z46:=Tryz.sizeOf380
 v46:=Tryz.zeroValue380
 t51:=Tryz.underlying434
 a51:=Tryz.isAgg434
 z51:=Tryz.sizeOf434
 v51:=Tryz.zeroValue434
 t146:=Tryz.underlying519
 a146:=Tryz.isAgg519
 z146:=Tryz.sizeOf519
 v146:=Tryz.zeroValue519
 g1:=by kernel_rfl}
open Go.RowKit Go.Lib in
theorem Tryz.strings_Count_one (s:ByteArray) (c:UInt8) (w:World):
  Calls Tryz.prog 109 #[.string s,.string ⟨#[c]⟩] w fun e d=>e= .returned (.int .i64 (Lib.countByte s.data.toList c))/\d=w:=Any.strings_Count_one Tryz.Zi s c w
def Tryz.xG:Go.Shelf.Ren:=⟨fun|240=>102|276=>158|n=>n,fun|0=>0|4=>4|9=>9|20=>20|70=>139|72=>141|37=>93|164=>352|n=>n,fun|n=>n⟩
theorem Tryz.N7:Go.Proofs.Lays.n240 Tryz.prog Tryz.xG:={
 mixed:=by kernel_rfl
 f240:=Tryz.func102.trans (congrArg some (by kernel_rfl))
 f276:=Tryz.func158.trans (congrArg some (by kernel_rfl))
 t0:=Tryz.underlying0
 a0:=Tryz.isAgg0
 z0:=Tryz.sizeOf0
 v0:=Tryz.zeroValue0
 t4:=Tryz.underlying4
 a4:=Tryz.isAgg4
 z4:=Tryz.sizeOf4
 v4:=Tryz.zeroValue4
 t9:=Tryz.underlying9
 a9:=Tryz.isAgg9
 z9:=Tryz.sizeOf9
 v9:=Tryz.zeroValue9
 t20:=Tryz.underlying20
 a20:=Tryz.isAgg20
 z20:=Tryz.sizeOf20
 v20:=Tryz.zeroValue20
 t70:=Tryz.underlying139
 a70:=Tryz.isAgg139
 z70:=Tryz.sizeOf139
 v70:=Tryz.zeroValue139
 t72:=Tryz.underlying141
 a72:=Tryz.isAgg141
 z72:=Tryz.sizeOf141
 v72:=Tryz.zeroValue141
 t164:=Tryz.underlying352
 a164:=Tryz.isAgg352
 z164:=Tryz.sizeOf352
 v164:=Tryz.zeroValue352}
theorem Tryz.qB:Builder.X72 Tryz.prog Tryz.xG:={
 sizeBuilder:=by kernel_rfl
 liesBuilder:=by kernel_rfl}
end
end Go.Proofs
namespace Go.Proofs
open Go.Shelf Go.RowKit
section
variable {P:Program} {ρ:Ren} {w:World}
theorem Tryz.Rw {e:TypeId} (i:P.cellsOf e=1) (count d n:Nat) (j:d+n<=count):liesAt P P.depth e count d e n=true:=by
 have g:P.depth=(2*(P.types.size+Made.depth)+1)+1:=rfl;rw[g];simp only[liesAt,Bool.or_eq_true];left;rw[g];simp[rowAt,i,j,sameLayout,Nat.mod_one]
theorem Tryz.rZ (pt it ty e:TypeId) (D:P.underlying pt=some (.pointer e)) (y:P.cellsOf e=1) (g q cells:Nat) (v:w.shape? g=some (e,cells)) (l:List UInt8) (z:l≠[]) (C:q+l.length<=cells) (A:l.length<=9223372036854775807)
  (d:∀j x,l[j]?=some x->w.cell? ((⟨g,q,none⟩:Addr).add j)=some (.int .u8 x.toNat)):
  (Builtin.unsafeString_ #[pt,it] ty #[.pointer (some ⟨g,q,none⟩),.int .i64 l.length]).run P w= .ok (.string ⟨l.toArray⟩) (w.freeze ⟨g,q,none⟩ l.length):=by
 have B:l.length≠0:=by simpa using z
 have u:=Lib.run_loadBytes (P:=P) w l ⟨g,q,none⟩ .empty d
 have i:=Tryz.Rw (P:=P) y (cells/P.cellsOf e) q l.length (by rw[y];simpa using C)
 have m:¬(9223372036854775807:Int)<(l.length:Int):=by omega
 have o:Builtin.unsafeString_ #[pt,it] ty #[.pointer (some ⟨g,q,none⟩),.int .i64 l.length]=
   (do
    let n<-asInt (.int .i64 l.length)
    if n<0 then runtimePanic (.error "unsafe.String: len out of range")
    if n>IntKind.i64.max then unsupported (.unsafePointer "String: a length above the largest int")
    if n=0 then pure (.string .empty)
    else if<-variablesAt ⟨g,q,none⟩ (<-elemOf pt) n.toNat then do
     let s<-loadBytes ⟨g,q,none⟩ .empty n.toNat
     freeze ⟨g,q,none⟩ n.toNat
     pure (.string s)
    else unsupported (.unsafePointer "String: not so many bytes at ptr")):=rfl
 rw[o]
 have r:IntKind.i64.max=9223372036854775807:=rfl
 have t:¬(l.length:Int)<0:=by omega
 simp[asInt,asIntOf,r,m,t,B,variablesAt,v,elemOf,run_underlying D,i,u]
set_option maxHeartbeats 2000000 in
set_option maxRecDepth 100000 in
theorem Tryz.R4 (L:Lays.n169 P ρ) (X:Builder.Extra P ρ) (b g q cap cells:Nat) (l:List UInt8) (w:World) (hb:w.cell? ⟨b,1,none⟩=some (.slice (some ⟨g,q,none⟩) l.length cap)) (i:cap≠0) (t:l≠[])
  (m:w.shape? g=some (ρ.t 5,cells)) (r:q+l.length<=cells) (u:l.length<=1000000) (d:∀(j:Nat) (x:UInt8),l[j]?=some x->w.cell? ⟨g,q+j,none⟩=some (.int .u8 x.toNat)):
  Calls P (ρ.f 169) #[.pointer (some ⟨b,0,none⟩)] w fun e D=>e= .returned (.string ⟨l.toArray⟩)/\D=w.drew.freeze ⟨g,q,none⟩ l.length:=by
 have E:w.drew.cell? ⟨b,1,none⟩=some (.slice (some ⟨g,q,none⟩) l.length cap):=hb
 have v:(Builtin.unsafeSliceData_ #[(ρ.t 37)] (ρ.t 127) #[.slice (some ⟨g,q,none⟩) l.length cap]).run P w.drew= .ok (.pointer (some ⟨g,q,none⟩)) w.drew:=
  Lib.run_unsafeSliceData_row _ _ _ _ _ _ i
 have y:(Builtin.unsafeString_ #[(ρ.t 127),(ρ.t 3)] (ρ.t 9) #[.pointer (some ⟨g,q,none⟩),.int .i64 l.length]).run P w.drew= .ok (.string ⟨l.toArray⟩) (w.drew.freeze ⟨g,q,none⟩ l.length):=by
  refine Tryz.rZ (w:=w.drew) (ρ.t 127) (ρ.t 3) (ρ.t 9) (ρ.t 5) L.t127 X.cellsByte g q cells m l t r (by omega) ?_;intro j x z;have:=d j x z;have e:(⟨g,q,none⟩:Addr).add j=⟨g,q+j,none⟩:=by
   unfold Addr.add;by_cases o:j=0;subst o;simp;simp[o]
  rw[e];exact this
 clear d m r
 have mixed:=L.mixed
 have t72:=L.t72;have a72:=L.a72;have z72:=L.z72;have v72:=L.v72;have C:=run_underlying L.t72
 have t70:=L.t70;have a70:=L.a70;have z70:=L.z70;have v70:=L.v70;have B:=run_underlying L.t70
 have t37:=L.t37;have a37:=L.a37;have z37:=L.z37;have v37:=L.v37;have A:=run_underlying L.t37
 have t127:=L.t127;have a127:=L.a127;have z127:=L.z127;have v127:=L.v127;have s:=run_underlying L.t127
 have t3:=L.t3;have a3:=L.a3;have z3:=L.z3;have v3:=L.v3;have I:=run_underlying L.t3
 have t9:=L.t9;have a9:=L.a9;have z9:=L.z9;have v9:=L.v9;have N:=run_underlying L.t9
 have t5:=X.t5;have a5:=X.a5;have z5:=X.z5;have v5:=X.v5;have J:=run_underlying X.t5
 go_enter L.f169,Body.n169_ntmps ρ
 go_wp2
 go_region_o
 all_goals (go_wp2;go_ret;exact⟨rfl,rfl⟩)
set_option maxHeartbeats 2000000 in
set_option maxRecDepth 100000 in
theorem Tryz.Lq (L:Lays.n169 P ρ) (X:Builder.Extra P ρ) (b:Nat) (w:World) (hb:w.cell? ⟨b,1,none⟩=some (.slice none 0 0)):
  Calls P (ρ.f 169) #[.pointer (some ⟨b,0,none⟩)] w fun e q=>e= .returned (.string ⟨#[]⟩)/\q=w.drew:=by
 have i:=Any.unsafeString_none L X
 have r:w.drew.cell? ⟨b,1,none⟩=some (.slice none 0 0):=hb
 have g:(Builtin.unsafeSliceData_ #[(ρ.t 37)] (ρ.t 127) #[.slice none 0 0]).run P w.drew= .ok (.pointer none) w.drew:=rfl
 have mixed:=L.mixed
 have t72:=L.t72;have a72:=L.a72;have z72:=L.z72;have v72:=L.v72;have o:=run_underlying L.t72
 have t70:=L.t70;have a70:=L.a70;have z70:=L.z70;have v70:=L.v70;have m:=run_underlying L.t70
 have t37:=L.t37;have a37:=L.a37;have z37:=L.z37;have v37:=L.v37;have j:=run_underlying L.t37
 have t127:=L.t127;have a127:=L.a127;have z127:=L.z127;have v127:=L.v127;have d:=run_underlying L.t127
 have t3:=L.t3;have a3:=L.a3;have z3:=L.z3;have v3:=L.v3;have s:=run_underlying L.t3
 have t9:=L.t9;have a9:=L.a9;have z9:=L.z9;have v9:=L.v9;have u:=run_underlying L.t9
 have t5:=X.t5;have a5:=X.a5;have z5:=X.z5;have v5:=X.v5;have t:=run_underlying X.t5
 go_enter L.f169,Body.n169_ntmps ρ
 go_wp2
 go_region_o
 all_goals (go_wp2;go_ret;exact⟨rfl,rfl⟩)
end
end Go.Proofs
namespace Go.Ab
open Go Go.RowKit
section
variable {P:Program} {H:Type}
def rI (f:DataW H->Option (List Value)) (w:Nat):List (DataW H)->Option (List Value)
 |[]=>some []
 |d::g=>match f d with
  |some c=>if c.length=w then(rI f w g).map (c++·) else none
  |none=>none
def oU (f:TypeId->DataW H->Option (List Value)) (w:TypeId->Nat):List Field->List (DataW H)->Nat->Option (List Value)
 |[],[],_=>some []
 |x::i,d::g,o=>match f x.type d with
  |some c=>if x.offset=o/\c.length=w x.type then(oU f w i g (o+c.length)).map (c++·) else none
  |none=>none
 |_,_,_=>none
def vL (P:Program):Nat->TypeId->DataW H->Option (List Value)
 |0,_,_=>none
 |n+1,t,d=>match P.underlying t,d with
  |some (.int _),.lit (.int k m)=>some [.int k m]
  |some .bool,.lit (.bool b)=>some [.bool b]
  |some .string,.lit (.string s)=>some [.string ⟨s.toArray⟩]
  |some (.array _ e),.agg g=>match rI (vL P n e) (P.cellsOf e) g with
   |some l=>if l.length=P.cellsOf t then some l else none
   |none=>none
  |some (.struct i),.agg g=>match oU (vL P n) P.cellsOf i.toList g 0 with
   |some l=>if l.length=P.cellsOf t then some l else none
   |none=>none
  |_,_=>none
theorem zB {f:DataW H->Option (List Value)} {w:Nat}:∀{g:List (DataW H)} {l:List Value},rI f w g=some l->l.length=g.length*w
 |[],l,h=>by simp[rI] at h;subst h;simp
 |d::g,l,h=>by
  unfold rI at h;split at h;rename_i c m;split at h;rename_i i;simp only[Option.map_eq_some_iff] at h;obtain⟨r,j,rfl⟩:=h;have:=zB j;simp[this,i,Nat.succ_mul];omega;cases h;cases h
theorem Dw {f:DataW H->Option (List Value)} {w:Nat} {T:List Value->Option (DataW H×List MemPlace)} (m:∀c x l,T c=some x->f x.1=some l->c=l):∀(xs:List (DataW H×List MemPlace)) (cs l:List Value),
    rI f w (xs.map (·.1))=some l->cs.length=xs.length*w->(∀i,i<xs.length->T ((cs.drop (i*w)).take w)=xs[i]?)->cs=l
 |[],cs,l,h,d,_=>by simp[rI] at h;subst h;exact List.eq_nil_of_length_eq_zero (by simpa using d)
 |x::xs,cs,l,h,d,j=>by
  simp only[List.map_cons,rI] at h;split at h;rename_i c s;split at h;rename_i t;simp only[Option.map_eq_some_iff] at h;obtain⟨r,u,rfl⟩:=h;have g:=j 0 (by simp);simp only[Nat.zero_mul,List.drop_zero,List.getElem?_cons_zero] at g;have o:=m _ _ _ g s;have q:=Dw m xs (cs.drop w) r u (by rw[List.length_drop,d,List.length_cons,Nat.succ_mul];omega) fun i v=>by
   have:=j (i+1) (by simp;omega);rw[List.getElem?_cons_succ] at this;rw[List.drop_drop,<-this,Nat.succ_mul,Nat.add_comm]
  rw[<-List.take_append_drop w cs,o,q];cases h;cases h
theorem A5 {f:TypeId->DataW H->Option (List Value)} {w:TypeId->Nat} {T:TypeId->List Value->Option (DataW H×List MemPlace)} (m:∀t c x l,T t c=some x->f t x.1=some l->c=l) {cs:List Value}:∀(fs:List Field) (xs:List (DataW H×List MemPlace)) (o:Nat) (l:List Value),
    oU f w fs (xs.map (·.1)) o=some l->(∀(i:Nat) (x:Field),fs[i]?=some x->T x.type ((cs.drop x.offset).take (w x.type))=xs[i]?)->(cs.drop o).take l.length=l
 |[],[],o,l,h,_=>by simp[oU] at h;subst h;simp
 |[],_::_,_,_,h,_=>by simp[oU] at h
 |_::_,[],_,_,h,_=>by simp[oU] at h
 |y::fs,x::xs,o,l,h,j=>by
  simp only[List.map_cons,oU] at h;split at h;rename_i c u;split at h;rename_i d;simp only[Option.map_eq_some_iff] at h;obtain⟨r,v,rfl⟩:=h;have s:=j 0 y rfl;have g:=m _ _ _ _ s u;have q:=A5 m fs xs (o+c.length) r v fun i z A=>j (i+1) z A;rw[d.1,<-d.2] at g;rw[List.length_append,List.take_add,List.drop_drop,g,q];cases h;cases h
variable {enc:TypeId×Value->H} {w:World} {base:Nat} {spare:Nat->Bool} {held:Bool}
theorem Mh:∀(n:Nat) {t:TypeId} {cs l:List Value} {x:DataW H×List MemPlace} {fuel:Nat},DataW.trod enc P w base spare held fuel t cs=some x->vL P n t x.1=some l->cs=l:=by
 intro n;induction n with
 |zero=>intro t cs l x fuel _ h;cases h
 |succ n D=>
  intro t cs l x fuel s h;unfold vL at h;split at h;rename_i g d;obtain⟨m,rfl,j,_⟩:=DataW.trod_int g s;rw[j] at d;cases d;cases h;rfl;rename_i g d;obtain⟨m,rfl,j⟩:=DataW.trod_bool g s;rw[j] at d;cases d;cases h;rfl;rename_i g d;obtain⟨m,rfl,j,_⟩:=DataW.trod_string g s;rw[j] at d;cases d;cases h;rfl;rename_i g d;obtain⟨B,m,_,j,C,A,o⟩:=DataW.trod_array g s;rw[j] at d;cases d;split at h;rename_i r u;split at h;rename_i q;cases h;have:=zB u;rw[List.length_map] at this;exact Dw (T:=DataW.trod enc P w base spare held m _) (fun c y l v z=>D v z) B cs l u (by rw[C,<-q,this]) fun i I=>o i (by omega);cases h;cases h;rename_i g d;obtain⟨B,m,_,j,C,A,o⟩:=DataW.trod_struct g s;rw[j] at d;cases d;split at h;rename_i r u;split at h;rename_i q;cases h;have:=A5 (w:=P.cellsOf) (T:=fun t c=>DataW.trod enc P w base spare held m t c) (fun t c y l v z=>D v z) (cs:=cs) _ B 0 l u fun i y E=>o i y (by rw[<-E,Array.getElem?_toList]);rw[List.drop_zero,List.take_of_length_le (by omega)] at this;exact this;cases h;cases h;cases h
theorem oS {n:String} {d:DataW Unit}:∀{laid:List (String×DataW Unit)} {ps:List MemPlace},DataW.LaidVars P w laid ps->(n,d)∈laid->
  ∃g t i fuel p,P.globalNamed n=some g/\(P.globals[g]?).map (·.type)=some t/\w.var? P n=some i/\DataW.trod (fun _=>()) P w 0 (fun _=>true) false fuel t i.toList=some (d,p)
 |[],_,_,j=>by cases j
 |(y,x)::r,ps,h,j=>by
  obtain⟨g,t,i,fuel,p,q,m,o,s,u,v,_⟩:=h;rcases List.mem_cons.1 j with e|e;cases e;exact⟨g,t,i,fuel,p,m,o,s,u⟩;exact oS v e
theorem iZ {laid:List (String×DataW Unit)} {n:String} {d:DataW Unit} {g:Nat} {t:TypeId} {l:List Value} (fuel:Nat) (z:(laid.all fun x=>x.2.handleName?.isNone)=true) (h:laidMetH P laid w) (y:(n,d)∈laid)
  (m:P.globalNamed n=some g) (A:(P.globals[g]?).map (·.type)=some t) (v:vL P fuel t d=some l):∃e j,w.heap[g]?=some (.cells ⟨l⟩ e j):=by
 rw[Go.MakeChecks.laidMetH_plain _ _ _ z] at h
 obtain⟨D,B,_⟩:=h
 obtain⟨C,E,o,f,p,q,r,i,s⟩:=oS B y
 obtain rfl:=Option.some.inj (m.symm.trans q)
 obtain rfl:=Option.some.inj (A.symm.trans r)
 have:=Mh fuel s v
 simp only[World.var?,m,Option.bind_some] at i
 split at i
 .rename_i c e j u;cases i;refine⟨e,j,?_⟩;rw[u];cases o;simp at this;subst this;rfl
 .cases i
end
end Go.Ab
namespace Go.Ab
open Go Go.RowKit Go.ChangeShapes Go.WideShapes Go.ChangeAt
section
variable {H:Type} {enc:TypeId×Value->H}
def M5 (P:Program) (d:List TypeId):Bool:=d.all fun t=>P.readableRec t&&decide (t<P.types.size)
theorem D8 {P:Program} (u:laidOutB P=true) {W r:World} (hb:Below W.heap.size W r):∀(g:List TypeId) {vs:List Value} {i:List (DataW H)} {ps:List MemPlace},M5 P g=true->
  DataW.TrodAll enc P W 0 (fun _=>true) true g vs i ps->DataW.TrodAll enc P r 0 (fun b=>decide (b<W.heap.size)) true g vs i ps
 |[],vs,i,ps,_,h=>by
  obtain⟨rfl,rfl,rfl⟩:=trodAll_nil h;exact trodAll_mk0
 |t::g,vs,i,ps,j,h=>by
  obtain⟨v,B,d,y,p,q,rfl,rfl,rfl,s,z⟩:=trodAll_cons h;simp only[M5,List.all_cons,Bool.and_eq_true,decide_eq_true_eq] at j;have o:∀x∈p,x.block<W.heap.size:=by obtain⟨m,A⟩:=s;exact DataW.trod_lt m _ _ _ A
  exact trodAll_cons_mk (Below.trod u j.1.1 j.1.2 s hb o) (D8 u hb g j.2 z)
theorem Og {P:Program} {w:World} {base:Nat} {spare:Nat->Bool} {held:Bool}:∀(i:List TypeId) {vs:List Value} {g:List (DataW H)} {ps:List MemPlace},
    DataW.TrodAll enc P w base spare held i vs g ps->g.length=i.length
 |[],vs,g,ps,h=>by obtain⟨rfl,rfl,rfl⟩:=trodAll_nil h;rfl
 |t::i,vs,g,ps,h=>by
  obtain⟨v,o,d,j,p,q,rfl,rfl,rfl,r,m⟩:=trodAll_cons h;simp[Og i m]
theorem Mv {C:Checked} {os:Os} (started:os.Started) {f:FuncId} {d:Func} {s:ChangeSpec} {laid:List (String×DataW Unit)} {N:TypeId} {fresh handsOn:Bool}
  (own:ownKnob C.prog.godebug=none) (o:C.prog.inits.idxOf? f=none) (B:C.prog.funcs[f]?=some d) (D:laidOutB C.prog=true) (E:M5 C.prog d.params.toList=true)
  (y:d.resultTypes= #[N]) (I:C.prog.underlying N=some .bool) (g:s.vars=[])
  (u:∀m:List (DataW H),m.length=d.params.size->s.fn H m={results:=[.lit (.bool true)],args:=m})
  (witness:∃(w:World) (tape:Tape) (i:Input),w.os=os/\(w.forCall tape i).Shaped C.prog/\i.vars=[]/\Input.okWide C.prog (w.forCall tape i) .any w.heap.size f i/\
   ((s.pre enc C.prog d [] false (w.forCall tape i).memory i.args/\laidMetH C.prog laid (w.forCall tape i).memory)/\sizedMet enc C.prog d (OpenSpec.ofChange s) false (w.forCall tape i).memory i.args)/\({}:Assume).holds C.prog (lone (Frame.enter C.prog f i.args .normal) [] (w.forCall tape i)))
  (walk:∀(W:World) (base:Nat) (args:List Value) (m:List (DataW H)) (ps:List MemPlace),DataW.TrodAll enc C.prog W 0 (fun _=>true) true d.params.toList args m ps->
   (∀(j:Nat) t v,d.params[j]?=some t->args[j]?=some v->Value.okWide C.prog W .any base t v)->laidMetH C.prog laid W->Calls C.prog f ⟨args⟩ W fun e J=>e= .returned (.bool true)/\Below W.heap.size W J):
  ReturnsInHanded {} C os f .any (fun w args=>(s.pre enc C.prog d [] false w args/\laidMetH C.prog laid w)/\sizedMet enc C.prog d (OpenSpec.ofChange s) false w args) (s.post enc C.prog d false fresh handsOn false):=by
 refine returnsInHanded_of_change_and (C:=C) (X:=fun w _=>laidMetH C.prog laid w) (fun _ _ _ U h=>h.of_heap U) own started o B witness ?_
 intro W base args m gs before z hW _ _ R _
 have A:=hW
 obtain⟨p,q,hA,hV,rfl,T,V⟩:=hW
 rw[g] at hV
 obtain⟨rfl,rfl⟩:=trodVars_none hV
 have r:=u m (by rw[Og _ hA];simp)
 obtain⟨args⟩:=args
 refine(walk W base args m p hA (fun j t v O Q=>z j t v O (by simpa using Q)) R).mono fun e J ⟨S,x⟩=>?_
 subst S
 refine⟨_,rfl,m,[],_,[],p,[],A,?_,?_,?_,x.frame _,fun h=>by cases h⟩
 .rw[List.append_nil,r,y];exact trodAll_mk1 (shut_bool I _)
 .rw[List.append_nil,r];exact D8 D x _ E hA
 .rw[List.append_nil,r,g];rfl
theorem lJ {k:IntKind} {d:List (Option IntKind)} {l:List Value} (h:Flat (some k::d) l):∃(n:Int) (g:List Value),l= .int k n::g/\Flat d g:=by
 cases l with
 |nil=>exact h.elim
 |cons v l=>obtain⟨⟨n,rfl,_⟩,h⟩:=h;exact⟨n,l,rfl,h⟩
theorem oF {k:IntKind} {d:List (Option IntKind)} {l:List Value} (h:Flat (some k::d) l):∃(n:Int) (g:List Value),l= .int k n::g/\(Lit.int k n).wf=true/\Flat d g:=by
 cases l with
 |nil=>exact h.elim
 |cons v l=>obtain⟨⟨n,rfl,i⟩,h⟩:=h;exact⟨n,l,rfl,i,h⟩
theorem wf_i64 {n:Int} (h:(Lit.int .i64 n).wf=true): -9223372036854775808<=n/\n<=9223372036854775807:=by
 simp[Lit.wf,IntKind.min,IntKind.max,IntKind.signed,IntKind.bits] at h;omega
theorem Bb {l:List Value} (h:Flat [] l):l=[]:=by
 cases l with
 |nil=>rfl
 |cons v l=>exact h.elim
end
section
variable {H:Type} {enc:TypeId×Value->H}
theorem Uk {P:Program} {W:World} {base:Nat} {t:TypeId} {fs:Array Field} {v:Value} (g:P.underlying t=some (.struct fs)) (d:Value.okWide P W .any base t v):∃l,v= .agg ⟨l⟩/\l.length=P.cellsOf t:=by
 simp only[Value.okWide,g] at d;obtain⟨⟨l⟩,rfl,h,_⟩:=d;exact⟨l,rfl,h⟩
theorem jH {P:Program} {W:World} {t e:TypeId} {fs:Array Field} {i:Nat} {f:Field} {l:List Value} {d:DataW H} {p:List MemPlace} {n:Nat} {q:List (Option IntKind)} (D:P.underlying t=some (.struct fs)) (u:fs[i]?=some f)
  (E:P.underlying f.type=some (.slice e)) (y:P.cellsOf f.type=1) (B:kZ P n e=some q) (A:P.cellsOf e=q.length) (x:0<q.length)
  (h:DataW.Trod enc P W 0 (fun _=>true) true t (.agg ⟨l⟩) d p):∃a len g,l[f.offset]?=some (.slice a len g)/\fT q W a len g:=by
 obtain⟨fuel,r⟩:=h
 obtain⟨J,m,_,_,O,I,j⟩:=DataW.trod_struct D r
 have v:=j i f u
 have s:i<J.length:=by rw[I];exact(Array.getElem?_eq_some_iff.1 u).1
 rw[List.getElem?_eq_getElem s] at v
 obtain⟨a,len,g,o,C⟩:=Dk E B A x v
 refine⟨a,len,g,?_,C⟩
 rw[y] at o
 have N:(Value.cells (.agg ⟨l⟩)).toList=l:=by simp[Value.cells]
 have:=congrArg (fun z=>z[0]?) o
 simpa [Value.cells] using this
end
section
theorem Ti {α:Type} {f:α->List Value} {W:Nat} (d:∀x,(f x).length=W) (l:List α):∀x∈l.map f,x.length=W:=by
 intro x g;obtain⟨y,_,rfl⟩:=List.mem_map.1 g;exact d y
theorem lC {α:Type} {f:α->List Value} {R:α->Prop} {W n:Nat} {at':Nat->List Value} (hex:∀i,i<n->∃x,at' i=f x/\R x):
  ∃l:List α,l.length=n/\(∀x∈l,R x)/\∀(G:Bg) (v:Value),eJ G W v n at'->eJ G W v (l.map f).length (fun i=>(l.map f).getD i []):=by
 let l:List α:=(List.finRange n).map fun i=>(hex i.1 i.2).choose
 have j:l.length=n:=by simp[l]
 have t:∀i,(d:i<n)->l[i]?=some (hex i d).choose:=fun i d=>by
  simp[l,List.getElem?_map,List.getElem?_eq_getElem (show i<(List.finRange n).length by simp;exact d)]
 refine⟨l,j,fun x y=>?_,fun G v u=>?_⟩
 .obtain⟨i,_,rfl⟩:=List.mem_map.1 y;exact(hex i.1 i.2).choose_spec.2
 .obtain⟨a,c,rfl,g⟩:=u;rw[List.length_map,j];refine⟨a,c,rfl,fun i d=>?_⟩;obtain⟨b,o,cells,m,q,r,s⟩:=g i d;refine⟨b,o,cells,m,q,?_,s⟩;rw[r,(hex i d).choose_spec.1];show f _=(l.map f).getD i [];rw[List.getD_eq_getElem?_getD,List.getElem?_map,t i d];rfl
theorem Tz {H:Type} {enc:TypeId×Value->H} {P:Program} {w:World} {base fuel:Nat} {spare:Nat->Bool} {held:Bool} {t:TypeId} {ms:Array (String×TypeId)} {cs:List Value} {x:DataW H×List MemPlace} (g:P.underlying t=some (.interface ms))
  (h:DataW.trod enc P w base spare held fuel t cs=some x):∃d,cs=[d]/\(d= .nilIface\/∃j i,d= .iface j i):=by
 cases fuel with
 |zero=>simp[DataW.trod] at h
 |succ n=>
  unfold DataW.trod at h
  rw[g] at h
  match cs,h with
  |[],h=>simp at h
  |[v],h=>
   refine⟨v,rfl,?_⟩
   cases v<;>simp at h
   .exact .inr ⟨_,_,rfl⟩
   .exact .inl rfl
  |_::_::_,h=>simp at h
theorem zY {P:Program} {w:World} {laid:List (String×DataW Unit)} {n:String} {d:DataW Unit} {g:Nat} {t:TypeId} {ms:Array (String×TypeId)} (B:(laid.all fun x=>x.2.handleName?.isNone)=true) (h:laidMetH P laid w) (A:(n,d)∈laid)
  (r:P.globalNamed n=some g) (C:(P.globals[g]?).map (·.type)=some t) (D:P.underlying t=some (.interface ms)):∃i e m,w.heap[g]?=some (.cells ⟨[i]⟩ e m)/\(i= .nilIface\/∃J I,i= .iface J I):=by
 rw[Go.MakeChecks.laidMetH_plain _ _ _ B] at h
 obtain⟨O,E,_⟩:=h
 obtain⟨N,Q,s,f,p,u,v,j,y⟩:=oS E A
 obtain rfl:=Option.some.inj (r.symm.trans u)
 obtain rfl:=Option.some.inj (C.symm.trans v)
 obtain⟨i,q,o⟩:=Tz D y
 simp only[World.var?,r,Option.bind_some] at j
 split at j
 .rename_i c e m z;cases j;refine⟨i,e,m,?_,o⟩;rw[z];cases s;simp at q;subst q;rfl
 .cases j
def Qd (G:Bg) (v:Value) (n:Nat):Prop:=(v= .slice none 0 0/\n=0)\/(v= .slice (some ⟨0,0,some 0⟩) 0 0/\n=0)\/
 ∃k o c cells e d,v= .slice (some ⟨k,o,none⟩) n c/\0<n/\n<=c/\k<G.base/\G.old k=some (.cells cells e d false)
theorem qP {w:World} (P:Program) {d:List (Option IntKind)} {a:Option Addr} {len cap:Nat} (h:fT d w a len cap):∃(r:OB) (t:Nat->Value),Ms P w r/\
  (∀ρ k,ρ k=r.2->aA ρ (t k) (.slice a len cap))/\∃at':Nat->List Value,(∀i,i<len->Flat d (at' i))/\∀(G:Bg) k,k<G.base->G.old k=r.1->eJ G d.length (t k) len at'/\Qd G (t k) len:=by
 rcases h with⟨rfl,rfl,rfl⟩|⟨x,rfl,rfl⟩|⟨x,cc,e,m,rfl,A,z,B,q,C,u⟩
 .refine⟨(none,none),fun _=> .slice none 0 0,⟨fun o h=>by(cases h),fun b s h=>by cases h⟩,fun ρ k _=>by simp only[aA],fun _=>[],fun i g=>by omega,fun G k _ _=>⟨⟨none,0,rfl,fun i g=>by omega⟩,.inl ⟨rfl,rfl⟩⟩⟩
 .refine⟨(none,none),fun _=> .slice (some ⟨0,0,some 0⟩) 0 0,⟨fun o h=>by(cases h),fun b s h=>by cases h⟩,fun ρ k _=>?_,fun _=>[],fun i g=>by omega,fun G k _ _=>⟨⟨some ⟨0,0,some 0⟩,0,rfl,fun i g=>by omega⟩,.inr (.inl ⟨rfl,rfl⟩)⟩⟩;simp only[aA];exact⟨trivial,trivial,x,cap,fun h=>by omega,fun h=>by omega,rfl⟩
 .refine⟨(some (.cells (cc.toList.map ik) e m false),some (x.block,(0,0))),fun k=> .slice (some ⟨k,x.off,none⟩) len cap,⟨fun o h b s j=>?_,fun b s j=>?_⟩,fun ρ k j=>?_,fun i=>(cc.toList.drop (x.off+i*d.length)).take d.length,u,fun G k y v=>?_⟩
  .cases h;cases j;refine⟨_,q,fun ρ=>⟨cc,rfl,?_,by simp,fun h=>by cases h⟩⟩;rw[List.length_map,List.drop_zero,List.take_of_length_le (by simp)];exact P3 _
  .cases j;exact(Array.getElem?_eq_some_iff.1 q).1
  .simp only[aA];exact⟨x.block,(0,0),cap,j,Nat.le_refl _,by simp,by cases x;simp at z;subst z;rfl⟩
  .refine⟨⟨_,_,rfl,fun i g=>⟨k,x.off,_,rfl,⟨y,e,m,false,v⟩,?_,?_⟩⟩,.inr (.inr ⟨k,x.off,cap,_,e,m,rfl,A,B,y,v⟩)⟩
   .rw[<-List.map_drop,<-List.map_take];exact Ad (u i g)
   .rw[List.length_map];have:i*d.length<=len*d.length:=Nat.mul_le_mul_right _ (by omega);simp;omega
variable {G:Bg} {h:AH} {L:List HP}
theorem Kl {n d m:Nat} (h:n<=m):lY (some (I n)) d m=some n:=by
 unfold lY;simp;omega
theorem H0 {d m:Nat}:lY none d m=some d:=rfl
end
end Go.Ab
section
namespace Go.Ab
noncomputable section
variable {P:Program} {K:FuncId->List Value->Option dU}
theorem cK.cons {a:Ek} {env:List Value} (o:cK a env) {d:Nat} {v:Value} {k:Kn} (r:d<env.length) (hb:∀x,k= .b x->v= .bool x) (s:k= .sk->v=undef):cK ((d,v,k)::a) (env.set d v):=by
 intro t u j g;unfold Ek.lk at g;split at g;rename_i e;have:=Nat.eq_of_beq_eq_true e;grind;rename_i e;obtain⟨i,m⟩:=o t u j g;refine⟨?_,m⟩;rw[List.getElem?_set_ne (fun q=>by simp_all)];exact i
theorem cK.lr {a:Ek} {env:List Value} (i:cK a env) {d:Nat} {v:Value} {k _k':Kn} (m:a.lk d=some (v,k)) {b:Bool} (o:v= .bool b):cK ((d,.bool b,.b b)::a) env:=by
 intro t u j h;unfold Ek.lk at h;split at h;rename_i e;have:=Nat.eq_of_beq_eq_true e;subst this;cases h;exact⟨by rw[<-o];exact(i _ _ _ m).1,fun x g=>(by cases g;rfl),fun g=>(by cases g)⟩;exact i t u j h
def Fb (n:Nat) (a:Ek) (d:Option Tmp) (v:Value) (k:Kn) (q:Ek->Prop):Prop:=match d with
 |none=>q a
 |some d=>(match Nat.blt d n with
  |true=>q ((d,v,k)::a)
  |false=>hF)
theorem jZ {n:Nat} {a:Ek} {env:List Value} (o:cK a env) (j:env.length=n) {d:Option Tmp} {v:Value} {k:Kn} {q:Ek->Prop} (hb:∀x,k= .b x->v= .bool x) (r:k= .sk->v=undef) (g:Fb n a d v k q):
  ∃m,cK m (eE env d v)/\(eE env d v).length=n/\q m:=by
 unfold Fb at g
 split at g
 .exact⟨a,o,j,g⟩
 .rename_i d;split at g
  .rename_i i;have:d<n:=Nat.le_of_ble_eq_true i;exact⟨_,o.cons (j.symm▸this) hb r,by simp[eE,j],g⟩
  .cases g
def wG (iR:Nat->Option Tmp) (a:Ek) (g:Option (Nat×Bool)) (p s:Ek->Prop):Prop:=match g with
 |none=>p a
 |some (j,want)=>match iR j with
  |none=>hF
  |some d=>match a.lk d with
   |some (_,.b x)=>(match x,want with
    |true,true=>p a
    |false,false=>p a
    |_,_=>s a)
   |some (_,.sk)=>s a
   |some (v,_)=>(match want with
    |true=>Br v (p ((d,.bool true,.b true)::a)) (s ((d,.bool false,.b false)::a))
    |false=>Br v (s ((d,.bool true,.b true)::a)) (p ((d,.bool false,.b false)::a)))
   |none=>hF
theorem mc {all:Array Oper} {a:Ek} {env:List Value} (m:cK a env) {o:Oper} {p s:Ek->Prop} (g:wG (fun j=>(all[j]?).bind (·.dst)) a o.guard p s):
  ∃u,cK u env/\((bS all env o=some true/\p u)\/(bS all env o=some false/\s u)):=by
 unfold wG at g
 unfold bS
 split at g
 .grind
 .rename_i j want A;rw[A];simp only;split at g
  .cases g
  .rename_i d i;replace i:(all[j]?).bind (·.dst)=some d:=i;rw[i];simp only[Option.bind_some];split at g
   .rename_i x q;obtain⟨r,y,_⟩:=m _ _ _ q;have:=y x rfl;subst this;rw[r];split at g
    .grind
    .grind
    .rename_i C D;refine⟨a,m,.inr ⟨?_,g⟩⟩;cases x<;>cases want<;>grind
   .rename_i q;obtain⟨r,_,y⟩:=m _ _ _ q;have:=y rfl;subst this;rw[r];exact⟨a,m,.inr ⟨rfl,g⟩⟩
   .rename_i v k _ _ q;have r:=(m _ _ _ q).1;rw[r];split at g
    .obtain⟨b,t,B,z⟩:=g;refine⟨_,m.lr (_k':= .un) q t,?_⟩;subst t;cases b with
     |true=>grind
     |false=>grind
    .obtain⟨b,t,B,z⟩:=g;refine⟨_,m.lr (_k':= .un) q t,?_⟩;subst t;cases b with
     |true=>grind
     |false=>grind
   .cases g
def N4 (a:Ek) (op:Op):Option Operand:=match op with
 |.pick (.tmp c) x y=>(match a.lk c with
  |some (_,.b true)=>some x
  |some (_,.b false)=>some y
  |_=>none)
 |.move x=>some x
 |.assign x=>some x
 |_=>none
theorem Od {a:Ek} {env:List Value} (m:cK a env) {op:Op} {x:Operand} (h:N4 a op=some x):kindOf op= .pW/\∀i,aH P (bA P env) i op=some (bA P env x):=by
 unfold N4 at h;split at h;rename_i c x y;split at h;rename_i j;cases h;obtain⟨d,g,_⟩:=m _ _ _ j;exact⟨rfl,fun i=>by simp[aH,bA,List.getD_eq_getElem?_getD,d,g true rfl]⟩;rename_i j;cases h;obtain⟨d,g,_⟩:=m _ _ _ j;exact⟨rfl,fun i=>by simp[aH,bA,List.getD_eq_getElem?_getD,d,g false rfl]⟩;cases h;cases h;exact⟨rfl,fun _=>rfl⟩;cases h;exact⟨rfl,fun _=>rfl⟩;cases h
def ic (a:Ek) (x:Operand):Kn:=match x with
 |.const (.bool y)=> .b y
 |.tmp t=>(match a.lk t with
  |some (_,.b y)=> .b y
  |_=> .un)
 |_=> .un
theorem Wh {a:Ek} {env:List Value} (i:cK a env) {x:Operand}:(∀y,ic a x= .b y->bA P env x= .bool y)/\ic a x≠.sk:=by
 unfold ic;split;exact⟨fun y h=>(by cases h;simp[bA,bU]),fun h=>(by cases h)⟩;split;rename_i j;obtain⟨d,g,_⟩:=i _ _ _ j;exact⟨fun y h=>(by cases h;simp[bA,List.getD_eq_getElem?_getD,d,g _ rfl]),fun h=>(by cases h)⟩;grind;grind
def Ts (M:Nat) (op:Op) (d:Option Tmp) (q:Kn->Prop):Prop:=match op,d with
 |.assign _,_=>hP (q .un)
 |_,some d=>(match Nat.beq (Nat.land (Nat.shiftRight M d) 1) 1 with
  |true=>q .un
  |false=>q .ex)
 |_,none=>q .un
theorem M9 {M:Nat} {op:Op} {d:Option Tmp} {q:Kn->Prop} (h:Ts M op d q):q .un\/q .ex:=by
 unfold Ts at h;split at h;exact .inl h;grind;exact .inl h
def jk (M:Nat) (op:Op) (d:Option Tmp) (a:Ek) (x:Operand) (q:Kn->Prop):Prop:=match ic a x with
 |.b y=>q (.b y)
 |_=>Ts M op d q
theorem aj {M:Nat} {op:Op} {d:Option Tmp} {a:Ek} {x:Operand} {q:Kn->Prop} (h:jk M op d a x q):(∃y,ic a x= .b y/\q (.b y))\/q .un\/q .ex:=by
 unfold jk at h;split at h;grind;exact .inr (M9 h)
def ra:Op->List Operand
 |.move x|.assign x|.load _ x|.nilCheck x|.unOp _ _ x|.convert _ _ x|.fieldAddr _ x _|.field _ x _|.box _ x=>[x]
 |.store _ x y|.binOp _ _ x y _|.indexAddr _ x y|.index _ x y=>[x,y]
 |.slice _ x g d i=>x::(g.toList++(d.toList++i.toList))
 |.call c=>c.args.toList
 |_=>[]
def mv (t:Nat):Ek->(Ek->Prop)->Prop
 |[],q=>hP (q [])
 |(d,v,k)::a,q=>(match Nat.beq d t with
  |true=>(match k with
   |.ex=>q ((d,undef,.no)::a)
   |k=>q ((d,v,k)::a))
  |false=>mv t a fun a=>q ((d,v,k)::a))
theorem Zx {t:Nat}:∀{a:Ek} {q:Ek->Prop},mv t a q->∃g,(∀x r,Ek.lk g x=some r->a.lk x=some r)/\q g
 |[],_,h=>⟨_,fun _ _ h=>h,h⟩
 |(o,v,k)::a,q,h=>by
  unfold mv at h;split at h;split at h;refine⟨_,fun x r d=>?_,h⟩;unfold Ek.lk at d ⊢;grind;grind;obtain⟨j,m,i⟩:=Zx h;refine⟨_,fun x r d=>?_,i⟩;unfold Ek.lk at d ⊢;grind
def R8:List Operand->Ek->(Ek->Prop)->Prop
 |[],a,q=>hP (q a)
 |x::l,a,q=>(match x with
  |.tmp t=>mv t a fun a=>R8 l a q
  |_=>R8 l a q)
theorem E0 {env:List Value}:∀{l:List Operand} {a:Ek} {q:Ek->Prop},cK a env->R8 l a q->∃g,cK g env/\q g
 |[],a,_,d,h=>⟨a,d,h⟩
 |x::l,a,q,d,h=>by
  unfold R8 at h;split at h;obtain⟨o,i,j⟩:=Zx h;exact E0 (l:=l) (fun t v k m=>d t v k (i _ _ m)) j;exact E0 (l:=l) d h
def qi (P:Program) (K:FuncId->List Value->Option dU) (a:Ek) (h:AH) (q:Value->AH->Prop) (op:Op):Prop:=match kindOf op with
 |.pW=>wL P a h (fun v=>q v h) op
 |.alloc=>wA P a (tX h) (tM h) q op
 |.store=>wH P K a h q op
 |.call=>wH P K a h q op
 |.other=>hF
theorem Z8 {a:Ek} {env:List Value} (g:cK a env) {h:AH} {q:Value->AH->Prop} {op:Op} (d:qi P K a h q op):∃n v i,fL P (run P K n) env h op=some (v,i)/\q v i:=by
 refine Lp ?_;unfold qi at d;unfold wpOp;split at d<;>(rename_i m;simp only[m]);exact lj g d;exact jd g (fun W e l n c k j=>j) d;exact di g d;exact di g d;exact d
def gf (P:Program) (K:FuncId->List Value->Option dU) (M n:Nat) (iR:Nat->Option Tmp) (o:Oper) (d:Ek->AH->(Ek->AH->Prop)->Prop) (a:Ek) (h:AH) (q:Ek->AH->Prop):Prop:=match o with
 |⟨dst,op,_,_,_,guard⟩=>wG iR a guard
  (fun a=>R8 (ra op) a fun g=>(match N4 a op with
   |some x=>jk M op dst a x fun k=>nE P a x fun v=>Fb n g dst v k fun a=>d a h q
   |none=>Ts M op dst fun k=>qi P K a h (fun v i=>Fb n g dst v k fun a=>d a i q) op))
  (fun a=>Fb n a dst undef .sk fun a=>d a h q)
def Yd (P:Program) (K:FuncId->List Value->Option dU) (M n:Nat) (iR:Nat->Option Tmp) (os:List Oper):Ek->AH->(Ek->AH->Prop)->Prop:=
 List.rec (fun a h q=>q a h) (fun o _ d=>gf P K M n iR o d) os
theorem kf {M n:Nat} {op:Op} {dst:Option Tmp} {a j:Ek} {env:List Value} {x:Operand} {q:Ek->Prop} (g:cK a env) (d:cK j env) (i:env.length=n) (hb:jk M op dst a x fun k=>nE P a x fun v=>Fb n j dst v k q):
  ∃m,cK m (eE env dst (bA P env x))/\(eE env dst (bA P env x)).length=n/\q m:=by
 obtain⟨r,_⟩:=Wh (P:=P) (x:=x) g
 rcases aj hb with⟨y,o,hb⟩|hb|hb
 .exact jZ d i (fun z e=>by grind) (fun e=>by cases e) (cJ g hb)
 .exact jZ d i (fun _ e=>by cases e) (fun e=>by cases e) (cJ g hb)
 .exact jZ d i (fun _ e=>by cases e) (fun e=>by cases e) (cJ g hb)
theorem Ld {M n:Nat} {all:Array Oper}:∀{os:List Oper} {a:Ek} {env:List Value} {h:AH} {q:Ek->AH->Prop},cK a env->env.length=n->Yd P K M n (fun j=>(all[j]?).bind (·.dst)) os a h q->
  ∃m o A u,run P K m (.ops all os env) h=some (o,A)/\cK u o.env/\o.env.length=n/\q u A
 |[],a,env,h,q,N,B,J=>⟨1,_,h,a,rfl,N,B,J⟩
 |o::os,a,env,h,q,N,B,J=>by
  change gf P K M n (fun j=>(all[j]?).bind (·.dst)) o (Yd P K M n (fun j=>(all[j]?).bind (·.dst)) os) a h q at J;unfold gf at J;obtain⟨Z,g,hb⟩:=mc (o:=o) N J;rcases hb with⟨d,hb⟩|⟨d,hb⟩;obtain⟨u,y,hb⟩:=E0 g hb;obtain⟨i,v,C,s,U,O,Q,z⟩:∃i v C s,fL P (run P K i) env h o.op=some (v,C)/\cK s (eE env o.dst v)/\(eE env o.dst v).length=n/\Yd P K M n (fun j=>(all[j]?).bind (·.dst)) os s C q:=by
   split at hb;rename_i x Y;obtain⟨V,X⟩:=Od (P:=P) g Y;obtain⟨s,D,E,I⟩:=kf g y B hb;exact⟨0,_,h,s,by simp only[fL,V,X];rfl,D,E,I⟩;rcases M9 hb with hb|hb;obtain⟨i,v,C,U,R⟩:=Z8 g hb;obtain⟨s,D,E,I⟩:=jZ y B (fun _ e=>by cases e) (fun e=>by cases e) R;grind;obtain⟨i,v,C,U,R⟩:=Z8 g hb;obtain⟨s,D,E,I⟩:=jZ y B (fun _ e=>by cases e) (fun e=>by cases e) R;grind
  obtain⟨r,out,A,u,T,S⟩:=Ld O Q z;refine⟨max i r+1,out,A,u,?_,S⟩;show kB P (fun t h=>run P K (max i r) t h) all (o::os) env h=_;simp only[kB,d];rw[show(fun t h=>run P K (max i r) t h)=run P K (max i r) from rfl,Dq (fD (Nat.le_max_left i r)) U];exact fD (Nat.le_max_right i r) _ _ _ T;obtain⟨s,D,E,I⟩:=jZ g B (fun _ e=>by cases e) (fun _=>rfl) hb;obtain⟨r,out,A,u,T,S⟩:=Ld D E I;refine⟨r+1,out,A,u,?_,S⟩;show kB P (fun t h=>run P K r t h) all (o::os) env h=_;simp only[kB,d];exact T
end
end Go.Ab
end
section
namespace Go.Ab
noncomputable section
variable {P:Program} {K:FuncId->List Value->Option dU}
def ij (P:Program) (a:Ek) (h:AH) (q:Value->Prop):Op->Prop
 |.call c=>(match c.callee with
  |.builtin b=>(match dI b with
   |true=>Ju P a c.args.toList fun l=>mu P h (fun v _=>q v) c.argTypes b l
   |false=>hF)
  |_=>hF)
 |op=>wL P a h q op
theorem Zy {a:Ek} {env:List Value} (m:cK a env) {h:AH} {q:Value->Prop} {op:Op} (d:ij P a h q op):dD op=true/\∃v,bZ P (bA P env) h op=some v/\q v:=by
 unfold ij at d;split at d;split at d;rename_i o;split at d;rename_i r;obtain⟨v,s,g,i⟩:=pY (ba (sZ m d));exact⟨by simp[dD,o,r],v,by simp only[bZ,o,r,if_true,g];rfl,i⟩;cases d;cases d
 .obtain⟨j,v,g,i⟩:=sF (lj m d);refine⟨?_,v,?_,i⟩
  .cases op<;>first|(simp[dD,j];done)|(simp[kindOf] at j)
  cases op<;>first|exact g|(simp[kindOf] at j)
structure WR where
 a:Ek
 h:AH
 v:Value
 iq:Bool
def pq (P:Program) (K:FuncId->List Value->Option dU) (i r:Nat) (a:Ek) (h:AH) (q:Value->AH->Prop) (op:Op):Prop:=
 match dD op with
 |true=>ij P a h (fun v=>q v h) op
 |false=>(match kindOf op with
  |.alloc=>(match i with
   |0=>wA P a (iM h r) (gT h r) q op
   |i=>wA P a (iM h (r+i)) (gT h (r+i)) q op)
  |_=>wH P K a h q op)
theorem Z2 {all:List Oper} {r i:Nat} {a:Ek} {env:List Value} (z:cK a env) {h:AH} {q:Value->AH->Prop} {o:Oper} (d:bS ⟨all⟩ env o=some true) (s:pq P K i r a h q o.op):
  ∃n v m,cI P (run P K n) all r i env h o=some (v,m)/\q v m:=by
 unfold pq at s
 unfold cI
 simp only[d]
 split at s
 .rename_i y;obtain⟨_,v,t,u⟩:=Zy z s;exact⟨0,v,h,by simp[y,t],u⟩
 .rename_i y;split at s
  .rename_i A;have x:∀{j:Nat},wA P a (iM h j) (gT h j) q o.op->j=r+i->∃n v m,cI P (run P K n) all r i env h o=some (v,m)/\q v m:=by
    intro j C e;subst e;obtain⟨_,b,f,t,u⟩:=sJ (jd z (fun W e l n c k B=>B) C);exact⟨0,_,_,by simp[cI,d,y,A,t],u⟩
   have:=(show∃n v m,cI P (run P K n) all r i env h o=some (v,m)/\q v m by
    split at s;exact x s rfl;exact x s rfl)
   unfold cI at this
   simpa only[d] using this
  .obtain⟨A,n,v,m,t,u⟩:=mS (fun g=>rfl) (di z s);refine⟨n,v,m,?_,u⟩;have:(kindOf o.op==Kind.alloc)=false:=by rcases A with h|h<;>rw[h]<;>rfl
   simp[this,y,t]
def H6:List (Nat×Nat)->Nat->Bool
 |[],_=>false
 |(a,_)::l,i=>(match Nat.beq a i with
  |true=>true
  |false=>H6 l i)
def ml (d:List (Nat×Nat)) (i:Nat) (a:Ek) (rs:List WR) (k:(AH->Value->Bool->(List WR->Prop)->Prop)->Prop):Prop:=match d with
 |[]=>hP (k fun _ _ _ q=>q rs)
 |d=>(match H6 d i with
  |true=>k fun h v r q=>q (⟨a,h,v,r⟩::rs)
  |false=>k fun h _ _ q=>q (⟨[],h,undef,true⟩::rs))
def Rl (d:List (Nat×Nat)):List WR->List WR->Prop
 |[],[]=>True
 |x::g,y::gs=>(x=y\/H6 d gs.length=false/\x.h=y.h)/\Rl d g gs
 |_,_=>False
theorem Zz {g:List (Nat×Nat)} {a:Ek} {rs gs:List WR} {i:Nat} {k:(AH->Value->Bool->(List WR->Prop)->Prop)->Prop} (s:gs.length=i) (o:g≠[]->Rl g rs gs) (d:ml g i a rs k):
  ∃R,k R/\∀h v r q,R h v r q->∃m,(g≠[]->Rl g m (⟨a,h,v,r⟩::gs))/\q m:=by
 unfold ml at d
 split at d
 .exact⟨_,d,fun h v r q j=>⟨rs,fun e=>absurd rfl e,j⟩⟩
 .split at d
  .exact⟨_,d,fun h v r q j=>⟨⟨a,h,v,r⟩::rs,fun e=>⟨.inl rfl,o e⟩,j⟩⟩
  .rename_i t;exact⟨_,d,fun h v r q j=>⟨⟨[],h,undef,true⟩::rs,fun e=>⟨.inr ⟨by rw[s];exact t,rfl⟩,o e⟩,j⟩⟩
theorem Vk {o:List (Nat×Nat)}:∀{rs gs:List WR},Rl o rs gs->rs.length=gs.length/\∀(j:Nat) (x y:WR),rs.reverse[j]?=some x->gs.reverse[j]?=some y->x=y\/H6 o j=false/\x.h=y.h
 |[],[],_=>⟨rfl,fun j x y t=>by simp at t⟩
 |x::rs,y::gs,h=>by
  obtain⟨q,r⟩:=h;obtain⟨m,s⟩:=Vk r;refine⟨by simp[m],fun j u w g d=>?_⟩;rw[List.reverse_cons] at g d;rcases Nat.lt_trichotomy j gs.length with i|i|i;rw[List.getElem?_append_left (by simpa [m] using i)] at g;rw[List.getElem?_append_left (by simpa using i)] at d;exact s j u w g d;subst i;rw[List.getElem?_append_right (by simp[m])] at g;rw[List.getElem?_append_right (by simp)] at d;simp[m] at g d;subst g;subst d;exact q;rw[List.getElem?_eq_none (by simp;omega)] at d;cases d
def oe (P:Program) (K:FuncId->List Value->Option dU) (M n:Nat) (iR:Nat->Option Tmp) (r:Nat) (m:List (Nat×Nat)) (o:Oper) (g:Nat->Ek->AH->List WR->(List WR->Ek->AH->Prop)->Prop) (i:Nat) (a:Ek) (h:AH) (rs:List WR) (q:List WR->Ek->AH->Prop):Prop:=match o with
 |⟨dst,op,_,_,_,guard⟩=>nK (i+1) fun j=>wG iR a guard
  (fun a=>ml m i a rs fun R=>R8 (ra op) a fun d=>(match N4 a op with
   |some x=>jk M op dst a x fun k=>nE P a x fun v=>Fb n d dst v k fun d=>R h v true fun rs=>g j d h rs q
   |none=>Ts M op dst fun k=>pq P K i r a h (fun v s=>Fb n d dst v k fun d=>R h v true fun rs=>g j d s rs q) op))
  (fun a=>ml m i a rs fun R=>Fb n a dst undef .sk fun d=>R h undef false fun rs=>g j d h rs q)
def dj (P:Program) (K:FuncId->List Value->Option dU) (M n:Nat) (iR:Nat->Option Tmp) (r:Nat) (d:List (Nat×Nat)) (os:List Oper):Nat->Ek->AH->List WR->(List WR->Ek->AH->Prop)->Prop:=
 List.rec (fun _ a h i q=>q i a h) (fun o _ g=>oe P K M n iR r d o g) os
def au (all:List Oper) (rs:List WR) (es:List (List Value)):Prop:=rs.length=es.length/\∀(i:Nat) (o:Oper) (x:WR) (e:List Value),all[i]?=some o->rs[i]?=some x->es[i]?=some e->cK x.a e/\bS ⟨all⟩ e o=some x.iq
theorem au.snoc {all:List Oper} {rs:List WR} {es:List (List Value)} (q:au all rs es) {o:Oper} {x:WR} {e:List Value} (u:all[rs.length]?=some o) (s:cK x.a e) (t:bS ⟨all⟩ e o=some x.iq):au all (rs++[x]) (es++[e]):=by
 refine⟨by simp[q.1],fun i v y r d g j=>?_⟩;rcases Nat.lt_trichotomy i rs.length with m|m|m;rw[List.getElem?_append_left m] at g;rw[List.getElem?_append_left (q.1▸m)] at j;exact q.2 i v y r d g j;subst m;rw[u] at d;cases d;simp at g;subst g;rw[q.1] at j;simp at j;subst j;exact⟨s,t⟩;rw[List.getElem?_eq_none (by simp;omega)] at g;cases g
theorem Oi {M n:Nat} {all:List Oper} {r:Nat} {D:List (Nat×Nat)}:∀{os:List Oper} {i:Nat} {a:Ek} {env:List Value} {h:AH} {rs gs:List WR} {es:List (List Value)} {q:List WR->Ek->AH->Prop},cK a env->env.length=n->gs.length=i->(∀j,all[i+j]?=os[j]?)->au all gs.reverse es->(D≠[]->Rl D rs gs)->
  dj P K M n (fun j=>((⟨all⟩:Array Oper)[j]?).bind (·.dst)) r D os i a h rs q->
  ∃m A B e h' Y,dG P (run P K m) all r i os env h=some (List.zipWith (fun x e=>⟨e,x.h,x.v⟩) A B,e,h')/\A.length=B.length/\au all (gs.reverse++A) (es++B)/\cK Y e/\e.length=n/\∃s,(D≠[]->Rl D s (A.reverse++gs))/\q s Y h'
 |[],i,a,env,h,rs,gs,es,q,ha,V,_,_,T,hg,X=>⟨0,[],[],env,h,a,rfl,rfl,by simpa using T,ha,V,rs,by simpa using hg,X⟩
 |o::os,i,a,env,h,rs,gs,es,q,ha,V,u,U,T,hg,X=>by
  have X:oe P K M n (fun j=>((⟨all⟩:Array Oper)[j]?).bind (·.dst)) r D o (dj P K M n (fun j=>((⟨all⟩:Array Oper)[j]?).bind (·.dst)) r D os) i a h rs q:=X;unfold oe at X;have X:=Qg X;obtain⟨a1,g,hb⟩:=mc (o:=o) ha X;have ho:all[gs.reverse.length]?=some o:=by have:=U 0;rw[List.length_reverse,u];simpa using this
  have N:∀j,all[i+1+j]?=os[j]?:=fun j=>by
   have:=U (j+1);rw[show i+1+j=i+(j+1) by omega,this];simp
  rcases hb with⟨d,hb⟩|⟨d,hb⟩
  .obtain⟨R,hb,hR⟩:=Zz u hg hb;obtain⟨Q,v,S,t,hs,ζ,ι,s,β,ε⟩:∃Q v S t,cI P (run P K Q) all r i env h o=some (v,S)/\cK t (eE env o.dst v)/\(eE env o.dst v).length=n/\
     ∃s,(D≠[]->Rl D s (⟨a1,h,v,true⟩::gs))/\dj P K M n (fun j=>((⟨all⟩:Array Oper)[j]?).bind (·.dst)) r D os (i+1) t S s q:=by
    obtain⟨Y,J,hb⟩:=E0 g hb
    split at hb
    .rename_i x hx;obtain⟨hk,hl⟩:=Od (P:=P) g hx;have η:dD o.op=true:=by
      cases hop:o.op<;>rw[hop] at hk<;>first|(simp[dD,kindOf];done)|(simp[kindOf] at hk)
     have θ:bZ P (bA P env) h o.op=some (bA P env x):=by
      have:=hl h;cases hop:o.op<;>rw[hop] at hk this<;>first|exact this|(simp[kindOf] at hk)
     have fin:∀{t:Ek} {v:Value},v=bA P env x->cK t (eE env o.dst (bA P env x))->(eE env o.dst (bA P env x)).length=n->R h v true (fun rs=>dj P K M n (fun j=>((⟨all⟩:Array Oper)[j]?).bind (·.dst)) r D os (i+1) t h rs q)->
       ∃Q v S t,cI P (run P K Q) all r i env h o=some (v,S)/\cK t (eE env o.dst v)/\(eE env o.dst v).length=n/\∃s,(D≠[]->Rl D s (⟨a1,h,v,true⟩::gs))/\dj P K M n (fun j=>((⟨all⟩:Array Oper)[j]?).bind (·.dst)) r D os (i+1) t S s q:=by
      intro t v e E I C
      subst e
      exact⟨0,_,h,t,by simp[cI,d,η,θ],E,I,hR _ _ _ _ C⟩
     obtain⟨k1,_⟩:=Wh (P:=P) (x:=x) g
     rcases aj hb with⟨y,hy,hb⟩|hb|hb
     .have hb:=cJ g hb;obtain⟨t,E,I,C⟩:=jZ J V (fun z e=>by cases e;exact k1 _ hy) (fun e=>by cases e) hb;exact fin rfl E I C
     .have hb:=cJ g hb;obtain⟨t,E,I,C⟩:=jZ J V (fun _ e=>by cases e) (fun e=>by cases e) hb;exact fin rfl E I C
     .have hb:=cJ g hb;obtain⟨t,E,I,C⟩:=jZ J V (fun _ e=>by cases e) (fun e=>by cases e) hb;exact fin rfl E I C
    .rcases M9 hb with hb|hb
     .obtain⟨Q,v,S,hs,hp⟩:=Z2 g d hb;obtain⟨t,E,I,C⟩:=jZ J V (fun _ e=>by cases e) (fun e=>by cases e) hp;exact⟨Q,v,S,t,hs,E,I,hR _ _ _ _ C⟩
     .obtain⟨Q,v,S,hs,hp⟩:=Z2 g d hb;obtain⟨t,E,I,C⟩:=jZ J V (fun _ e=>by cases e) (fun e=>by cases e) hp;exact⟨Q,v,S,t,hs,E,I,hR _ _ _ _ C⟩
   obtain⟨n2,A,B,e,h',Y,hr,γ,O,Z,δ,hq⟩:=Oi (i:=i+1) ζ ι (by simp[u]) N (by rw[List.reverse_cons];exact T.snoc (x:=⟨a1,h,v,true⟩) ho g d) β ε;refine⟨max Q n2,⟨a1,h,v,true⟩::A,env::B,e,h',Y,?_,by simp[γ],by simpa using O,Z,δ,by simpa using hq⟩;simp only[dG,xF (fD (Nat.le_max_left Q n2)) hs,qU (fD (Nat.le_max_right Q n2)) _ hr];rfl
  obtain⟨R,hb,hR⟩:=Zz u hg hb;obtain⟨t,E,I,C⟩:=jZ g V (fun _ e=>by cases e) (fun _=>rfl) hb;obtain⟨s,β,C⟩:=hR _ _ _ _ C;obtain⟨n2,A,B,e,h',Y,hr,γ,O,Z,δ,hq⟩:=Oi (i:=i+1) E I (by simp[u]) N (by rw[List.reverse_cons];exact T.snoc (x:=⟨a1,h,undef,false⟩) ho g d) β C;refine⟨n2,⟨a1,h,undef,false⟩::A,env::B,e,h',Y,?_,by simp[γ],by simpa using O,Z,δ,by simpa using hq⟩;have hs:cI P (run P K n2) all r i env h o=some (undef,h):=by simp only[cI,d]
  simp only[dG,hs,hr];rfl
def Sd (P:Program) (all:List Oper) (rs:List WR) (hEnd:AH) (x:Nat×Nat) (d:Prop->Prop) (p:Prop):Prop:=match x with
 |(i,s)=>(match all[i]?,rs[i]? with
  |some o,some ⟨a,_,v,true⟩=>(match rs[s]? with
   |some ⟨_,h,_,_⟩=>ij P a h (fun x=>mA x v=true) o.op/\d p
   |none=>ij P a hEnd (fun x=>mA x v=true) o.op/\d p)
  |some _,some ⟨_,_,_,false⟩=>d p
  |_,_=>hF)
def Y6 (P:Program) (all:List Oper) (rs:List WR) (hEnd:AH) (fs:List (Nat×Nat)):Prop->Prop:=List.rec (fun p=>p) (fun x _ d=>Sd P all rs hEnd x d) fs
theorem Ug {all:List Oper} {rs:List WR} {es:List (List Value)} {hEnd:AH} (g:au all rs es) {p:Prop}:∀{fs:List (Nat×Nat)},Y6 P all rs hEnd fs p->(fs.all (kP P all (List.zipWith (fun x e=>⟨e,x.h,x.v⟩) rs es) hEnd)=true)/\p
 |[],m=>⟨rfl,m⟩
 |(i,s)::fs,m=>by
  change Sd P all rs hEnd (i,s) (Y6 P all rs hEnd fs) p at m;unfold Sd at m;simp only at m;have I:∀{j:Nat} {x:WR},rs[j]?=some x->∃e,es[j]?=some e/\(List.zipWith (fun x e=>(⟨e,x.h,x.v⟩:Rec)) rs es)[j]?=some ⟨e,x.h,x.v⟩:=by
   intro j x r;have O:j<es.length:=by rw[<-g.1];exact(List.getElem?_eq_some_iff.1 r).1
   exact⟨es[j],by simp[O],by simp[List.getElem?_zipWith,r,O]⟩
  split at m;rename_i o a h v y r;obtain⟨e,C,t⟩:=I r;obtain⟨N,d⟩:=g.2 i o _ e y r C;have fin:∀{z:AH},(match(List.zipWith (fun x e=>(⟨e,x.h,x.v⟩:Rec)) rs es)[s]? with|some q=>q.h|none=>hEnd)=z->ij P a z (fun x=>mA x v=true) o.op/\Y6 P all rs hEnd fs p->(((i,s)::fs).all (kP P all (List.zipWith (fun x e=>⟨e,x.h,x.v⟩) rs es) hEnd)=true)/\p:=by
   intro z D ⟨Q,R⟩;obtain⟨A,B⟩:=Ug g R;refine⟨?_,B⟩;obtain⟨_,u,S,T⟩:=Zy N Q;rw[List.all_cons,A,Bool.and_true];cases hc:(List.zipWith (fun x e=>(⟨e,x.h,x.v⟩:Rec)) rs es)[s]?<;>(rw[hc] at D;simp only at D;subst D;simp only[kP,y,t,d,hc,S,T])
  split at m;rename_i E;obtain⟨U,_,J⟩:=I E;exact fin (by rw[J]) m;rename_i E;have:(List.zipWith (fun x e=>(⟨e,x.h,x.v⟩:Rec)) rs es)[s]?=none:=by simp[List.getElem?_zipWith,E]
  exact fin (by rw[this]) m;rename_i o a h v y r;obtain⟨e,C,t⟩:=I r;obtain⟨N,d⟩:=g.2 i o _ e y r C;obtain⟨A,B⟩:=Ug g m;refine⟨?_,B⟩;rw[List.all_cons,A,Bool.and_true];simp only[kP,y,t,d];cases m
def my:List (Nat×Nat)->List (Nat×Nat)->Bool
 |[],[]=>true
 |(a,b)::l,(c,d)::m=>Nat.beq a c&&(Nat.beq b d&&my l m)
 |_,_=>false
theorem ag:∀{l m:List (Nat×Nat)},my l m=true->l=m
 |[],[],_=>rfl
 |(a,b)::l,(c,d)::m,h=>by
  simp only[my,Bool.and_eq_true] at h;rw[Nat.eq_of_beq_eq_true h.1,Nat.eq_of_beq_eq_true h.2.1,ag h.2.2]
 |[],_::_,h=>by cases h
 |_::_,[],h=>by cases h
def af (P:Program) (ops:Array Oper) (d:List (Nat×Nat)):Bool:=vS ops.toList&&(P.follows .mixedOrders|| !Region.departs ops)&&my (tJ ops.toList) d
def Yu:List (Nat×List (Nat×Nat))->Nat->(List (Nat×Nat)->Prop)->Prop
 |[],_,q=>hP (q [])
 |(i,l)::F,id,q=>(match Nat.beq i id with
  |true=>q l
  |false=>Yu F id q)
theorem Us:∀{F:List (Nat×List (Nat×Nat))} {id:Nat} {q:List (Nat×Nat)->Prop},Yu F id q->∃l,q l
 |[],_,_,h=>⟨_,h⟩
 |_::F,_,_,h=>by
  unfold Yu at h;split at h;exact⟨_,h⟩;exact Us (F:=F) h
theorem Da {all:List Oper} {rs gs:List WR} {hEnd:AH} {p:Prop} {A:List (Nat×Nat)} (q:rs.length=gs.length) (v:∀(j:Nat) (x y:WR),rs[j]?=some x->gs[j]?=some y->x=y\/H6 A j=false/\x.h=y.h):
  ∀{fs:List (Nat×Nat)},(∀x∈fs,H6 A x.1=true)->Y6 P all rs hEnd fs p->Y6 P all gs hEnd fs p
 |[],_,g=>g
 |(i,s)::fs,C,g=>by
  change Sd P all rs hEnd (i,s) (Y6 P all rs hEnd fs) p at g;show Sd P all gs hEnd (i,s) (Y6 P all gs hEnd fs) p;have z:=Da (hEnd:=hEnd) (all:=all) (p:=p) q v (fs:=fs) fun x E=>C x (List.mem_cons_of_mem _ E);have D:rs[i]?=gs[i]?:=by
   have u:=C (i,s) List.mem_cons_self;rcases Nat.lt_or_ge i rs.length with d|r;have B:rs[i]?=some rs[i]:=List.getElem?_eq_getElem d;have o:gs[i]?=some (gs[i]'(q▸d)):=List.getElem?_eq_getElem _;rcases v i _ _ B o with m|⟨m,_⟩;rw[B,o,m];rw[u] at m;cases m;rw[List.getElem?_eq_none r,List.getElem?_eq_none (q▸r)]
  unfold Sd at g ⊢;simp only at g ⊢;rw[<-D];split at g;split at g;rename_i I u v1 J t;have d:s<rs.length:=(List.getElem?_eq_some_iff.1 t).1;have o:gs[s]?=some (gs[s]'(q▸d)):=List.getElem?_eq_getElem _;have m:u=(gs[s]'(q▸d)).h:=by
   rcases v s _ _ t o with m|⟨_,m⟩;rw[<-m];exact m
  rw[o];generalize gs[s]'(q▸d)=y at m;subst m;exact⟨g.1,z g.2⟩;rename_i t;have o:gs[s]?=none:=by
   rw[List.getElem?_eq_none_iff] at t ⊢;omega
  rw[o];exact⟨g.1,z g.2⟩;exact z g;cases g
theorem Sm:∀{d:List (Nat×Nat)} {x:Nat×Nat},x∈d->H6 d x.1=true
 |(a,b)::l,x,h=>by
  unfold H6;split;rfl;rename_i e;rcases List.mem_cons.1 h with rfl|h;rw[Nat.beq_refl] at e;cases e;exact Sm h
def qe (q:List WR->Prop):List WR->List WR->Prop
 |[],acc=>hP (q acc)
 |x::l,acc=>qe q l (x::acc)
theorem bf {q:List WR->Prop}:∀{l acc:List WR},qe q l acc->q (l.reverse++acc)
 |[],_,h=>h
 |x::l,acc,h=>by have:=bf (l:=l) h;simpa using this
def Zs (P:Program) (K:FuncId->List Value->Option dU) (M n:Nat) (F:List (Nat×List (Nat×Nat))) (id:Nat) (ops:Array Oper) (a:Ek) (h:AH) (q:Ek->AH->Prop):Prop:=
 Yu F id fun d=>nK ops.size fun m=>Q2 (af P ops d) h m fun r s=>(match d with
  |[]=>dj P K M n (fun j=>(ops[j]?).bind (·.dst)) r [] ops.toList 0 a s [] fun _ i g=>q i g
  |d=>dj P K M n (fun j=>(ops[j]?).bind (·.dst)) r d ops.toList 0 a s [] fun o i g=>qe (fun o=>Y6 P ops.toList o g d (q i g)) o [])
theorem X7 {M n:Nat} {F:List (Nat×List (Nat×Nat))} {id:Nat} {ops:Array Oper} {a:Ek} {env:List Value} (U:cK a env) (V:env.length=n) {h:AH} {q:Ek->AH->Prop} (A:Zs P K M n F id ops a h q):∃m e s t,jG P (run P K m) ops env h=some (e,s)/\cK t e/\e.length=n/\q t s:=by
 obtain⟨fl,A⟩:=Us A;obtain⟨C,A⟩:=Qg A;unfold af at C;rw[Bool.and_eq_true] at C;have I:=ag C.2;subst I;obtain⟨m,d,g,e,s,t,B,D,y,u,v,z⟩:∃m d g e s t,dG P (run P K m) ops.toList h.next 0 ops.toList env {h with next:=h.next+ops.size}=some (List.zipWith (fun x e=>⟨e,x.h,x.v⟩) d g,e,s)/\d.length=g.length/\au ops.toList d g/\cK t e/\e.length=n/\Y6 P ops.toList d s (tJ ops.toList) (q t s):=by
  have Q:au ops.toList ([]:List WR).reverse []:=⟨rfl,fun i o x e _ N=>by simp at N⟩;split at A;rename_i E;obtain⟨m,d,g,e,s,t,B,D,y,u,v,O,_,z⟩:=Oi (all:=ops.toList) (r:=h.next) (i:=0) (gs:=[]) (es:=[]) U V rfl (fun j=>by simp) Q (fun e=>absurd rfl e) A;exact⟨m,d,g,e,s,t,B,D,by simpa using y,u,v,by rw[E];exact z⟩;rename_i E;obtain⟨m,d,g,e,s,t,B,D,y,u,v,O,J,z⟩:=Oi (all:=ops.toList) (r:=h.next) (i:=0) (rs:=[]) (gs:=[]) (es:=[]) U V rfl (fun j=>by simp) Q (fun _=>trivial) A;have R:=J (fun e=>E e);rw[List.append_nil] at R;obtain⟨X,Y⟩:=Vk R;have S:=bf z;rw[List.append_nil] at S;have T:=Da (by simpa using X) Y (fun x N=>Sm N) S;rw[List.reverse_reverse] at T;exact⟨m,d,g,e,s,t,B,D,by simpa using y,u,v,T⟩
 obtain⟨Z,z⟩:=Ug y z;refine⟨m,e,s,t,?_,u,v,z⟩;unfold jG;rw[tu C.1,B];simp only;rw[tu Z]
end
end Go.Ab
end
section
namespace Go.Ab
noncomputable section
variable {P:Program} {K:FuncId->List Value->Option dU}
inductive It where
 |code (p:List Nat) (c:Code)|inBlock (id:Nat)|inLoop (p:List Nat) (b:Code)|inScope (b:Code)|beginRound
def It.it:It->Item
 |.code _ c=> .code c
 |.inBlock id=> .inBlock id
 |.inLoop _ b=> .inLoop b
 |.inScope b=> .inScope b
 |.beginRound=> .beginRound
abbrev uX (k:List It):List Item:=k.map It.it
def gZ (b:Nat) (p:List Nat) (x:Code×List It):Code×List It:=match x.1,b with
 |.seq c d,0=>(c,.code (1::p) d::x.2)
 |.seq _ d,1=>(d,x.2)
 |.cond _ t _,0=>(t,x.2)
 |.cond _ _ e,1=>(e,x.2)
 |.block id c,0=>(c,.inBlock id::x.2)
 |.loop c,0=>(c,.inLoop (0::p) c::x.2)
 |.scope c,0=>(c,.inScope c::x.2)
 |.rangeFunc _ _ a c,0=>(a,[.beginRound,.code (1::p) c])
 |.rangeFunc _ _ _ c,1=>(c,[])
 |_,_=>(.skip,[])
def ctx (P:Program) (f:FuncId):List Nat->Code×List It
 |[]=>((zA P f).getD .skip,[])
 |b::p=>gZ b p (ctx P f p)
def Good (P:Program) (f:FuncId):List It->Prop
 |[]=>True
 |.code p c::k=>ctx P f p=(c,k)/\Good P f k
 |.inLoop p b::k=>ctx P f p=(b,.inLoop p b::k)/\Good P f k
 |_::k=>Good P f k
def mH (id:Nat):List It->Option (List It)
 |[]=>none
 |.inBlock i::k=>(match Nat.beq i id with
  |true=>some k
  |false=>mH id k)
 |_::k=>mH id k
theorem mF {f:FuncId} {id:Nat}:∀{k k':List It},mH id k=some k'->exitTo id (uX k)=some (uX k')/\(Good P f k->Good P f k')
 |[],_,h=>by cases h
 |x::k,k',h=>by
  cases x with
  |inBlock i=>
   unfold mH at h;split at h;rename_i e;cases h;have:=Nat.eq_of_beq_eq_true e;subst this;exact⟨by simp[uX,It.it,exitTo],fun g=>g⟩;rename_i e;obtain⟨d,j⟩:=mF (f:=f) h;refine⟨?_,fun g=>j g⟩;have:(i==id)=false:=by simpa using Nat.ne_of_beq_eq_false e
   simpa [uX,It.it,exitTo,this] using d
  |code p c=>obtain⟨d,j⟩:=mF (f:=f) (k:=k) h;exact⟨d,fun g=>j g.2⟩
  |inLoop p c=>obtain⟨d,j⟩:=mF (f:=f) (k:=k) h;exact⟨d,fun g=>j g.2⟩
  |inScope c=>obtain⟨d,j⟩:=mF (f:=f) (k:=k) h;exact⟨d,fun g=>j g⟩
  |beginRound=>obtain⟨d,j⟩:=mF (f:=f) (k:=k) h;exact⟨d,fun g=>j g⟩
theorem mG {id:Nat}:∀{k:List It},mH id k=none->exitTo id (uX k)=none
 |[],_=>rfl
 |x::k,h=>by
  cases x with
  |inBlock i=>
   unfold mH at h;split at h;cases h;rename_i e;have:(i==id)=false:=by simpa using Nat.ne_of_beq_eq_false e
   simpa [uX,It.it,exitTo,this] using mG h
  |code p c=>exact mG (k:=k) h
  |inLoop p c=>exact mG (k:=k) h
  |inScope c=>exact mG (k:=k) h
  |beginRound=>exact mG (k:=k) h
def fM:Nat->List It->List It
 |0,k=>k
 |n+1,k=>match k with
  |.code p c::d=>(match c with
   |.skip=>fM n d
   |.label _=>fM n d
   |.seq a b=>fM n (.code (0::p) a:: .code (1::p) b::d)
   |.block id b=>fM n (.code (0::p) b:: .inBlock id::d)
   |.scope b=>fM n (.code (0::p) b:: .inScope b::d)
   |.loop b=>fM n (.code (0::p) b:: .inLoop (0::p) b::d)
   |.exit id=>(match mH id d with
    |some g=>fM n g
    |none=>k)
   |_=>k)
  |.inBlock _::d=>fM n d
  |.inScope _::d=>fM n d
  |.inLoop p b::d=>fM n (.code p b:: .inLoop p b::d)
  |_=>k
section
variable {f:FuncId} {p:List Nat} {k:List It} {a b c:Code} {id:Nat}
theorem Good.seq (g:Good P f (.code p (.seq a b)::k)):Good P f (.code (0::p) a:: .code (1::p) b::k):=by
 obtain⟨d,i⟩:=g;exact⟨by simp only[ctx,d,gZ],by simp only[ctx,d,gZ],i⟩
theorem Good.block (g:Good P f (.code p (.block id b)::k)):Good P f (.code (0::p) b:: .inBlock id::k):=by
 obtain⟨d,i⟩:=g;exact⟨by simp only[ctx,d,gZ],i⟩
theorem Good.scope (g:Good P f (.code p (.scope b)::k)):Good P f (.code (0::p) b:: .inScope b::k):=by
 obtain⟨d,i⟩:=g;exact⟨by simp only[ctx,d,gZ],i⟩
theorem Good.loop (g:Good P f (.code p (.loop b)::k)):Good P f (.code (0::p) b:: .inLoop (0::p) b::k):=by
 obtain⟨d,i⟩:=g;exact⟨by simp only[ctx,d,gZ],by simp only[ctx,d,gZ],i⟩
theorem Good.again (g:Good P f (.inLoop p b::k)):Good P f (.code p b:: .inLoop p b::k):=⟨g.1,g⟩
end
theorem gR {f:FuncId}:∀(n:Nat) {k:List It},Good P f k->uX (fM n k)=gM n (uX k)/\Good P f (fM n k)
 |0,_,g=>⟨rfl,g⟩
 |_+1,[],g=>⟨rfl,g⟩
 |n+1,.inBlock _::k,g=>gR n (k:=k) g
 |n+1,.inScope _::k,g=>gR n (k:=k) g
 |n+1,.inLoop _ _::_,g=>gR n g.again
 |_+1,.beginRound::_,g=>⟨rfl,g⟩
 |n+1,.code p c::k,g=>by
  cases c with
  |skip=>exact gR n g.2
  |label _=>exact gR n g.2
  |seq a b=>exact gR n g.seq
  |block id b=>exact gR n g.block
  |scope b=>exact gR n g.scope
  |loop b=>exact gR n g.loop
  |exit id=>
   show uX (match mH id k with|some d=>fM n d|none=>_)=(match exitTo id (uX k) with|some d=>gM n d|none=>_)/\Good P f (match mH id k with|some d=>fM n d|none=>_);cases hx:mH id k with
   |some d=>
    obtain⟨i,j⟩:=mF (P:=P) (f:=f) hx;rw[i];exact gR n (j g.2)
   |none=>rw[mG hx];exact⟨rfl,g⟩
  |_=>exact⟨rfl,g⟩
end
end Go.Ab
end
section
namespace Go.Ab
noncomputable section
variable {P:Program} {K:FuncId->List Value->Option dU}
structure FT where
 L:List (Nat×List Nat)
 R:List (Nat×List Nat)
 hr:Bool
 M:Nat:=0
 F:List (Nat×List (Nat×Nat)):=[]
def q7 (l:List (List FT)) (f:FuncId):FT:=((l[f/16]?).getD [])[f % 16]?.getD ⟨[],[],false,0,[]⟩
def peq:List Nat->List Nat->Bool
 |[],[]=>true
 |a::l,b::m=>(match Nat.beq a b with
  |true=>peq l m
  |false=>false)
 |_,_=>false
theorem a8:∀{l m:List Nat},peq l m=true->l=m
 |[],[],_=>rfl
 |a::l,b::m,h=>by
  unfold peq at h;split at h;rename_i e;rw[Nat.eq_of_beq_eq_true e,a8 h];cases h
 |[],_::_,h=>by cases h
 |_::_,[],h=>by cases h
def qZ:List Nat->Nat
 |[]=>1
 |b::p=>2*qZ p+b
def Jv:List (Nat×List Nat)->List Nat->Nat->(Nat->Nat->List Nat->Prop)->Prop
 |[],_,_,_=>hF
 |(n,d)::L,p,i,q=>(match Nat.beq (qZ p) n with
  |true=>(match peq p.reverse (yD n) with
   |true=>q i n d
   |false=>hF)
  |false=>nK (i+1) fun i=>Jv L p i q)
theorem Ew:∀{L:List (Nat×List Nat)} {p:List Nat} {i:Nat} {q:Nat->Nat->List Nat->Prop},Jv L p i q->∃j n d,L[j]?=some (n,d)/\p=(yD n).reverse/\q (i+j) n d
 |[],_,_,_,h=>h.elim
 |(n,d)::L,p,i,q,h=>by
  unfold Jv at h;split at h;split at h;rename_i e;exact⟨0,n,d,rfl,by rw[<-a8 e,List.reverse_reverse],h⟩;cases h;obtain⟨j,s,g,m,o,r⟩:=Ew (Qg h);exact⟨j+1,s,g,m,o,by rw[show i+(j+1)=i+1+j by omega];exact r⟩
def I8 (a:Ek):List Nat->(List Value->Prop)->Prop
 |[],q=>q []
 |t::d,q=>(match a.lk t with
  |some (v,_)=>I8 a d fun g=>q (v::g)
  |none=>hF)
theorem E8 {a:Ek} {env:List Value} (d:cK a env):∀{lv:List Nat} {q:List Value->Prop},I8 a lv q->q (lv.map fun t=>env.getD t undef)
 |[],_,h=>h
 |t::lv,q,h=>by
  unfold I8 at h;split at h;rename_i i;have g:=(d _ _ _ i).1;have:=E8 d (lv:=lv) h;simpa only[List.map_cons,List.getD_eq_getElem?_getD,g,Option.getD_some] using this;cases h
def la (P:Program) (K:FuncId->List Value->Option dU) (T:FT) (f:FuncId) (g:Option Nat) (Q:Out->AH->Prop) (i:Nat) (d:List Nat) (vs:List Value) (h:AH):Prop:=
 Pt P K f g Q (lg P f) ((T.L[i]?).getD (0,[])).2 (.code (ctx P f (yD ((T.L[i]?).getD (0,[])).1).reverse).1::uX (ctx P f (yD ((T.L[i]?).getD (0,[])).1).reverse).2) d vs h
def wE (T:FT) (a:Ek) (k:List It) (q:Nat->List Value->Prop):Prop:=match k with
 |.code p _::_=>Jv T.L p 0 fun i _ d=>I8 a d fun g=>q i g
 |_=>hF
theorem Xn {T:FT} {f:FuncId} {o:Option Nat} {Q:Out->AH->Prop} {m:List Nat} {h:AH} {a:Ek} {env:List Value} {k:List It} (s:cK a env) (v:env.length=lg P f) (u:Good P f k) (g:wE T a k fun i x=>la P K T f o Q i m x h):Ok P K (.todo f o m env (uX k)) h Q:=by
 unfold wE at g;split at g;obtain⟨j,n,y,q,r,d⟩:=Ew g;have d:=E8 s d;simp only[la,Nat.zero_add,q,Option.getD_some,<-r,u.1] at d;have:=d (fun t=>env.getD t undef) rfl;rwa [Dh v] at this;cases g
def Jh (P:Program) (a:Ek) (h:AH) (r:ResultVar) (d:(List Value->Prop)->Prop) (p:List Value->Prop):Prop:=match r with
 |.tmp t=>(match a.lk t with
  |some (v,_)=>d fun l=>p (v::l)
  |none=>hF)
 |.cell x t=>(match a.lk x with
  |some (v,_)=>(match eF P t with
   |some true=>Hc P t fun n=>aK (sW h n v) fun v=>d fun l=>p (v::l)
   |some false=>aK (vH h v) fun v=>d fun l=>p (v::l)
   |none=>hF)
  |none=>hF)
def Qm (P:Program) (a:Ek) (h:AH) (rs:List ResultVar):(List Value->Prop)->Prop:=List.rec (fun p=>p []) (fun r _ d=>Jh P a h r d) rs
theorem Bx {a:Ek} {env:List Value} (g:cK a env) {h:AH}:∀{rs:List ResultVar} {p:List Value->Prop},Qm P a h rs p->Gs P h env rs p
 |[],_,d=>d
 |.tmp t::rs,p,d=>by
  have d:Jh P a h (.tmp t) (Qm P a h rs) p:=d;unfold Jh at d;simp only at d;split at d;rename_i m;have i:=(g _ _ _ m).1;have:=Bx g (rs:=rs) d;simpa only[Gs,List.getD_eq_getElem?_getD,i,Option.getD_some] using this;cases d
 |.cell x t::rs,p,d=>by
  have d:Jh P a h (.cell x t) (Qm P a h rs) p:=d;unfold Jh at d;simp only at d;split at d;rename_i m;have i:=(g _ _ _ m).1;simp only[Gs,List.getD_eq_getElem?_getD,i,Option.getD_some];split at d;rename_i j;simp only[j];exact(kG d).2.mono fun v o=>Bx g o;rename_i j;simp only[j];exact d.mono fun v o=>Bx g o;cases d;cases d
def Zq (Q:Value->AH->Prop) (l:List Value) (h:AH):Prop:=match l with
 |[v]=>Q v h
 |l=>hP (Q (.tuple ⟨l⟩) h)
theorem cy {Q:Value->AH->Prop} {h:AH}:(fun l=>Zq Q l h)=fun l=>Q (oneOf l) h:=funext fun l=>match l with
 |[]=>rfl
 |[_]=>rfl
 |_::_::_=>rfl
def Zj (P:Program) (f:FuncId) (j:Bool) (Q:Value->AH->Prop) (lv:nW) (g:List Nat) (a:Ek) (h:AH):Prop:=match lv with
 |.exit _=>hF
 |_=>(match j with
  |true=>aK (aR g h) fun i=>Qm P a i ((P.funcs[f]?).elim [] fun d=>d.results.toList) fun l=>Zq Q l i
  |false=>(match g with
   |[]=>Qm P a h ((P.funcs[f]?).elim [] fun d=>d.results.toList) fun l=>Zq Q l h
   |_=>hF))
theorem Uw {f:FuncId} {t:Bool} {Q:Value->AH->Prop} {lv:nW} {m:List Nat} {a:Ek} {env:List Value} {h:AH} (q:cK a env) (g:Zj P f t Q lv m a h):Nh P f Q ⟨lv,m,env,undef⟩ h:=by
 have j:(∀id,lv≠.exit id)->(aK (aR m h) fun i=>Qm P a i ((P.funcs[f]?).elim [] fun s=>s.results.toList) fun l=>Zq Q l i)->Nh P f Q ⟨lv,m,env,undef⟩ h:=by
  intro d ⟨i,r,o⟩;simp only[cy] at o;refine Nw ?_;unfold bz;cases lv with
  |exit id=>exact absurd rfl (d id)
  |eM=>exact⟨i,r,Bx q o⟩
  |ret=>exact⟨i,r,Bx q o⟩
 unfold Zj at g;split at g;cases g;rename_i d;split at g;exact j (fun id e=>d id e) g;split at g;exact j (fun id e=>d id e) ⟨h,rfl,g⟩;cases g
end
end Go.Ab
end
section
namespace Go.Ab
noncomputable section
variable {P:Program} {K:FuncId->List Value->Option dU}
def Tw:List It->Bool
 |[]=>true
 |.code _ .ret::_=>true
 |.code _ (.exit _)::_=>true
 |_=>false
def Me (k:List It):Bool:=match fM 60 k with
 |.code _ (.region _ _ _)::d=>Tw (fM 60 d)
 |d=>Tw d
def qh (P:Program) (K:FuncId->List Value->Option dU) (f:FuncId) (m:Nat) (g:Value) (num:Nat) (lv:List Nat) (vs:List Value) (d:Nat) (h:AH) (q:Option Code->AH->Prop):Prop:=
 ∀e:Nat->Value,lv.map e=vs->tX h (lp P f (yD num) m e d .ready none) fun l i=>Lu P K g l i fun _ j=>aK (mZ j l) fun r=>(match r with|(pd,o)=>q pd o)
def ny (P:Program) (K:FuncId->List Value->Option dU) (E:List Nat->Ek->List It->AH->Prop) (F:nW->List Nat->Ek->AH->Prop) (T:FT) (f:FuncId) (m:Nat) (A:Option Nat) (i:List Nat->Ek->List It->AH->Prop) (g:List Nat) (a:Ek) (k:List It) (h:AH):Prop:=(match k with
  |[]=>F .eM g a h
  |.code p c::k=>(match c with
   |.skip=>i g a k h
   |.label _=>i g a k h
   |.seq x y=>i g a (.code (0::p) x:: .code (1::p) y::k) h
   |.cond c t e=>(match ic a c with
    |.b true=>i g a (.code (0::p) t::k) h
    |.b false=>i g a (.code (1::p) e::k) h
    |_=>nE P a c fun v=>Br v
     (match Me (.code (0::p) t::k) with
     |true=>i g a (.code (0::p) t::k) h
     |false=>E g a (fM 60 (.code (0::p) t::k)) h)
     (match Me (.code (1::p) e::k) with
     |true=>i g a (.code (1::p) e::k) h
     |false=>E g a (fM 60 (.code (1::p) e::k)) h))
   |.block id b=>i g a (.code (0::p) b:: .inBlock id::k) h
   |.loop b=>E g a (fM 60 (.code (0::p) b:: .inLoop (0::p) b::k)) h
   |.scope b=>i g a (.code (0::p) b:: .inScope b::k) h
   |.exit id=>(match mH id k with
    |some r=>i g a r h
    |none=>(match A with
     |some _=>F (.exit id) g a h
     |none=>hF))
   |.ret=>F .ret g a h
   |.region _ ops false=>Yd P K T.M m (fun j=>(ops[j]?).bind (·.dst)) ops.toList a h fun u o=>i g u k o
   |.region id ops true=>Zs P K T.M m T.F id ops a h fun u o=>i g u k o
   |.rangeFunc s _ _ q=>nE P a s fun s=>Jv T.R p 0 fun _ num z=>I8 a z fun B=>(match A with
    |none=>tX h (.marks true) fun d C=>qh P K f m s num z B d C fun pd o=>nO pd (i (d::g) a k o) (F .ret (d::g) a o)
      ((dX q).map fun id=>(id,(match mH id k with
       |some r=>i (d::g) a r o
       |none=>hF)))
    |some l=>aK (eD h l) fun d=>qh P K f m s num z B d h fun pd o=>nO pd (i g a k o) (F .ret g a o)
      ((dX q).map fun id=>(id,(match mH id k with
       |some r=>i g a r o
       |none=>F (.exit id) g a o))))
   |_=>hF)
  |.inBlock _::k=>i g a k h
  |.inScope _::k=>i g a k h
  |.inLoop p b::k=>E g a (fM 60 (.code p b:: .inLoop p b::k)) h
  |.beginRound::k=>(match A with
   |some l=>aK (fP h l) fun o=>i g a k o
   |none=>hF))
def wT (P:Program) (K:FuncId->List Value->Option dU) (E:List Nat->Ek->List It->AH->Prop) (F:nW->List Nat->Ek->AH->Prop) (T:FT) (f:FuncId) (m:Nat) (g:Option Nat) (n:Nat):List Nat->Ek->List It->AH->Prop:=
 Nat.rec (fun _ _ _ _=>hF) (fun _ d=>ny P K E F T f m g d) n
theorem Qu {b:Nat} {p q:List Nat} {c:Code} {k k':List It}:(gZ b p (c,k)).1=(gZ b q (c,k')).1:=by
 unfold gZ;rcases b with _|_|b<;>cases c<;>rfl
theorem Un {b:Nat} {c:Code} {l:List Nat}:sub c (b::l)=sub (gZ b [] (c,[])).1 l:=by
 have d:∀l:List Nat,sub .skip l= .skip:=fun l=>by cases l<;>simp[sub]
 rcases b with _|_|b<;>cases c<;>simp[sub,gZ,d]
theorem sub_fold:∀(l:List Nat) (c:Code),sub c l=l.foldl (fun c b=>(gZ b [] (c,[])).1) c
 |[],c=>by simp[sub]
 |b::l,c=>by rw[Un,sub_fold l];rfl
theorem Gx {f:FuncId}:∀p:List Nat,(ctx P f p).1=sub ((zA P f).getD .skip) p.reverse
 |[]=>by simp[ctx,sub]
 |b::p=>by
  have d:(ctx P f (b::p)).1=(gZ b [] ((ctx P f p).1,[])).1:=Qu;rw[d,Gx p,List.reverse_cons,sub_fold,sub_fold,List.foldl_append];rfl
theorem aa {f:FuncId} {m:Nat} {x:Operand} {s:Value} {num:Nat} {lv:List Nat} {env:List Value} {ps:Array Tmp} {r j:Code} {d:Nat} {h:AH} {q:Option Code->AH->Prop} (A:env.length=m) (y:cd P f (yD num)= .rangeFunc x ps r j)
  (B:qh P K f m s num lv (lv.map fun t=>env.getD t undef) d h q):
  ∃n g first i o u p v,s= .func (.func g) first i/\eA P g=true/\run P K n (.call g (first.toList++[.func (.yield h.next) #[] #[]]++i.toList)) (h.alloc (.loop .ready none f env ps r j d))=some (o,u)/\
   mZ u h.next=some (p,v)/\q p v:=by
 subst A
 refine Ao (lv:=lv) ?_
 intro e z
 have:=B e z
 simp only[lp,y,iv] at this
 exact this
theorem iL {f:FuncId} {g:Option Nat} {d:List Nat} {env:List Value} {k k':List Item} {h:AH} {Q:Out->AH->Prop} (j:Ok P K (.todo f g d env k') h Q) (i:∀m,run P K (m+1) (.todo f g d env k) h=run P K m (.todo f g d env k') h):Ok P K (.todo f g d env k) h Q:=tV i j
theorem Zb {E:List Nat->Ek->List It->AH->Prop} {F:nW->List Nat->Ek->AH->Prop} {T:FT} {f:FuncId} {m:Nat} {R:Option Nat} {Q:Out->AH->Prop}
  (hE:∀s a env k h,cK a env->env.length=m->Good P f k->E s a k h->Ok P K (.todo f R s env (uX k)) h Q) (hF:∀lv s a env h,cK a env->F lv s a h->Q ⟨lv,s,env,undef⟩ h):
  ∀(n:Nat) {s:List Nat} {a:Ek} {env:List Value} {k:List It} {h:AH},cK a env->env.length=m->Good P f k->wT P K E F T f m R n s a k h->Ok P K (.todo f R s env (uX k)) h Q
 |0,_,_,_,_,_,_,_,_,i=>i.elim
 |n+1,s,a,env,k,h,q,A,u,i=>by
  have D:∀{s:List Nat} {a:Ek} {env:List Value} {k:List It} {h:AH},cK a env->env.length=m->Good P f k->wT P K E F T f m R n s a k h->Ok P K (.todo f R s env (uX k)) h Q:=fun x y z w=>Zb hE hF n x y z w;have nm:∀{k:List It},Good P f k->E s a (fM 60 k) h->Ok P K (.todo f R s env (uX k)) h Q:=fun g Z=>by
   obtain⟨U,h2⟩:=gR (P:=P) (f:=f) 60 g;exact tL 60 (U▸hE _ _ _ _ _ q A h2 Z)
  have go:∀{V:List It},Good P f V->(match Me V with
     |true=>wT P K E F T f m R n s a V h
     |false=>E s a (fM 60 V) h)->Ok P K (.todo f R s env (uX V)) h Q:=by
   intro V g Z
   split at Z
   .exact D q A g Z
   .exact nm g Z
  change ny P K E F T f m R (wT P K E F T f m R n) s a k h at i;unfold ny at i;split at i;exact⟨1,_,rfl,hF _ _ _ _ _ q i⟩;rename_i p c k;split at i;exact iL (D q A u.2 i) fun _=>rfl;exact iL (D q A u.2 i) fun _=>rfl;exact iL (D q A u.seq i) fun _=>rfl;rename_i c t e;have g1:Good P f (.code (0::p) t::k):=⟨by simp only[ctx,u.1,gZ],u.2⟩;have g2:Good P f (.code (1::p) e::k):=⟨by simp only[ctx,u.1,gZ],u.2⟩;obtain⟨k1,k2⟩:=Wh (P:=P) (x:=c) q;split at i;rename_i Z;exact Fe (Ik (b:=true) (fun _=>D q A g1 i) (by simp)|>fun x=>by rw[k1 _ Z];exact x);rename_i Z;exact Fe (Ik (b:=false) (by simp) (fun _=>D q A g2 i)|>fun x=>by rw[k1 _ Z];exact x);exact Fe (let⟨b,x,y,z⟩:=cJ q i;⟨b,x,fun t=>go g1 (y t),fun t=>go g2 (z t)⟩);exact iL (D q A u.block i) fun _=>rfl;exact iL (nm u.loop i) fun _=>rfl;exact iL (D q A u.scope i) fun _=>rfl;rename_i id;split at i;rename_i V I;obtain⟨U,h2⟩:=mF (P:=P) (f:=f) I;refine iL (D q A (h2 u.2) i) fun m=>?_;show bP P (run P K m) _ _ _ _ (.code (.exit id)::uX k) _=_;simp only[bP,U];rename_i I;split at i;refine⟨1,(⟨.exit id,s,env,undef⟩,h),?_,hF _ _ _ _ _ q i⟩;show bP P (run P K 0) _ _ _ _ (.code (.exit id)::uX k) _=_;simp only[bP,mG I,Option.isSome_some,if_true];cases i;exact⟨1,_,rfl,hF _ _ _ _ _ q i⟩;rename_i ops;obtain⟨B,o,U,a',hr,γ,ε,i⟩:=Ld q A i;obtain⟨C,r,N,hq⟩:=D γ ε u.2 i;refine⟨max B C+1,r,?_,hq⟩;show bP P (run P K (max B C)) _ _ _ _ (.code (.region _ ops false)::uX k) _=_;simp only[bP];rw[fD (Nat.le_max_left B C) _ _ _ hr];exact fD (Nat.le_max_right B C) _ _ _ N;rename_i ops;obtain⟨B,e,U,a',hr,γ,ε,i⟩:=X7 q A i;obtain⟨C,r,N,hq⟩:=D γ ε u.2 i;refine⟨max B C+1,r,?_,hq⟩;show bP P (run P K (max B C)) _ _ _ _ (.code (.region _ ops true)::uX k) _=_;simp only[bP];rw[Bh (fD (Nat.le_max_left B C)) hr];exact fD (Nat.le_max_right B C) _ _ _ N;rename_i fv ps β O;have i:=cJ q i;obtain⟨j,num,lv,_,hp,i⟩:=Ew i;have i:=E8 q i;have hc:cd P f (yD num)= .rangeFunc fv ps β O:=by
   have:=Gx (P:=P) (f:=f) p;rw[u.1,hp,List.reverse_reverse] at this;exact this.symm
  have ex:∀{J:List Nat} {X:AH} {pd:Option Code},nO pd (wT P K E F T f m R n J a k X) (F .ret J a X)
    ((dX O).map fun id=>(id,(match mH id k with
     |some V=>wT P K E F T f m R n J a V X
     |none=>(match R with
      |none=>False
      |some _=>F (.exit id) J a X))))->Ok P K (.todo f R J env ((pd.map Item.code).toList++uX k)) X Q:=by
   intro J X pd I
   unfold nO at I
   split at I
   .exact D q A u.2 I
   .exact⟨1,_,rfl,hF _ _ _ _ _ q I⟩
   .rename_i id;split at I
    .rename_i hl;have:=Mx hl;subst this;split at I
     .rename_i V hy;obtain⟨U,h2⟩:=mF (P:=P) (f:=f) hy;refine iL (D q A (h2 u.2) I) fun m=>?_;show bP P (run P K m) _ _ _ _ (.code (.exit id)::uX k) _=_;simp only[bP,U]
     .rename_i hy;split at I
      .cases I
      .refine⟨1,(⟨.exit id,J,env,undef⟩,X),?_,hF _ _ _ _ _ q I⟩;show bP P (run P K 0) _ _ _ _ (.code (.exit id)::uX k) _=_;simp only[bP,mG hy,Option.isSome_some,if_true]
    .cases I
   .cases I
  split at i;unfold tX at i;obtain⟨B,g,first,S,o,h3,p,X,hf,δ,hr,v,i⟩:=aa A hc i;obtain⟨C,r,N,hq⟩:=ex i;refine⟨max B C+1,r,?_,hq⟩;show bP P (run P K (max B C)) _ _ _ _ (.code (.rangeFunc fv ps β O)::uX k) _=_;unfold mZ at v;split at v;rename_i hl;split at v;cases v;rename_i hb;simp only[Option.map_eq_some_iff] at v;obtain⟨h5,v,h6⟩:=v;cases h6;simp only[bP,hf,δ,if_true];rw[fD (Nat.le_max_left B C) _ _ _ hr];simp only[hl,hb,if_false,v];exact fD (Nat.le_max_right B C) _ _ _ N;cases v;rename_i l;obtain⟨d,Y,i⟩:=i;obtain⟨B,g,first,S,o,h3,p,X,hf,δ,hr,v,i⟩:=aa A hc i;obtain⟨C,r,N,hq⟩:=ex i;refine⟨max B C+1,r,?_,hq⟩;show bP P (run P K (max B C)) _ _ _ _ (.code (.rangeFunc fv ps β O)::uX k) _=_;unfold mZ at v;unfold eD at Y;split at Y;rename_i ζ;cases Y;split at v;rename_i hl;split at v;cases v;rename_i hb;simp only[Option.map_eq_some_iff] at v;obtain⟨h5,v,h6⟩:=v;cases h6;simp only[bP,ζ,hf,δ,if_true];rw[fD (Nat.le_max_left B C) _ _ _ hr];simp only[hl,hb,if_false,v];exact fD (Nat.le_max_right B C) _ _ _ N;cases v;cases Y;cases i;rename_i k;exact iL (D (k:=k) q A u i) fun _=>rfl;rename_i k;exact iL (D (k:=k) q A u i) fun _=>rfl;exact iL (nm u.again i) fun _=>rfl;rename_i k;split at i;rename_i l;obtain⟨h',U,h2⟩:=i;unfold fP at U;split at U;rename_i η;refine tV (t':= .todo f (some l) s env (uX k)) (h':=h') (fun m=>?_) (D q A u h2);show bP P (run P K m) _ _ _ _ (.beginRound::uX k) _=_;simp only[bP,η,U];cases U;cases i
end
end Go.Ab
end
