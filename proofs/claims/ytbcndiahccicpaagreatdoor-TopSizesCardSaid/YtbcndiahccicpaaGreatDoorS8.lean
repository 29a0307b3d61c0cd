/- A part of the proof. -/
import Derived.Test.YtbcndiahccicpaaGreatDoorS7
import Derived.Test.YtbcndiahccicpaaGreatDoorS4
import Derived.Lib.ItoaNum
import Derived.Lib.Bytes
set_option linter.all false
open Go Go.Ab
variable {P:Program} {env vs:FJ} {x:Operand} {k:Value->Prop} {t:TypeId} {o:Oper} {Q q:Value->AH->Prop} {op:Op} {M b d i m n:Nat} {lv p:FL} {v:Value} {all:List Oper} {g:List (Nat×Nat)} {es:JF}
namespace Go.Ab
variable {fs:Array Field} {dst:Option Tmp} {id num:Nat} {ops:Array Oper} {ps:Array Tmp} {st:LoopState}
noncomputable section
variable {K:FuncId->FJ->IX}
def hA:Unit:=Function.const _ () @Cl
def hB:Unit:=Function.const _ () hA
def hC:Unit:=Function.const _ () hB
def hD:Unit:=Function.const _ () hC
def hE:Unit:=Function.const _ () hD
def hG:Unit:=Function.const _ () hE
def hP (p:Prop):Prop:=(fun _:Unit=>p) hG
def hF:Prop:=hP False
inductive Kn where
 |un|ex|b (x:Bool)|sk|no
abbrev Ek:=List<|Nat×Value×Kn
def Ek.lk:Ek->Nat->Option (Value×Kn)
 |[],_=>none
 |(d,v,k)::a,t=>match Nat.beq d t with
  |true=>(match k with
   |.no=>none
   |k=>some (v,k))
  |false=>Ek.lk a t
def jD (a:Ek) (env:FJ):Prop:=∀t v k,a.lk t=some (v,k)->env[t]?=some v/\(∀x,k= .b x->v= .bool x)/\(k= .sk->v=undef)
def aYg (v:Value) (k:Value->Prop):Prop:=match v with
 |.int .i64 n=>k (I n)
 |v=>hP<|k v
def Fw (P:Program) (a:Ek) (x:Operand) (k:Value->Prop):Prop:=match x with
 |.tmp t=>(match a.lk t with
  |some (v,_)=>k v
  |none=>hF)
 |.const v=>(match jJ v with
  |true=>aYg v k
  |false=>k sb)
 |.global g=>(match Nat.blt g P.globals.size with
  |true=>k (.pointer<|some ⟨g,0,none⟩)
  |false=>k sb)
 |.func f=>k<|.func (.func f) #[] #[]
theorem kN {a:Ek} (ha:jD a env) (h:Fw P a x k):k (eM P env x):=by
 unfold Fw at h;split at h;split at h;rename_i d;have:=(ha _ _ _ d).1;grind[eM];cases h;split at h;rename_i m;simp only[eM,m,eD];unfold aYg at h;split at h<;>exact h;simp_all[eM,aO,dx];split at h;simp_all[oV,eM,eD];rename_i g _ j;have:¬g<P.globals.size:=fun d=>by rw[show Nat.blt g P.globals.size=true from mn d] at j;cases j
 simpa only[eM,this,dx] using h;exact h
def aR4 (P:Program) (a:Ek) (x:Option Operand) (k:FN->Prop):Prop:=match x with
 |none=>k none
 |some x=>Fw P a x fun v=>k<|some v
def ud {a:Ek} (ha:jD a env) {x:Option Operand} {k:FN->Prop} (h:aR4 P a x k):k (x.map<|eM P env):=by
 cases x with
 |none=>exact h
 |some x=>exact kN ha h
def nv (P:Program) (a:Ek):List Operand->(FJ->Prop)->Prop
 |[],k=>k []
 |x::l,k=>Fw P a x fun v=>nv P a l fun d=>k (v::d)
theorem Ka {a:Ek} {env:FJ} (ha:jD a env):∀{l:List Operand} {k:FJ->Prop},nv P a l k->k (l.map<|eM P env)
 |[],_,h=>h
 |_::l,k,h=>by
  have d:=Ka ha<|kN ha h;exact d
def fcL {α:Type}:List α->(List α->Prop)->Prop
 |[],k=>hP (k [])
 |v::l,k=>fcL l fun l=>k (v::l)
theorem Tv {α:Type}:∀{l:List α} {k:List α->Prop},fcL l k->k l
 |[],_,h=>h
 |_::l,k,h=>Tv (l:=l) h
def r8 (P:Program) (t:TypeId) (k:Nat->Prop):Prop:=match P.info? t with
 |some ⟨_,_,n,_,_,_,_,_,_,_⟩=>k n
 |none=>hF
theorem B2 {k:Nat->Prop} (h:r8 P t k):(P.info? t).isSome=true/\k (P.cellsOf t):=by
 unfold r8 at h;split at h;grind[Program.cellsOf];cases h
def Uj (P:Program) (a:Ek) (place:Nat->(Nat->Nat->Prop)->Prop):List (Nat×Operand)->(List (Nat×Nat×Value)->Prop)->Prop
 |[],k=>k []
 |(i,x)::rest,k=>place i fun d size=>Fw P a x fun v=>Uj P a place rest fun l=>k ((d,size,v)::l)
theorem Lh {a:Ek} {env:FJ} (ha:jD a env) {place:Nat->(Nat->Nat->Prop)->Prop} {pl:Nat->Option (Nat×Nat)} (d:∀i k,place i k->∃o s,pl i=some (o,s)/\k o s):
  ∀{l:List (Nat×Operand)} {k:List (Nat×Nat×Value)->Prop},Uj P a place l k->∃r,D9 pl (eM P env) l=some r/\k r
 |[],_,h=>⟨_,rfl,h⟩
 |(i,x)::rest,_,h=>by
  obtain⟨o,s,j,g⟩:=d _ _ h;obtain⟨r,m,n⟩:=Lh ha d<|kN ha g;grind[D9]
def plS (P:Program) (fs:Array Field) (i:Nat) (k:Nat->Nat->Prop):Prop:=match fs[i]? with
 |some ⟨_,t,d,_,_,_,_⟩=>r8 P t fun n=>k d n
 |none=>hF
def aYe (i:Nat) (k:Nat->Nat->Prop) (h:plS P fs i k):∃o s,((fs[i]?).map fun f=>(f.offset,P.cellsOf f.type))=some (o,s)/\k o s:=by
 unfold plS at h;split at h;rename_i d;exact⟨_,_,by rw[d];rfl,(B2 h).2⟩;cases h
def plA (n:Nat) (i:Nat) (k:Nat->Nat->Prop):Prop:=hP<|k (i*n) n
def wZ (P:Program) (t:TypeId) (k:FJ->Prop):Prop:=match rP P t with
 |some z=>fcL z k
 |none=>hF
theorem aDf {k:FJ->Prop} (h:wZ P t k):∃z,rP P t=some z/\k z:=by
 unfold wZ at h;split at h;grind[Tv];cases h
def aXk (l:FL):Nat->FL->FL
 |0,acc=>acc
 |n+1,acc=>aXk l n<|l++acc
def kF (P:Program):Nat->TypeId->JK
 |0,_=>none
 |d+1,t=>match P.underlying t with
  |some .bool=>some [1]
  |some (.int _)=>some [0]
  |some .string=>some [2]
  |some (.array n e)=>(match kF P d e with
   |some l=>some (aXk l n [])
   |none=>none)
  |some (.struct g)=>g.toList.foldr (fun f r=>match kF P d f.type,r with
   |some a,some b=>some (a++b)
   |_,_=>none) (some [])
  |_=>none
def kEq:JK->FL->Bool
 |some l,m=>l==m
 |none,_=>false
theorem aS8 {o:JK} {l:FL} (h:kEq o l=true):o=some l:=by
 unfold kEq at h;grind
def wB (P:Program) (op:BinOp) (t:TypeId) (x y:Operand) (a b:Value) (q:Value->Prop):Prop:=
 match P.underlying t with
 |some (.int _)=>cC (A6 op a b) q
 |some (.pointer _)=>cC (Yn op a b) q
 |some (.slice _)=>cC (Wh op a b) q
 |some (.func _ _ _)=>cC (biF op a b) q
 |some (.interface _)=>(match Fj x||Fj y with
  |true=>cC (W3 true op a b) q
  |false=>cC (W3 false op a b) q)
 |some (.struct _)|some (.array _ _)=>(match kF P 20 t with
  |some d=>fcL d fun d=>Wj (kEq (Qy P t) d) d op a b q
  |none=>hF)
 |_=>hF
theorem bAj {op:BinOp} {y:Operand} {a b:Value} {q:Value->Prop} (h:wB P op t x y a b q):lr P op t x y a b q cC:=by
 unfold wB at h;unfold lr;split at h;case h_5=>
  grind
 case h_6=>
  split at h;obtain⟨g,h⟩:=Tv h;grind[aS8];cases h
 case h_7=>
  split at h;obtain⟨g,h⟩:=Tv h;grind[aS8];cases h
 all_goals first|(rename_i d;rw[d];exact h)|cases h
def wL (P:Program) (a:Ek) (h:AH) (q:Value->Prop):Op->Prop
 |.move x=>Fw P a x q
 |.assign x=>Fw P a x q
 |.build t g=>wZ P t fun z=>(match P.underlying t with
  |some (.struct o)=>(match o.toList.all (fun f=>(P.info? f.type).isSome) with
   |true=>Uj P a (plS P o) g.toList fun l=>cC (tM z l) fun c=>q (.agg ⟨c⟩)
   |false=>hF)
  |some (.array _ e)=>r8 P e fun n=>Uj P a (plA n) g.toList fun l=>cC (tM z l) fun c=>q (.agg ⟨c⟩)
  |_=>hF)
 |.load t x=>Fw P a x fun x=>(match nV P t with
  |some true=>r8 P t fun n=>cC (yU h n x) q
  |some false=>cC (vZ h x) q
  |none=>hF)
 |.nilCheck x=>Fw P a x fun x=>cC (sJ x) q
 |.binOp op t x y _=>Fw P a x fun u=>Fw P a y fun v=>wB P op t x y u v q
 |.unOp op _ x=>Fw P a x fun x=>cC (gf op x) q
 |.makeInterface t x=>Fw P a x fun x=>(match P.underlying t with
  |some (.interface _)=>hF
  |some _=>q (.iface t x)
  |none=>hF)
 |.makeFunc B first d=>(match B with
  |.func f=>nv P a first.toList fun x=>nv P a d.toList fun y=>q (.func (.func f) ⟨x⟩ ⟨y⟩)
  |_=>hF)
 |.slice t x w r A=>Fw P a x fun x=>aR4 P a w fun w=>aR4 P a r fun r=>aR4 P a A fun A=>(match P.underlying t with
  |some (.slice e)=>r8 P e fun n=>cC (Dv n h x w r A) q
  |_=>hF)
 |.fieldAddr s x f=>Fw P a x fun x=>(match P.underlying s with
  |some (.struct o)=>(match o[f]? with
   |some ⟨_,t,j,_,_,_,_⟩=>r8 P t fun n=>(match Nat.beq n 0 with
    |true=>hF
    |false=>cC (lQ j x) q)
   |none=>hF)
  |_=>hF)
 |.field t x f=>Fw P a x fun x=>(match P.underlying t with
  |some (.struct o)=>(match o[f]? with
   |some ⟨_,t,j,_,_,_,_⟩=>(match nV P t with
    |some true=>r8 P t fun n=>cC (vF j n x) q
    |some false=>cC (wJ j x) q
    |none=>hF)
   |none=>hF)
  |_=>hF)
 |.indexAddr t x i=>Fw P a x fun x=>Fw P a i fun i=>(match P.underlying t with
  |some (.array n e)=>r8 P e fun m=>cC (tZ n m x i) q
  |some (.slice e)=>r8 P e fun m=>cC (qN m x i) q
  |_=>hF)
 |.index t x i=>Fw P a x fun x=>Fw P a i fun i=>(match P.underlying t with
  |some (.array n e)=>r8 P e fun m=>(match nV P e with
   |some true=>cC (cn n m x i) q
   |some false=>cC (Vx n m x i) q
   |none=>hF)
  |_=>hF)
 |.extract t i=>Fw P a t fun t=>cC (wV i t) q
 |.lookup t x ix ok=>Fw P a x fun x=>Fw P a ix fun ix=>(match O0 P t with
  |some e=>(match rm P e with
   |some z=>cC (lkV z h x ix ok) q
   |none=>hF)
  |none=>hF)
 |_=>hF
theorem aYx {a:Ek} (ha:jD a env) {h:AH} {q:Value->Prop} (d:wL P a h q op):pP P (eM P env) h q op:=by
 unfold wL at d;split at d;case h_1=>exact kN ha d
 case h_2=>exact kN ha d
 case h_3=>
  obtain⟨z,A,d⟩:=aDf d;unfold pP;split at d;rename_i m;split at d;rename_i o;obtain⟨r,n,t⟩:=Lh ha aYe d;grind;cases d;rename_i e m;obtain⟨y,d⟩:=B2 d;obtain⟨r,n,t⟩:=Lh ha (fun i k w=>⟨_,_,rfl,w⟩) d;grind;cases d
 case h_4=>
  have d:=kN ha d;unfold pP;split at d;rename_i m;simp only[m];exact(B2 d).2;grind;cases d
 case h_5=>exact kN ha d
 case h_6=>exact bAj<|kN ha<|kN ha d
 case h_7=>exact kN ha d
 case h_8=>
  have d:=kN ha d;unfold pP;split at d;cases d;grind;cases d
 case h_9=>
  unfold pP;split at d;simpa only[List.map_toArray,<-CO] using(Ka ha<|Ka ha d);cases d
 case h_10=>
  have d:=ud ha<|ud ha<|ud ha<|kN ha d;unfold pP;split at d;grind[B2];cases d
 case h_11=>
  have d:=kN ha d;unfold pP;split at d;rename_i j;simp only[j];split at d;rename_i g;simp only[g];obtain⟨_,d⟩:=B2 d;split at d;cases d;rw[bD1 fun e=>HB];exact d;cases d;cases d
 case h_12=>
  have d:=kN ha d;unfold pP;split at d;rename_i j;simp only[j];split at d;rename_i g;simp only[g];split at d;rename_i u;simp only[u];exact(B2 d).2;grind;cases d;cases d;cases d
 case h_13=>
  have d:=kN ha<|kN ha d;unfold pP;split at d;grind[B2];grind[B2];cases d
 case h_14=>
  have d:=kN ha<|kN ha d;unfold pP;split at d;obtain⟨n,d⟩:=B2 d;split at d;grind;grind;cases d;cases d
 case h_15=>exact kN ha d
 case h_16=>
  have d:=kN ha<|kN ha d;unfold pP;split at d;split at d;grind;cases d;cases d
 case h_17=>cases d
def isI (v:Value) (p:Prop):Prop:=∃k n,v= .int k n/\p
def aY4 {n:Int} {p:Prop} (d:p):isI (I n) p:=⟨_,n,rfl,d⟩
def bBx:FL:=[0,1,2,3,4,5,6,7,8,9,10,11,12,13,14,15,16,17,18,19,20,21,22,23,24,25,26,27,28,29,30,31,32,33,34,35,36,37,38,39,40,41,42,43,44,45,46,47,48,49,50,51,52,53,54,55,56,57,58,59,60,61,62,63,64,65,66,67,68,69,70,71,72,73,74,75,76,77,78,79,80,81,82,83,84,85,86,87,88,89,90,91,92,93,94,95,96,97,98,99]
def nK (n:Nat) (k:Nat->Prop):Prop:=match bBx[n]? with
 |some m=>(match Nat.beq m n with
  |true=>k m
  |false=>hF)
 |none=>k n
theorem aL0 {k:Nat->Prop} (h:nK n k):k n:=by
 unfold nK at h;split at h;split at h;simp_all;cases h;exact h
def bzW (P:Program) (t:TypeId) (k:Nat->Prop):Prop:=match P.info? t with
 |some ⟨_,_,_,n,_,_,_,_,_,_⟩=>k n
 |none=>hF
theorem aSb {k:Nat->Prop} (h:bzW P t k):k (P.bytesOf t):=by
 unfold bzW at h;split at h;grind[Program.bytesOf];cases h
def wBI (P:Program) (h:AH) (q:Value->AH->Prop) (g:Array TypeId):Builtin->FJ->Prop
 |.len,[x]=>match(g[0]?).bind P.underlying with
  |some (.slice _)=>cC (rB x) fun v=>q v h
  |some (.array n _)=>q (I n) h
  |some (.map _ _)=>cC (aFs h x) fun v=>q v h
  |_=>hF
 |.append,[s,x]=>match(g[0]?).bind P.underlying with
  |some (.slice e)=>(match Ro P g with
   |true=>wZ P e fun _=>r8 P e fun n=>bzW P e fun m=>cC (nJ n m e h s x) fun r=>(match r with|(v,d)=>q v d)
   |false=>hF)
  |_=>hF
 |.clear,[x]=>match(g[0]?).bind P.underlying with
  |some (.slice e)=>wZ P e fun z=>cC (mM z h x) fun r=>(match r with|(v,d)=>q v d)
  |_=>hF
 |.min,[x,y]=>cC (E2 x y) fun v=>q v h
 |.delete,[m,k]=>(match g[0]? with
  |some t=>(match O0 P t with
   |some _=>cC (X3 h m k) fun d=>q (.tuple #[]) d
   |none=>hF)
  |none=>hF)
 |_,_=>hF
theorem aS0 {h:AH} {j:Array TypeId} {b:Builtin} {l:FJ} (d:wBI P h q j b l):C4 P h q j b l:=by
 unfold wBI at d;unfold C4;split at d;split at d<;>(rename_i g;simp only[g];exact d);split at d;rename_i g;simp only[g];split at d;obtain⟨z,m,d⟩:=aDf d;rw[bD2 FR];exact aSb<|(B2 d).2;cases d;cases d;split at d;grind[aDf];cases d;exact d;split at d;split at d;grind;cases d;cases d;cases d
def wH (P:Program) (K:FuncId->FJ->IX) (a:Ek) (h:AH) (q:Value->AH->Prop):Op->Prop
 |.store t p x=>r8 P t fun n=>Fw P a p fun p=>Fw P a x fun x=>cC (Ar h n p x) fun d=>q undef d
 |.call c=>(match c.callee with
  |.builtin b=>nv P a c.args.toList fun l=>wBI P h q c.argTypes b l
  |.value (.func g)=>(match lX P g with
   |true=>nv P a c.args.toList fun l=>Cl P K g l h q
   |false=>hF)
  |.value f=>Fw P a f fun f=>nv P a c.args.toList fun l=>F3 P K f l h q
  |.invoke _ _=>hF)
 |.mapUpdate t m k x=>(match O0 P t with
  |some _=>Fw P a m fun m=>Fw P a k fun k=>Fw P a x fun x=>cC (Ym h m k x) fun d=>q undef d
  |none=>hF)
 |_=>hF
theorem aTd {a:Ek} (ha:jD a env) {h:AH} (d:wH P K a h q op):Io P K (eM P env) h q op:=by
 unfold wH at d;unfold Io;split at d;obtain⟨m,d⟩:=B2 d;grind[kN];split at d;grind[aS0,Ka];rename_i g;simp only[g];split at d;rename_i j;simp only[j,eD];exact Ka ha d;cases d;grind[Ka,kN];cases d;split at d;grind[kN];cases d;cases d
def wA (P:Program) (a:Ek) (mk:qU->(Nat->AH->Prop)->Prop) (O9:Nat->TypeId->FJ->Nat->Nat->(Value->AH->Prop)->Prop) (q:Value->AH->Prop):Op->Prop
 |.alloc e=>wZ P e fun z=>mk (.cells z e (0,0) true) fun p d=>q (JM p) d
 |.box e x=>Fw P a x fun x=>cC (pX e x) fun b=>mk b fun p d=>q (JM p) d
 |.buildSlice t len g=>match P.underlying t with
  |some (.slice e)=>wZ P e fun z=>r8 P e fun n=>(match Nat.ble (len*n) 16777216 with
   |true=>Uj P a (plA n) g.toList fun j=>fcL (iP z len) fun zs=>cC (tM zs j) fun l=>O9 n e l len len q
   |false=>hF)
  |_=>hF
 |.makeSlice t l c=>match P.underlying t with
  |some (.slice e)=>wZ P e fun z=>r8 P e fun n=>bzW P e fun m=>Fw P a l fun l=>Fw P a c fun c=>cC (bB6 m l c) fun r=>O9 n e (iP z r.2) r.1 r.2 q
  |_=>hF
 |.makeMap _ none=>mk (.map [] 0) fun p d=>q (lC p) d
 |.makeMap t (some x)=>match P.underlying t with
  |some (.map _ _)=>Fw P a x fun x=>isI x (mk (.map [] 0) fun p d=>q (lC p) d)
  |_=>hF
 |_=>hF
where bB6:=Go.Ab.O9
theorem aX8 {a:Ek} (ha:jD a env) {mk:qU->(Nat->AH->Prop)->Prop} {O9:Nat->TypeId->FJ->Nat->Nat->(Value->AH->Prop)->Prop}
  (w:∀W e l n c k,O9 W e l n c k->mk (.cells l e (0,0) true) fun p j=>k (aMf n c p) j) (d:wA P a mk O9 q op):
  I1 P (eM P env) (fun b f=>mk b fun i j=>q (f i) j) op:=by
 unfold wA at d
 unfold I1
 split at d
 .obtain⟨z,g,d⟩:=aDf d;simp only[g];exact d
 .exact kN ha d
 .split at d
  .rename_i m;simp only[m];obtain⟨z,g,d⟩:=aDf d;obtain⟨_,d⟩:=B2 d;simp only[g];split at d
   .rename_i t;rw[bD2<|oV t];obtain⟨r,o,d⟩:=Lh ha (fun i k u=>⟨_,_,rfl,u⟩) d;simp only[o];exact(Tv d).mono FR
   .cases d
  .cases d
 .split at d
  .rename_i m;simp only[m];obtain⟨z,g,d⟩:=aDf d;simp only[g];exact(kN ha<|kN ha<|aSb<|(B2 d).2).mono FR
  .cases d
 .exact d
 .split at d
  .obtain⟨k,n,o,d⟩:=kN ha d;grind
  .cases d
 .cases d
theorem jD.cons {a:Ek} (ha:jD a env) {k:Kn} (r:d<env.length) (hb:∀x,k= .b x->v= .bool x) (w:k= .sk->v=undef):jD ((d,v,k)::a) (env.set d v):=by
 intro t u j g;unfold Ek.lk at g;split at g;grind[Nat.eq_of_beq_eq_true];obtain⟨m,n⟩:=ha t u j g;refine⟨?_,n⟩;rw[List.getElem?_set_ne fun o=>HB];exact m
theorem jD.aX2 {a:Ek} (ha:jD a env) {k k':Kn} (g:a.lk d=some (v,k)) {b:Bool} (m:v= .bool b):jD ((d,.bool b,.b b)::a) env:=by
 intro t u j h;unfold Ek.lk at h;split at h;rename_i e;have:=ql e;subst this;cases h;exact⟨by rw[<-m];exact(ha _ _ _ g).1,fun x n=>FR,FR⟩;exact ha t u j h
def di (n:Nat) (a:Ek) (d:Option Tmp) (v:Value) (k:Kn) (q:Ek->Prop):Prop:=match d with
 |none=>q a
 |some d=>(match Nat.blt d n with
  |true=>q ((d,v,k)::a)
  |false=>hF)
theorem yO {a:Ek} (ha:jD a env) (m:env.length=n) {d:Option Tmp} {k:Kn} {q:Ek->Prop} (hb:∀x,k= .b x->v= .bool x) (r:k= .sk->v=undef) (g:di n a d v k q):
  ∃o,jD o (pC env d v)/\(pC env d v).length=n/\q o:=by
 unfold di at g
 split at g
 .exact⟨a,ha,m,g⟩
 .split at g
  .rename_i j;exact⟨_,ha.cons (m.symm▸(oV j)) hb r,by simp[pC,m],g⟩
  .cases g
def wG (vW:Nat->Option Tmp) (a:Ek) (g:Option (Nat×Bool)) (p s:Ek->Prop):Prop:=match g with
 |none=>p a
 |some (j,fY)=>match vW j with
  |none=>hF
  |some d=>match a.lk d with
   |some (_,.b x)=>(match x,fY with
    |true,true=>p a
    |false,false=>p a
    |_,_=>s a)
   |some (_,.sk)=>s a
   |some (v,_)=>(match fY with
    |true=>Br v (p ((d,.bool true,.b true)::a)) (s ((d,.bool false,.b false)::a))
    |false=>Br v (s ((d,.bool true,.b true)::a))<|p ((d,.bool false,.b false)::a))
   |none=>hF
theorem aXu {all:Array Oper} {a:Ek} (ha:jD a env) {p s:Ek->Prop} (g:wG (fun j=>(all[j]?).bind (·.dst)) a o.guard p s):
  ∃r,jD r env/\((gR all env o=some true/\p r)\/(gR all env o=some false/\s r)):=by
 unfold wG at g
 unfold gR
 split at g
 .grind
 .rename_i j fY z;rw[z];simp only;split at g
  .cases g
  .rename_i d m;replace m:(all[j]?).bind _=some d:=m;rw[m];simp only[AS];split at g
   .rename_i x n;obtain⟨t,w,_⟩:=ha _ _ _ n;split at g
    .grind
    .grind
    .refine⟨a,ha,.inr ⟨?_,g⟩⟩;cases x<;>cases fY<;>grind
   .rename_i n;obtain⟨t,_,w⟩:=ha _ _ _ n;have:=w rfl;subst this;rw[t];exact⟨a,ha,.inr ⟨rfl,g⟩⟩
   .rename_i v k _ _ n;have t:=(ha _ _ _ n).1;split at g
    .obtain⟨b,u,A,y⟩:=g;refine⟨_,ha.aX2 (k':= .un) n u,?_⟩;cases b with
     |true=>grind
     |false=>grind
    .obtain⟨b,u,A,y⟩:=g;refine⟨_,ha.aX2 (k':= .un) n u,?_⟩;cases b with
     |true=>grind
     |false=>grind
   .cases g
def aBp (a:Ek) (op:Op):Option Operand:=match op with
 |.pick (.tmp c) x y=>(match a.lk c with
  |some (_,.b true)=>some x
  |some (_,.b false)=>some y
  |_=>none)
 |.move x=>some x
 |.assign x=>some x
 |_=>none
def aB9 {a:Ek} (ha:jD a env) (h:aBp a op=some x):fX op= .G5/\∀j,dP P (eM P env) j op=some (eM P env x):=by
 unfold aBp at h;split at h;split at h;rename_i m;cases h;obtain⟨d,g,_⟩:=ha _ _ _ m;exact⟨rfl,fun j=>by simp[dP,eM,aP,d,g true rfl]⟩;rename_i m;cases h;obtain⟨d,g,_⟩:=ha _ _ _ m;exact⟨rfl,fun j=>by simp[dP,eM,aP,d,g false rfl]⟩;cases h;cases h;exact⟨rfl,fun _=>rfl⟩;cases h;exact⟨rfl,fun _=>rfl⟩;cases h
def knW (a:Ek) (x:Operand):Kn:=match x with
 |.const (.bool y)=> .b y
 |.tmp t=>(match a.lk t with
  |some (_,.b y)=> .b y
  |_=> .un)
 |_=> .un
theorem aG8 {a:Ek} (ha:jD a env):(∀y,knW a x= .b y->eM P env x= .bool y)/\knW a x≠.sk:=by
 unfold knW;split;grind[eM,jJ];split;rename_i d;obtain⟨g,j,_⟩:=ha _ _ _ d;grind[eM];grind;grind
def aKd (M:Nat) (op:Op) (d:Option Tmp) (q:Kn->Prop):Prop:=match op,d with
 |.assign _,_=>hP (q .un)
 |_,some d=>(match Nat.beq (Nat.land (Nat.shiftRight M d) 1) 1 with
  |true=>q .un
  |false=>q .ex)
 |_,none=>q .un
theorem vh {d:Option Tmp} {q:Kn->Prop} (h:aKd M op d q):q .un\/q .ex:=by
 unfold aKd at h;split at h;exact .inl h;grind;grind
def wKn (M:Nat) (op:Op) (d:Option Tmp) (a:Ek) (x:Operand) (q:Kn->Prop):Prop:=match knW a x with
 |.b y=>q (.b y)
 |_=>aKd M op d q
theorem aSc {d:Option Tmp} {a:Ek} {q:Kn->Prop} (h:wKn M op d a x q):(∃y,knW a x= .b y/\q (.b y))\/q .un\/q .ex:=by
 grind[wKn,vh]
def ups:Op->List Operand
 |.move x|.assign x|.load _ x|.nilCheck x|.unOp _ _ x|.convert _ _ x|.fieldAddr _ x _|.field _ x _|.box _ x=>[x]
 |.store _ x y|.binOp _ _ x y _|.indexAddr _ x y|.index _ x y=>[x,y]
 |.slice _ x g d j=>x::(g.toList++(d.toList++j.toList))
 |.call c=>c.args.toList
 |_=>[]
def rmK (t:Nat):Ek->(Ek->Prop)->Prop
 |[],q=>hP (q [])
 |(d,v,k)::a,q=>(match Nat.beq d t with
  |true=>(match k with
   |.ex=>q ((d,undef,.no)::a)
   |k=>q ((d,v,k)::a))
  |false=>rmK t a fun a=>q ((d,v,k)::a))
theorem aRv {t:Nat}:∀{a:Ek} {q:Ek->Prop},rmK t a q->∃d,(∀x r,Ek.lk d x=some r->a.lk x=some r)/\q d
 |[],_,h=>⟨_,fun _ _ h=>h,h⟩
 |(n,v,k)::a,q,h=>by
  unfold rmK at h;split at h;grind[Ek.lk];obtain⟨a1,m,g⟩:=aRv h;refine⟨_,fun x r j=>?_,g⟩;unfold Ek.lk at j ⊢;grind
def aFn:List Operand->Ek->(Ek->Prop)->Prop
 |[],a,q=>hP (q a)
 |x::l,a,q=>(match x with
  |.tmp t=>rmK t a fun a=>aFn l a q
  |_=>aFn l a q)
def Y3 {env:FJ}:∀{l:List Operand} {a:Ek} {q:Ek->Prop},jD a env->aFn l a q->∃g,jD g env/\q g
 |[],a,_,d,h=>⟨a,d,h⟩
 |x::l,a,q,d,h=>by
  unfold aFn at h;split at h;obtain⟨a1,j,m⟩:=aRv h;exact Y3 (fun t v k n=>d t v k<|j _ _ n) m;exact Y3 (l:=l) d h
def wOp (P:Program) (K:FuncId->FJ->IX) (a:Ek) (h:AH) (q:Value->AH->Prop) (op:Op):Prop:=match fX op with
 |.G5=>wL P a h (fun v=>q v h) op
 |.alloc=>wA P a (Jj h) (Ce h) q op
 |.store=>wH P K a h q op
 |.call=>wH P K a h q op
 |.Jy=>hF
def aRh {a:Ek} (ha:jD a env) {h:AH} (d:wOp P K a h q op):∃n v g,uI P (run P K n) env h op=some (v,g)/\q v g:=by
 refine vu ?_;unfold wOp at d;unfold aR9;split at d<;>(rename_i m;simp only[m]);exact aYx ha d;exact aX8 ha (fun W e l n c k j=>j) d;exact aTd ha d;exact aTd ha d;exact d
def aTs (P:Program) (K:FuncId->FJ->IX) (M n:Nat) (vW:Nat->Option Tmp) (o:Oper) (d:Ek->AH->(Ek->AH->Prop)->Prop) (a:Ek) (h:AH) (q:Ek->AH->Prop):Prop:=match o with
 |⟨dst,op,_,_,_,guard⟩=>wG vW a guard
  (fun a=>aFn (ups op) a fun g=>(match aBp a op with
   |some x=>wKn M op dst a x fun k=>Fw P a x fun v=>di n g dst v k fun a=>d a h q
   |none=>aKd M op dst fun k=>wOp P K a h (fun v j=>di n g dst v k fun a=>d a j q) op))
  (fun a=>di n a dst undef .sk fun a=>d a h q)
def aO0 (P:Program) (K:FuncId->FJ->IX) (M n:Nat) (vW:Nat->Option Tmp) (os:List Oper):Ek->AH->(Ek->AH->Prop)->Prop:=
 List.rec (fun a h q=>q a h) (fun o _ d=>aTs P K M n vW o d) os
theorem aZf {a a':Ek} {q:Ek->Prop} (ha:jD a env) (d:jD a' env) (j:env.length=n) (hb:wKn M op dst a x fun k=>Fw P a x fun v=>di n a' dst v k q):
  ∃g,jD g (pC env dst<|eM P env x)/\(pC env dst<|eM P env x).length=n/\q g:=by
 obtain⟨o,_⟩:=aG8 (P:=P) (x:=x) ha
 rcases aSc hb with⟨y,m,hb⟩|hb|hb
 .grind[yO,kN]
 .exact yO d j FR FR (kN ha hb)
 .exact yO d j FR FR (kN ha hb)
theorem sq {M n:Nat} {all:Array Oper}:∀{os:List Oper} {a:Ek} {env:FJ} {h:AH} {q:Ek->AH->Prop},jD a env->env.length=n->aO0 P K M n (fun j=>(all[j]?).bind (·.dst)) os a h q->
  ∃m o z u,run P K m (.ops all os env) h=some (o,z)/\jD u o.env/\o.env.length=n/\q u z
 |[],a,env,h,q,J,A,I=>⟨1,_,h,a,rfl,J,A,I⟩
 |o::os,a,env,h,q,J,A,I=>by
  change aTs P K M n _ o (aO0 P K M n _ os) a h q at I;unfold aTs at I;obtain⟨a1,d,hb⟩:=aXu J I;rcases hb with⟨g,hb⟩|⟨g,hb⟩;obtain⟨u,w,hb⟩:=Y3 d hb;obtain⟨n1,v,B,r,T,N,O,y⟩:∃n1 v B r,uI P (run P K n1) env h o.op=some (v,B)/\jD r (pC env o.dst v)/\(pC env o.dst v).length=n/\aO0 P K M n _ os r B q:=by
   split at hb;rename_i x X;obtain⟨Y,Z⟩:=aB9 (P:=P) d X;obtain⟨r,C,D,E⟩:=aZf d w A hb;exact⟨0,_,h,r,by grind[uI],C,D,E⟩;rcases vh hb with hb|hb;obtain⟨n1,v,B,T,Q⟩:=aRh d hb;obtain⟨r,C,D,E⟩:=yO w A FR FR Q;grind;obtain⟨n1,v,B,T,Q⟩:=aRh d hb;obtain⟨r,C,D,E⟩:=yO w A FR FR Q;grind
  obtain⟨U,out,z,u,V,S⟩:=sq N O y;refine⟨max n1 U+1,out,z,u,?_,S⟩;show Ck P _ all _ env h=_;simp only[Ck,g];rw[show(fun t h=>run P K _ t h)=run P K _ from rfl,Xv (pU FQ) T];exact pU FQ _ _ _ V;obtain⟨r,C,D,E⟩:=yO d A FR (fun _=>rfl) hb;obtain⟨U,out,z,u,V,S⟩:=sq C D E;refine⟨U+1,out,z,u,?_,S⟩;show Ck P _ all _ env h=_;grind[Ck]
def wLV (P:Program) (a:Ek) (h:AH) (q:Value->Prop):Op->Prop
 |.call c=>(match c.callee with
  |.builtin b=>(match wS b with
   |true=>nv P a c.args.toList fun l=>wBI P h (fun v _=>q v) c.argTypes b l
   |false=>hF)
  |_=>hF)
 |op=>wL P a h q op
theorem aS4 {a:Ek} (ha:jD a env) {h:AH} {q:Value->Prop} (d:wLV P a h q op):mT op=true/\∃v,iB P (eM P env) h op=some v/\q v:=by
 unfold wLV at d;split at d;split at d;split at d;obtain⟨v,m,g,j⟩:=Fq<|aS0<|Ka ha d;simp_all[mT,iB,eD];cases d;cases d;obtain⟨n,v,g,j⟩:=Jr<|aYx ha d;refine⟨?_,v,?_,j⟩;grind[mT,fX];cases op<;>first|exact g|grind
structure WR where
 a:Ek
 h:AH
 v:Value
 ran:Bool
abbrev JB:=List WR
def wDO (P:Program) (K:FuncId->FJ->IX) (i r:Nat) (a:Ek) (h:AH) (q:Value->AH->Prop) (op:Op):Prop:=
 match mT op with
 |true=>wLV P a h (fun v=>q v h) op
 |false=>(match fX op with
  |.alloc=>(match i with
   |0=>wA P a (rJ h r) (qL h r) q op
   |i=>wA P a (rJ h<|r+i) (qL h<|r+i) q op)
  |_=>wH P K a h q op)
theorem aRk {r:Nat} {a:Ek} (ha:jD a env) {h:AH} (d:gR ⟨all⟩ env o=some true) (t:wDO P K i r a h q o.op):
  ∃n v m,kY P (run P K n) all r i env h o=some (v,m)/\q v m:=by
 unfold wDO at t
 unfold kY
 simp only[d]
 split at t
 .obtain⟨_,v,w,u⟩:=aS4 ha t;exact⟨0,v,h,FR,u⟩
 .split at t
  .have A:∀{j:Nat},wA P a (rJ h j) (qL h j) q o.op->j=r+i->∃n v m,kY P (run P K n) all r i env h o=some (v,m)/\q v m:=by
    intro j z e;subst e;obtain⟨_,b,f,w,u⟩:=Jm<|aX8 ha (fun W e l n c k y=>y) z;exact⟨0,_,_,by grind[kY],u⟩
   grind[kY]
  .obtain⟨B,n,v,m,w,u⟩:=Co (fun g=>rfl)<|aTd ha t;grind
def la:List (Nat×Nat)->Nat->Bool
 |[],_=>false
 |(a,_)::l,i=>(match Nat.beq a i with
  |true=>true
  |false=>la l i)
def wMd (d:List (Nat×Nat)) (i:Nat) (a:Ek) (rs:JB) (k:(AH->Value->Bool->(JB->Prop)->Prop)->Prop):Prop:=match d with
 |[]=>hP (k fun _ _ _ q=>q rs)
 |d=>(match la d i with
  |true=>k fun h v r q=>q (⟨a,h,v,r⟩::rs)
  |false=>k fun h _ _ q=>q (⟨[],h,undef,true⟩::rs))
def Rl (d:List (Nat×Nat)):JB->JB->Prop
 |[],[]=>True
 |x::g,y::gs=>(x=y\/la d gs.length=false/\x.h=y.h)/\Rl d g gs
 |_,_=>False
theorem aRq {a:Ek} {rs gs:JB} {k:(AH->Value->Bool->(JB->Prop)->Prop)->Prop} (o:gs.length=i) (n:g≠[]->Rl g rs gs) (d:wMd g i a rs k):
  ∃R,k R/\∀h v r q,R h v r q->∃j,(g≠[]->Rl g j (⟨a,h,v,r⟩::gs))/\q j:=by
 unfold wMd at d
 split at d
 .exact⟨_,d,FR⟩
 .split at d
  .exact⟨_,d,fun h v r q m=>⟨⟨a,h,v,r⟩::rs,fun e=>⟨.inl rfl,n e⟩,m⟩⟩
  .exact⟨_,d,fun h v r q m=>⟨⟨[],h,_,true⟩::rs,fun e=>⟨.inr ⟨FR,rfl⟩,n e⟩,m⟩⟩
theorem aGg {d:List (Nat×Nat)}:∀{rs gs:JB},Rl d rs gs->rs.length=gs.length/\∀(j:Nat) (x y:WR),rs.reverse[j]?=some x->gs.reverse[j]?=some y->x=y\/la d j=false/\x.h=y.h
 |[],[],_=>FR
 |x::rs,y::gs,h=>by
  obtain⟨m,g⟩:=h;obtain⟨n,o⟩:=aGg g;grind
def wDF (P:Program) (K:FuncId->FJ->IX) (M n:Nat) (vW:Nat->Option Tmp) (r:Nat) (m:List (Nat×Nat)) (o:Oper) (g:Nat->Ek->AH->JB->(JB->Ek->AH->Prop)->Prop) (i:Nat) (a:Ek) (h:AH) (rs:JB) (q:JB->Ek->AH->Prop):Prop:=match o with
 |⟨dst,op,_,_,_,guard⟩=>nK (i+1) fun j=>wG vW a guard
  (fun a=>wMd m i a rs fun R=>aFn (ups op) a fun d=>(match aBp a op with
   |some x=>wKn M op dst a x fun k=>Fw P a x fun v=>di n d dst v k fun d=>R h v true fun rs=>g j d h rs q
   |none=>aKd M op dst fun k=>wDO P K i r a h (fun v t=>di n d dst v k fun d=>R h v true fun rs=>g j d t rs q) op))
  (fun a=>wMd m i a rs fun R=>di n a dst undef .sk fun d=>R h undef false fun rs=>g j d h rs q)
def wDT (P:Program) (K:FuncId->FJ->IX) (M n:Nat) (vW:Nat->Option Tmp) (r:Nat) (d:List (Nat×Nat)) (os:List Oper):Nat->Ek->AH->JB->(JB->Ek->AH->Prop)->Prop:=
 List.rec (fun _ a h j q=>q j a h) (fun o _ g=>wDF P K M n vW r d o g) os
def WOk (all:List Oper) (rs:JB) (es:JF):Prop:=rs.length=es.length/\∀(i:Nat) (o:Oper) (x:WR) (e:FJ),all[i]?=some o->rs[i]?=some x->es[i]?=some e->jD x.a e/\gR ⟨all⟩ e o=some x.ran
theorem WOk.aMm {rs:JB} (j:WOk all rs es) {x:WR} {e:FJ} (t:all[rs.length]?=some o) (y:jD x.a e) (z:gR ⟨all⟩ e o=some x.ran):WOk all (rs++[x]) (es++[e]):=by
 refine⟨by simp[j.1],fun i u w r d n m=>?_⟩;rcases Nat.lt_trichotomy i rs.length with g|g|g;rw[tb g] at n;rw[tb<|j.1▸g] at m;exact j.2 i u w r d n m;subst g;rw[t] at d;cases d;rw[j.1] at m;grind;grind
theorem za {M n:Nat} {all:List Oper} {r:Nat} {D:List (Nat×Nat)}:∀{os:List Oper} {i:Nat} {a:Ek} {env:FJ} {h:AH} {rs gs:JB} {es:JF} {q:JB->Ek->AH->Prop},jD a env->env.length=n->gs.length=i->(∀j,all[i+j]?=os[j]?)->WOk all gs.reverse es->(D≠[]->Rl D rs gs)->
  wDT P K M n (fun j=>((⟨all⟩:Array Oper)[j]?).bind (·.dst)) r D os i a h rs q->
  ∃m A B e h' V,nN P (run P K m) all r i os env h=some (List.zipWith (fun x e=>⟨e,x.h,x.v⟩) A B,e,h')/\A.length=B.length/\WOk all (gs.reverse++A) (es++B)/\jD V e/\e.length=n/\∃t,(D≠[]->Rl D t (A.reverse++gs))/\q t V h'
 |[],i,a,env,h,rs,gs,es,q,ha,S,_,_,γ,hg,U=>⟨0,[],[],env,h,a,rfl,rfl,FR,ha,S,rs,FR,U⟩
 |o::os,i,a,env,h,rs,gs,es,q,ha,S,w,Q,γ,hg,U=>by
  have U:wDF P K M n _ r D o (wDT P K M n _ r D os) i a h rs q:=U;unfold wDF at U;have U:=aL0 U;obtain⟨a1,g,hb⟩:=aXu ha U;have ho:all[gs.reverse.length]?=some o:=by have:=Q 0;rw[List.length_reverse,w];simpa using this
  have N:∀j,all[i+1+j]?=os[j]?:=fun j=>by
   have:=Q<|j+1;grind
  rcases hb with⟨d,hb⟩|⟨d,hb⟩;obtain⟨R,hb,hR⟩:=aRq w hg hb;obtain⟨n1,v,O,u,hs,ε,ζ,t,Y,δ⟩:∃n1 v O u,kY P _ all r i env h o=some (v,O)/\jD u _/\(pC env o.dst v).length=n/\
    ∃t,(D≠[]->Rl D t _)/\wDT P K M n _ r D os _ u O t q:=by
   obtain⟨V,J,hb⟩:=Y3 g hb
   split at hb
   .rename_i x hx;obtain⟨hk,hl⟩:=aB9 (P:=P) g hx;have η:mT o.op=true:=by
     cases hop:o.op<;>rw[hop] at hk<;>first|grind[mT,fX]|grind[fX]
    have θ:iB P (eM P env) h o.op=some (eM P env x):=by
     have:=hl h;cases hop:o.op<;>rw[hop] at hk this<;>first|exact this|grind[fX]
    have sL:∀{u:Ek} {v:Value},v=eM P env x->jD u (pC env o.dst<|eM P env x)->(pC env o.dst<|eM P env x).length=n->R h v true (fun rs=>wDT P K M n (fun j=>((⟨all⟩:Array Oper)[j]?).bind (·.dst)) r D os (i+1) u h rs q)->
      ∃n1 v O u,kY P (run P K n1) all r i env h o=some (v,O)/\jD u (pC env o.dst v)/\(pC env o.dst v).length=n/\∃t,(D≠[]->Rl D t (⟨a1,h,v,true⟩::gs))/\wDT P K M n (fun j=>((⟨all⟩:Array Oper)[j]?).bind (·.dst)) r D os (i+1) u O t q:=by
     intro u v e E I C
     subst e
     exact⟨0,_,h,u,by grind[kY],E,I,hR _ _ _ _ C⟩
    obtain⟨k1,_⟩:=aG8 (P:=P) (x:=x) g
    rcases aSc hb with⟨y,hy,hb⟩|hb|hb
    .have hb:=kN g hb;obtain⟨u,E,I,C⟩:=yO J S (fun z e=>FR) FR hb;exact sL rfl E I C
    .obtain⟨u,E,I,C⟩:=yO J S FR FR<|kN g hb;exact sL rfl E I C
    .obtain⟨u,E,I,C⟩:=yO J S FR FR<|kN g hb;exact sL rfl E I C
   .rcases vh hb with hb|hb
    .obtain⟨n1,v,O,hs,hp⟩:=aRk g d hb;obtain⟨u,E,I,C⟩:=yO J S FR FR hp;exact⟨n1,v,O,u,hs,E,I,hR _ _ _ _ C⟩
    .obtain⟨n1,v,O,hs,hp⟩:=aRk g d hb;obtain⟨u,E,I,C⟩:=yO J S FR FR hp;exact⟨n1,v,O,u,hs,E,I,hR _ _ _ _ C⟩
  obtain⟨n2,A,B,e,h',V,hr,Z,T,X,β,hq⟩:=za ε ζ (by simp[w]) N (by rw[EK];exact γ.aMm ho g d) Y δ;refine⟨max n1 n2,⟨a1,h,v,true⟩::A,env::B,e,h',V,?_,by simp[Z],FR,X,β,FR⟩;simp only[nN,P1 (pU<|Nat.le_max_left n1 n2) hs,Hc (pU<|Nat.le_max_right n1 n2) _ hr];rfl;obtain⟨R,hb,hR⟩:=aRq w hg hb;obtain⟨u,E,I,C⟩:=yO g S FR (fun _=>rfl) hb;obtain⟨t,Y,C⟩:=hR _ _ _ _ C;obtain⟨n2,A,B,e,h',V,hr,Z,T,X,β,hq⟩:=za E I (by simp[w]) N (by rw[EK];exact γ.aMm ho g d) Y C;refine⟨n2,⟨a1,h,_,_⟩::A,env::B,e,h',V,?_,by simp[Z],by simpa using T,X,β,FR⟩;have hs:kY P (run P K n2) all r i env h o=some (undef,h):=by simp only[kY,d]
  simp_all[nN]
def aCg (P:Program) (all:List Oper) (rs:JB) (hEnd:AH) (x:Nat×Nat) (d:Prop->Prop) (p:Prop):Prop:=match x with
 |(i,s)=>(match all[i]?,rs[i]? with
  |some o,some ⟨a,_,v,true⟩=>(match rs[s]? with
   |some ⟨_,h,_,_⟩=>wLV P a h (fun x=>wM x v=true) o.op/\d p
   |none=>wLV P a hEnd (fun x=>wM x v=true) o.op/\d p)
  |some _,some ⟨_,_,_,false⟩=>d p
  |_,_=>hF)
def wFl (P:Program) (all:List Oper) (rs:JB) (hEnd:AH) (fs:List (Nat×Nat)):Prop->Prop:=List.rec (fun p=>p) (fun x _ d=>aCg P all rs hEnd x d) fs
theorem aGq {all:List Oper} {rs:JB} {es:JF} {hEnd:AH} (d:WOk all rs es) {p:Prop}:∀{fs:List (Nat×Nat)},wFl P all rs hEnd fs p->(fs.all (Iw P all (List.zipWith (fun x e=>⟨e,x.h,x.v⟩) rs es) hEnd)=true)/\p
 |[],g=>⟨rfl,g⟩
 |(i,s)::fs,g=>by
  change aCg P all rs hEnd (i,s) (wFl P all rs hEnd fs) p at g;unfold aCg at g;simp only at g;have C:∀{j:Nat} {x:WR},rs[j]?=some x->∃e,es[j]?=some e/\(List.zipWith (fun x e=>(⟨e,x.h,x.v⟩:Rec)) rs es)[j]?=some ⟨e,x.h,x.v⟩:=by
   intro j x n;have J:j<es.length:=by rw[<-d.1];exact FR
   exact⟨es[j],by simp[J],FR⟩
  split at g;rename_i o a h v w n;obtain⟨e,t,y⟩:=C n;obtain⟨B,m⟩:=d.2 i o _ e w n t;have sL:∀{r:AH},(match(List.zipWith (fun x e=>(⟨e,x.h,x.v⟩:Rec)) rs es)[s]? with|some q=>q.h|none=>hEnd)=r->wLV P a r (fun x=>wM x v=true) o.op/\wFl P all rs hEnd fs p->(((i,s)::fs).all (Iw P all (List.zipWith (fun x e=>⟨e,x.h,x.v⟩) rs es) hEnd)=true)/\p:=by
   intro r I ⟨D,E⟩;obtain⟨z,A⟩:=aGq d E;refine⟨?_,A⟩;obtain⟨_,u,N,O⟩:=aS4 B D;rw[CG,z,DP];cases hc:(List.zipWith _ rs es)[s]?<;>(rw[hc] at I;grind[Iw])
  grind;rename_i o a h v w n;obtain⟨e,t,y⟩:=C n;obtain⟨B,m⟩:=d.2 i o _ e w n t;obtain⟨z,A⟩:=aGq d g;simp_all[CG,DP,Iw];cases g
def feq:List (Nat×Nat)->List (Nat×Nat)->Bool
 |[],[]=>true
 |(a,b)::l,(c,d)::m=>Nat.beq a c&&(Nat.beq b d&&feq l m)
 |_,_=>false
def aRc:∀{l m:List (Nat×Nat)},feq l m=true->l=m
 |[],[],_=>rfl
 |(a,b)::l,(c,d)::m,h=>by
  simp only[feq,dn] at h;rw[ql h.1,ql h.2.1,aRc h.2.2]
 |[],_::_,h=>FZ
 |_::_,[],h=>FZ
def aSa (P:Program) (ops:Array Oper) (d:List (Nat×Nat)):Bool:=Ss ops.toList&&(P.follows .mixedOrders|| !Region.departs ops)&&feq (O4 ops.toList) d
def aP7:List (Nat×List (Nat×Nat))->Nat->(List (Nat×Nat)->Prop)->Prop
 |[],_,q=>hP (q [])
 |(i,l)::F,id,q=>(match Nat.beq i id with
  |true=>q l
  |false=>aP7 F id q)
def aGp:∀{F:List (Nat×List (Nat×Nat))} {id:Nat} {q:List (Nat×Nat)->Prop},aP7 F id q->∃l,q l
 |[],_,_,h=>⟨_,h⟩
 |_::F,_,_,h=>by
  unfold aP7 at h;split at h;exact⟨_,h⟩;exact aGp (F:=F) h
theorem W9 {all:List Oper} {rs gs:JB} {hEnd:AH} {p:Prop} {g:List (Nat×Nat)} (r:rs.length=gs.length) (n:∀(j:Nat) (x y:WR),rs[j]?=some x->gs[j]?=some y->x=y\/la g j=false/\x.h=y.h):
  ∀{fs:List (Nat×Nat)},(∀x∈fs,la g x.1=true)->wFl P all rs hEnd fs p->wFl P all gs hEnd fs p
 |[],_,d=>d
 |(i,s)::fs,m,d=>by
  change aCg P all rs hEnd (i,s) (wFl P all rs hEnd fs) p at d;show aCg P all gs hEnd (i,s) (wFl P all gs hEnd fs) p;have A:=W9 (hEnd:=hEnd) (all:=all) (p:=p) r n fun x u=>m x<|aW _ u;have z:rs[i]?=gs[i]?:=by
   have w:=m (i,s) FR;rcases u4 i rs.length with t|o;grind;grind
  unfold aCg at d ⊢;grind
theorem aHa:∀{d:List (Nat×Nat)} {x:Nat×Nat},x∈d->la d x.1=true
 |(a,b)::l,x,h=>by
  unfold la;split;rfl;rcases e6.1 h with rfl|h;simp_all;exact aHa h
def rvK (q:JB->Prop):JB->JB->Prop
 |[],acc=>hP (q acc)
 |x::l,acc=>rvK q l (x::acc)
theorem aS7 {q:JB->Prop}:∀{l acc:JB},rvK q l acc->q (l.reverse++acc)
 |[],_,h=>h
 |x::l,acc,h=>by have:=aS7 (l:=l) h;grind
def aRi (P:Program) (K:FuncId->FJ->IX) (M n:Nat) (F:List (Nat×List (Nat×Nat))) (id:Nat) (ops:Array Oper) (a:Ek) (h:AH) (q:Ek->AH->Prop):Prop:=
 aP7 F id fun d=>nK ops.size fun m=>dj (aSa P ops d) h m fun r u=>(match d with
  |[]=>wDT P K M n (fun j=>(ops[j]?).bind (·.dst)) r [] ops.toList 0 a u [] fun _ o g=>q o g
  |d=>wDT P K M n (fun j=>(ops[j]?).bind (·.dst)) r d ops.toList 0 a u [] fun t o g=>rvK (fun t=>wFl P ops.toList t g d<|q o g) t [])
theorem aOl {F:List (Nat×List (Nat×Nat))} {a:Ek} (ha:jD a env) (O:env.length=n) {h:AH} {q:Ek->AH->Prop} (y:aRi P K M n F id ops a h q):∃m e j o,Bq P (run P K m) ops env h=some (e,j)/\jD o e/\e.length=n/\q o j:=by
 obtain⟨T,y⟩:=aGp y;obtain⟨A,y⟩:=aL0 y;unfold aSa at A;rw[dn] at A;have B:=aRc A.2;subst B;obtain⟨m,d,g,e,j,o,D,C,u,r,t,w⟩:∃m d g e j o,nN P _ ops.toList h.next 0 ops.toList env _=some (List.zipWith _ d g,e,j)/\d.length=g.length/\WOk ops.toList d g/\jD o e/\e.length=n/\wFl P ops.toList d j (O4 ops.toList) _:=by
  have J:WOk ops.toList ([]:JB).reverse []:=⟨rfl,FR⟩;split at y;rename_i z;obtain⟨m,d,g,e,j,o,D,C,u,r,t,I,_,w⟩:=za (i:=0) ha O rfl FR J FR y;exact⟨m,d,g,e,j,o,D,C,FR,r,t,by rw[z];exact w⟩;rename_i z;obtain⟨m,d,g,e,j,o,D,C,u,r,t,I,E,w⟩:=za (i:=0) (rs:=[]) ha O rfl FR J (fun _=>trivial) y;obtain⟨U,Q⟩:=aGg<|E fun e=>z e;have N:=aS7 w;rw[kx] at N;have V:=W9 FR Q (fun x S=>aHa S) N;grind
 obtain⟨X,w⟩:=aGq u w;refine⟨m,e,j,o,?_,r,t,w⟩;simp_all[Bq,bD2]
inductive It where
 |code (p:FL) (c:Code)|inBlock (id:Nat)|inLoop (p:FL) (b:Code)|inScope (b:Code)|beginRound
abbrev IZ:=List It
def It.it:It->Item
 |.code _ c=> .code c
 |.inBlock id=> .inBlock id
 |.inLoop _ b=> .inLoop b
 |.inScope b=> .inScope b
 |.beginRound=> .beginRound
abbrev Oq (k:IZ):List Item:=k.map It.it
def tS (b:Nat) (p:FL) (x:Code×IZ):Code×IZ:=match x.1,b with
 |.seq c d,0=>(c,.code (1::p) d::x.2)
 |.seq _ d,1=>(d,x.2)
 |.cond _ t _,0=>(t,x.2)
 |.cond _ _ e,1=>(e,x.2)
 |.block id c,0=>(c,.inBlock id::x.2)
 |.loop c,0=>(c,.inLoop (0::p) c::x.2)
 |.scope c,0=>(c,.inScope c::x.2)
 |.rangeFunc _ _ a c,0=>(a,[.beginRound,.code (1::p) c])
 |.rangeFunc _ _ _ c,1=>(c,[])
 |_,_=>(.skip,[])
def Pm (P:Program) (f:FuncId):FL->Code×IZ
 |[]=>((S5 P f).getD .skip,[])
 |b::p=>tS b p<|Pm P f p
def nT (P:Program) (f:FuncId):IZ->Prop
 |[]=>True
 |.code p c::k=>Pm P f p=(c,k)/\nT P f k
 |.inLoop p b::k=>Pm P f p=(b,.inLoop p b::k)/\nT P f k
 |_::k=>nT P f k
def Bo (id:Nat):IZ->Option (IZ)
 |[]=>none
 |.inBlock i::k=>(match Nat.beq i id with
  |true=>some k
  |false=>Bo id k)
 |_::k=>Bo id k
theorem Bv {f:FuncId} {id:Nat}:∀{k k':IZ},Bo id k=some k'->exitTo id (Oq k)=some (Oq k')/\(nT P f k->nT P f k')
 |[],_,h=>FZ
 |x::k,k',h=>by
  cases x with
  |inBlock i=>
   unfold Bo at h;split at h;rename_i e;cases h;have:=ql e;subst this;exact⟨by simp[Oq,It.it,exitTo],fun g=>g⟩;rename_i e;obtain⟨j,d⟩:=Bv (f:=f) h;refine⟨?_,fun g=>d g⟩;have:(i==id)=false:=by simpa using Nat.ne_of_beq_eq_false e
   simp_all[Oq,It.it,exitTo]
  |code p c=>obtain⟨j,d⟩:=Bv (f:=f) (k:=k) h;exact⟨j,fun g=>d g.2⟩
  |inLoop p c=>obtain⟨j,d⟩:=Bv (f:=f) (k:=k) h;exact⟨j,fun g=>d g.2⟩
  |inScope c=>obtain⟨j,d⟩:=Bv (f:=f) (k:=k) h;exact⟨j,fun g=>d g⟩
  |beginRound=>obtain⟨j,d⟩:=Bv (f:=f) (k:=k) h;exact⟨j,fun g=>d g⟩
theorem Bz {id:Nat}:∀{k:IZ},Bo id k=none->exitTo id (Oq k)=none
 |[],_=>rfl
 |x::k,h=>by
  cases x with
  |inBlock i=>
   unfold Bo at h;split at h;cases h;rename_i e;simpa [Oq,It.it,exitTo,(by simpa using Nat.ne_of_beq_eq_false e)] using Bz h
  |code p c=>exact Bz (k:=k) h
  |inLoop p c=>exact Bz (k:=k) h
  |inScope c=>exact Bz (k:=k) h
  |beginRound=>exact Bz (k:=k) h
def sV:Nat->IZ->IZ
 |0,k=>k
 |n+1,k=>match k with
  |.code p c::d=>(match c with
   |.skip=>sV n d
   |.label _=>sV n d
   |.seq a b=>sV n (.code (0::p) a:: .code (1::p) b::d)
   |.block id b=>sV n (.code (0::p) b:: .inBlock id::d)
   |.scope b=>sV n (.code (0::p) b:: .inScope b::d)
   |.loop b=>sV n (.code (0::p) b:: .inLoop (0::p) b::d)
   |.exit id=>(match Bo id d with
    |some g=>sV n g
    |none=>k)
   |_=>k)
  |.inBlock _::d=>sV n d
  |.inScope _::d=>sV n d
  |.inLoop p b::d=>sV n (.code p b:: .inLoop p b::d)
  |_=>k
section
variable {f:FuncId} {k:IZ} {a b c:Code}
theorem nT.seq (g:nT P f (.code p (.seq a b)::k)):nT P f (.code (0::p) a:: .code (1::p) b::k):=by
 obtain⟨j,d⟩:=g;exact⟨GV,GV,d⟩
theorem nT.block (g:nT P f (.code p (.block id b)::k)):nT P f (.code (0::p) b:: .inBlock id::k):=by
 obtain⟨j,d⟩:=g;exact⟨GV,d⟩
theorem nT.scope (g:nT P f (.code p (.scope b)::k)):nT P f (.code (0::p) b:: .inScope b::k):=by
 obtain⟨j,d⟩:=g;exact⟨GV,d⟩
theorem nT.loop (g:nT P f (.code p (.loop b)::k)):nT P f (.code (0::p) b:: .inLoop (0::p) b::k):=by
 obtain⟨j,d⟩:=g;exact⟨GV,GV,d⟩
def nT.Y2 (g:nT P f (.inLoop p b::k)):nT P f (.code p b:: .inLoop p b::k):=⟨g.1,g⟩
end
theorem vI {f:FuncId}:∀(n:Nat) {k:IZ},nT P f k->Oq (sV n k)=tN n (Oq k)/\nT P f (sV n k)
 |0,_,g=>⟨rfl,g⟩
 |_+1,[],g=>⟨rfl,g⟩
 |n+1,.inBlock _::k,g=>vI n (k:=k) g
 |n+1,.inScope _::k,g=>vI n (k:=k) g
 |n+1,.inLoop _ _::_,g=>vI n g.Y2
 |_+1,.beginRound::_,g=>⟨rfl,g⟩
 |n+1,.code p c::k,g=>by
  cases c with
  |skip=>exact vI n g.2
  |label _=>exact vI n g.2
  |seq a b=>exact vI n g.seq
  |block id b=>exact vI n g.block
  |scope b=>exact vI n g.scope
  |loop b=>exact vI n g.loop
  |exit id=>
   show Oq (match Bo id k with|some d=>sV n d|none=>_)=(match exitTo id (Oq k) with|some d=>tN n d|none=>_)/\nT P f (match Bo id k with|some d=>sV n d|none=>_);cases hx:Bo id k with
   |some d=>
    obtain⟨j,m⟩:=Bv (P:=P) (f:=f) hx;rw[j];exact vI n (m g.2)
   |none=>grind[Bz]
  |_=>exact⟨rfl,g⟩
structure FT where
 L:List (Nat×FL)
 R:List (Nat×FL)
 hr:Bool
 M:Nat:=0
 F:List (Nat×List (Nat×Nat)):=[]
abbrev JD:=List FT
def bA6 (l:List (JD)) (f:FuncId):FT:=((l[f/16]?).getD [])[f % 16]?.getD ⟨[],[],false,0,[]⟩
def peq:FL->FL->Bool
 |[],[]=>true
 |a::l,b::m=>(match Nat.beq a b with
  |true=>peq l m
  |false=>false)
 |_,_=>false
theorem aRg:∀{l m:FL},peq l m=true->l=m
 |[],[],_=>rfl
 |a::l,b::m,h=>by
  unfold peq at h;split at h;rename_i e;rw[ql e,aRg h];cases h
 |[],_::_,h=>FZ
 |_::_,[],h=>FZ
def C7:FL->Nat
 |[]=>1
 |b::p=>2*C7 p+b
def lx:List (Nat×FL)->FL->Nat->(Nat->Nat->FL->Prop)->Prop
 |[],_,_,_=>hF
 |(n,d)::L,p,i,q=>(match Nat.beq (C7 p) n with
  |true=>(match peq p.reverse (qK n) with
   |true=>q i n d
   |false=>hF)
  |false=>nK (i+1) fun i=>lx L p i q)
theorem a8:∀{L:List (Nat×FL)} {p:FL} {i:Nat} {q:Nat->Nat->FL->Prop},lx L p i q->∃j n d,L[j]?=some (n,d)/\p=(qK n).reverse/\q (i+j) n d
 |[],_,_,_,h=>h.elim
 |(n,d)::L,p,i,q,h=>by
  unfold lx at h;split at h;split at h;exact⟨0,n,d,rfl,by grind[aRg,List.reverse_reverse],h⟩;cases h;obtain⟨j,t,g,m,o,r⟩:=a8<|aL0 h;exact⟨_,t,g,m,o,by rw[show i+(j+1)=i+1+j by omega];exact r⟩
def gn (a:Ek):FL->(FJ->Prop)->Prop
 |[],q=>q []
 |t::d,q=>(match a.lk t with
  |some (v,_)=>gn a d fun g=>q (v::g)
  |none=>hF)
theorem Zr {a:Ek} {env:FJ} (ha:jD a env):∀{lv:FL} {q:FJ->Prop},gn a lv q->q (lv.map fun t=>env.getD t undef)
 |[],_,h=>h
 |t::lv,q,h=>by
  unfold gn at h;split at h;rename_i d;have g:=(ha _ _ _ d).1;have:=Zr ha h;grind;cases h
def PtI (P:Program) (K:FuncId->FJ->IX) (T:FT) (f:FuncId) (g:Option Nat) (Q:Dx->AH->Prop) (i:Nat) (d:FL) (vs:FJ) (h:AH):Prop:=
 Pt P K f g Q (ntm P f) ((T.L[i]?).getD (0,[])).2 (.code (Pm P f (qK ((T.L[i]?).getD (0,[])).1).reverse).1::Oq (Pm P f (qK ((T.L[i]?).getD (0,[])).1).reverse).2) d vs h
def wE (T:FT) (a:Ek) (k:IZ) (q:Nat->FJ->Prop):Prop:=match k with
 |.code p _::_=>lx T.L p 0 fun i _ d=>gn a d fun g=>q i g
 |_=>hF
def aTn {T:FT} {f:FuncId} {o:Option Nat} {Q:Dx->AH->Prop} {m:FL} {h:AH} {a:Ek} {k:IZ} (ha:jD a env) (w:env.length=ntm P f) (u:nT P f k) (g:wE T a k fun i y=>PtI P K T f o Q i m y h):Ok P K (.todo f o m env<|Oq k) h Q:=by
 unfold wE at g;split at g;obtain⟨j,n,z,r,t,d⟩:=a8 g;have d:=Zr ha d;simp only[PtI,AD,r,ts,<-t,u.1] at d;have:=d _ rfl;rwa [Xi w] at this;cases g
def gm (P:Program) (a:Ek) (h:AH) (r:ResultVar) (d:(FJ->Prop)->Prop) (p:FJ->Prop):Prop:=match r with
 |.tmp t=>(match a.lk t with
  |some (v,_)=>d fun l=>p (v::l)
  |none=>hF)
 |.cell x t=>(match a.lk x with
  |some (v,_)=>(match nV P t with
   |some true=>r8 P t fun n=>cC (yU h n v) fun v=>d fun l=>p (v::l)
   |some false=>cC (vZ h v) fun v=>d fun l=>p (v::l)
   |none=>hF)
  |none=>hF)
def aEk (P:Program) (a:Ek) (h:AH) (rs:List ResultVar):(FJ->Prop)->Prop:=List.rec (fun p=>p []) (fun r _ d=>gm P a h r d) rs
theorem Tx {a:Ek} {env:FJ} (ha:jD a env) {h:AH}:∀{rs:List ResultVar} {p:FJ->Prop},aEk P a h rs p->bg P h env rs p
 |[],_,d=>d
 |.tmp t::rs,p,d=>by
  have d:gm P a h (.tmp t) (aEk P a h rs) p:=d;unfold gm at d;simp only at d;split at d;rename_i j;have n:=(ha _ _ _ j).1;have:=Tx ha d;simp_all[bg,aP,ts];cases d
 |.cell x t::rs,p,d=>by
  have d:gm P a h (.cell x t) (aEk P a h rs) p:=d;unfold gm at d;simp only at d;split at d;rename_i j;simp only[bg,aP,(ha _ _ _ j).1,ts];split at d;rename_i g;simp only[g];exact(B2 d).2.mono fun v m=>Tx ha m;rename_i g;simp only[g];exact d.mono fun v m=>Tx ha m;cases d;cases d
def aN5 (Q:Value->AH->Prop) (l:FJ) (h:AH):Prop:=match l with
 |[v]=>Q v h
 |l=>hP<|Q (.tuple ⟨l⟩) h
def aT2 {h:AH}:(fun l=>aN5 Q l h)=fun l=>Q (Fz l) h:=funext fun l=>match l with
 |[]=>rfl
 |[_]=>rfl
 |_::_::_=>rfl
def aOj (P:Program) (f:FuncId) (m:Bool) (Q:Value->AH->Prop) (lv:Fp) (g:FL) (a:Ek) (h:AH):Prop:=match lv with
 |.exit _=>hF
 |_=>(match m with
  |true=>cC (dO g h) fun j=>aEk P a j ((P.funcs[f]?).elim [] fun d=>d.results.toList) fun l=>aN5 Q l j
  |false=>(match g with
   |[]=>aEk P a h ((P.funcs[f]?).elim [] fun d=>d.results.toList) fun l=>aN5 Q l h
   |_=>hF))
theorem aGr {f:FuncId} {u:Bool} {lv:Fp} {j:FL} {a:Ek} {h:AH} (ha:jD a env) (d:aOj P f u Q lv j a h):we P f Q ⟨lv,j,env,undef⟩ h:=by
 have n:(∀id,lv≠.exit id)->(cC (dO j h) fun g=>aEk P a g ((P.funcs[f]?).elim [] fun r=>r.results.toList) fun l=>aN5 Q l g)->we P f Q ⟨lv,j,env,undef⟩ h:=by
  intro t ⟨g,o,m⟩;simp only[aT2] at m;refine xd ?_;unfold aZ5;cases lv with
  |exit id=>grind
  |vY=>exact⟨g,o,Tx ha m⟩
  |ret=>exact⟨g,o,Tx ha m⟩
 unfold aOj at d;split at d;cases d;split at d;grind;split at d;exact n FQ ⟨h,rfl,d⟩;cases d
def aM1:IZ->Bool
 |[]=>true
 |.code _ .ret::_=>true
 |.code _ (.exit _)::_=>true
 |_=>false
def th (k:IZ):Bool:=match sV 60 k with
 |.code _ (.region _ _ _)::d=>aM1 (sV 60 d)
 |d=>aM1 d
def wRg (P:Program) (K:FuncId->FJ->IX) (f:FuncId) (m:Nat) (g:Value) (num:Nat) (lv:FL) (vs:FJ) (d:Nat) (h:AH) (q:Option Code->AH->Prop):Prop:=
 ∀e:Nat->Value,lv.map e=vs->Jj h (lp P f (qK num) m e d .ready none) fun l j=>ga P K g l j fun _ n=>cC (yL n l) fun r=>(match r with|(pd,o)=>q pd o)
def wTF (P:Program) (K:FuncId->FJ->IX) (E:FL->Ek->IZ->AH->Prop) (F:Fp->FL->Ek->AH->Prop) (T:FT) (f:FuncId) (m:Nat) (B:Option Nat) (n:FL->Ek->IZ->AH->Prop) (g:FL) (a:Ek) (k:IZ) (h:AH):Prop:=(match k with
  |[]=>F .vY g a h
  |.code p c::k=>(match c with
   |.skip=>n g a k h
   |.label _=>n g a k h
   |.seq x y=>n g a (.code (0::p) x:: .code (1::p) y::k) h
   |.cond c t e=>(match knW a c with
    |.b true=>n g a (.code (0::p) t::k) h
    |.b false=>n g a (.code (1::p) e::k) h
    |_=>Fw P a c fun v=>Br v
     (match th (.code (0::p) t::k) with
     |true=>n g a (.code (0::p) t::k) h
     |false=>E g a (sV 60 (.code (0::p) t::k)) h)
     (match th (.code (1::p) e::k) with
     |true=>n g a (.code (1::p) e::k) h
     |false=>E g a (sV 60 (.code (1::p) e::k)) h))
   |.block id b=>n g a (.code (0::p) b:: .inBlock id::k) h
   |.loop b=>E g a (sV 60 (.code (0::p) b:: .inLoop (0::p) b::k)) h
   |.scope b=>n g a (.code (0::p) b:: .inScope b::k) h
   |.exit id=>(match Bo id k with
    |some u=>n g a u h
    |none=>(match B with
     |some _=>F (.exit id) g a h
     |none=>hF))
   |.ret=>F .ret g a h
   |.region _ ops false=>aO0 P K T.M m (fun j=>(ops[j]?).bind (·.dst)) ops.toList a h fun z o=>n g z k o
   |.region id ops true=>aRi P K T.M m T.F id ops a h fun z o=>n g z k o
   |.rangeFunc w _ _ r=>Fw P a w fun w=>lx T.R p 0 fun _ num A=>gn a A fun C=>(match B with
    |none=>Jj h (.wO true) fun d D=>wRg P K f m w num A C d D fun pd o=>zF pd (n (d::g) a k o) (F .ret (d::g) a o)
      ((nG r).map fun id=>(id,(match Bo id k with
       |some u=>n (d::g) a u o
       |none=>hF)))
    |some l=>cC (jF h l) fun d=>wRg P K f m w num A C d h fun pd o=>zF pd (n g a k o) (F .ret g a o)
      ((nG r).map fun id=>(id,(match Bo id k with
       |some u=>n g a u o
       |none=>F (.exit id) g a o))))
   |_=>hF)
  |.inBlock _::k=>n g a k h
  |.inScope _::k=>n g a k h
  |.inLoop p b::k=>E g a (sV 60 (.code p b:: .inLoop p b::k)) h
  |.beginRound::k=>(match B with
   |some l=>cC (oI h l) fun o=>n g a k o
   |none=>hF))
def wT (P:Program) (K:FuncId->FJ->IX) (E:FL->Ek->IZ->AH->Prop) (F:Fp->FL->Ek->AH->Prop) (T:FT) (f:FuncId) (m:Nat) (g:Option Nat) (n:Nat):FL->Ek->IZ->AH->Prop:=
 Nat.rec (fun _ _ _ _=>hF) (fun _ d=>wTF P K E F T f m g d) n
theorem aFq {q:FL} {c:Code} {k k':IZ}:(tS b p (c,k)).1=(tS b q (c,k')).1:=by
 unfold tS;grind
theorem aHd {c:Code} {l:FL}:Nr c (b::l)=Nr (tS b [] (c,[])).1 l:=by
 have d:∀l:FL,Nr .skip l= .skip:=fun l=>by grind[Nr]
 rcases b with _|_|b<;>cases c<;>simp[Nr,tS,d]
def Vt:∀(l:FL) (c:Code),Nr c l=l.foldl (fun c b=>(tS b [] (c,[])).1) c
 |[],c=>by simp[Nr]
 |b::l,c=>by rw[aHd,Vt l];rfl
def ey {f:FuncId}:∀p:FL,(Pm P f p).1=Nr ((S5 P f).getD .skip) p.reverse
 |[]=>by simp[Pm,Nr]
 |b::p=>by
  have d:(Pm P f (b::p)).1=(tS b [] ((Pm P f p).1,[])).1:=aFq;rw[d,ey p,EK,Vt,Vt,DG];rfl
theorem aRs {f:FuncId} {A:Operand} {w:Value} {u r:Code} {h:AH} {q:Option Code->AH->Prop} (D:env.length=m) (hc:cd P f (qK num)= .rangeFunc A ps u r)
  (C:wRg P K f m w num lv (lv.map fun t=>env.getD t undef) d h q):
  ∃n g first j o y p z,w= .func (.func g) first j/\lX P g=true/\run P K n (.call g<|first.toList++[.func (.yield h.next) #[] #[]]++j.toList) (h.alloc<|.loop .ready none f env ps u r d)=some (o,y)/\
   yL y h.next=some (p,z)/\q p z:=by
 refine Se (lv:=lv) ?_
 intro e B
 have:=C e B
 grind[lp,rgF]
def uX {f:FuncId} {g:Option Nat} {d:FL} {k k':List Item} {h:AH} {Q:Dx->AH->Prop} (n:Ok P K (.todo f g d env k') h Q) (j:∀m,run P K (m+1) (.todo f g d env k) h=run P K m (.todo f g d env k') h):Ok P K (.todo f g d env k) h Q:=Ll j n
theorem aNc {E:FL->Ek->IZ->AH->Prop} {F:Fp->FL->Ek->AH->Prop} {T:FT} {f:FuncId} {m:Nat} {V:Option Nat} {Q:Dx->AH->Prop}
  (hE:∀D a env k h,jD a env->env.length=m->nT P f k->E D a k h->Ok P K (.todo f V D env<|Oq k) h Q) (hF:∀lv D a env h,jD a env->F lv D a h->Q ⟨lv,D,env,undef⟩ h):
  ∀(n:Nat) {D:FL} {a:Ek} {env:FJ} {k:IZ} {h:AH},jD a env->env.length=m->nT P f k->wT P K E F T f m V n D a k h->Ok P K (.todo f V D env<|Oq k) h Q
 |0,_,_,_,_,_,_,_,_,u=>u.elim
 |n+1,D,a,env,k,h,A,I,B,u=>by
  have J:∀{D:FL} {a:Ek} {env:FJ} {k:IZ} {h:AH},jD a env->env.length=m->nT P f k->wT P K E F T f m V n D a k h->Ok P K _ h Q:=fun x y z w=>aNc hE hF n x y z w;have nm:∀{k:IZ},nT P f k->E D a _ h->Ok P K _ h Q:=fun g hk=>by
   obtain⟨Y,h2⟩:=vI 60 g;exact Vm 60<|Y▸hE _ _ _ _ _ A I h2 hk
  have go:∀{X:IZ},nT P f X->(match th X with
     |true=>wT P K E F T f m V n D a X h
     |false=>E D a (sV 60 X) h)->Ok P K (.todo f V D env<|Oq X) h Q:=by
   intro X g hk
   split at hk
   .grind
   .grind
  change wTF P K E F T f m V (wT P K E F T f m V n) D a k h at u;unfold wTF at u;split at u;exact⟨1,_,rfl,FR⟩;rename_i p c k;split at u;exact uX (J A I B.2 u) fun _=>rfl;exact uX (J A I B.2 u) fun _=>rfl;exact uX (J A I B.seq u) fun _=>rfl;rename_i c t e;have g1:nT P f (.code (0::p) t::k):=⟨by simp only[Pm,B.1,tS],B.2⟩;have g2:nT P f (.code (1::p) e::k):=⟨by simp only[Pm,B.1,tS],B.2⟩;obtain⟨k1,k2⟩:=aG8 (P:=P) (x:=c) A;split at u;rename_i hk;exact Zp (pj (b:=true) (fun _=>J A I g1 u) FW|>fun x=>by rw[k1 _ hk];exact x);rename_i hk;exact Zp (pj (b:=false) FW (fun _=>J A I g2 u)|>fun x=>by rw[k1 _ hk];exact x);exact Zp (let⟨b,x,y,z⟩:=kN A u;⟨b,x,fun t=>go g1<|y t,fun t=>go g2<|z t⟩);exact uX (J A I B.block u) fun _=>rfl;exact uX (nm B.loop u) fun _=>rfl;exact uX (J A I B.scope u) fun _=>rfl;split at u;rename_i X S;obtain⟨Y,h2⟩:=Bv (P:=P) (f:=f) S;refine uX (J A I (h2 B.2) u) fun m=>?_;show gT P (run P K m) _ _ _ _ (.code _::Oq k) _=_;grind[gT];rename_i S;split at u;refine⟨1,(⟨_,D,env,_⟩,h),?_,hF _ _ _ _ _ A u⟩;show gT P (run P K 0) _ _ _ _ (.code _::Oq k) _=_;simp only[gT,Bz S,EB,eD];cases u;exact⟨1,_,rfl,FR⟩;obtain⟨n1,o,Y,a',hr,δ,ζ,u⟩:=sq A I u;obtain⟨n2,r,O,hq⟩:=J δ ζ B.2 u;refine⟨max n1 n2+1,r,?_,hq⟩;show gT P (run P K _) _ _ _ _ (.code _::Oq k) _=_;simp only[gT];rw[pU FQ _ _ _ hr];exact pU FQ _ _ _ O;obtain⟨n1,e,Y,a',hr,δ,ζ,u⟩:=aOl A I u;obtain⟨n2,r,O,hq⟩:=J δ ζ B.2 u;refine⟨max n1 n2+1,r,?_,hq⟩;show gT P (run P K _) _ _ _ _ (.code _::Oq k) _=_;simp only[gT];rw[Sz (pU FQ) hr];exact pU FQ _ _ _ O;rename_i fv ps η γ;have u:=kN A u;obtain⟨j,num,lv,_,hp,u⟩:=a8 u;have u:=Zr A u;have hc:cd P f (qK num)= .rangeFunc fv ps η γ:=by
   have:=ey (P:=P) (f:=f) p;rw[B.1,hp,DV] at this;exact this.symm
  have ex:∀{N:FL} {Z:AH} {pd:Option Code},zF pd (wT P K E F T f m V n N a k Z) (F .ret N a Z)
    ((nG γ).map fun id=>(id,(match Bo id k with
     |some X=>wT P K E F T f m V n N a X Z
     |none=>(match V with
      |none=>False
      |some _=>F (.exit id) N a Z))))->Ok P K (.todo f V N env<|(pd.map Item.code).toList++Oq k) Z Q:=by
   intro N Z pd S
   unfold zF at S
   split at S
   .exact J A I B.2 S
   .exact⟨1,_,rfl,FR⟩
   .split at S
    .rename_i hl;have:=uo hl;subst this;split at S
     .rename_i X hy;obtain⟨Y,h2⟩:=Bv (P:=P) (f:=f) hy;refine uX (J A I (h2 B.2) S) fun m=>?_;simp_all[gT,run,Oq]
     .rename_i hy;split at S
      .cases S
      .refine⟨1,(⟨_,N,env,_⟩,Z),?_,hF _ _ _ _ _ A S⟩;show gT P (run P K 0) _ _ _ _ (.code _::Oq k) _=_;simp only[gT,Bz hy,EB,eD]
    .cases S
   .cases S
  split at u;unfold Jj at u;obtain⟨n1,g,first,U,o,h3,p,Z,hf,ε,hr,C,u⟩:=aRs I hc u;obtain⟨n2,r,O,hq⟩:=ex u;refine⟨max n1 n2+1,r,?_,hq⟩;show gT P (run P K _) _ _ _ _ (.code _::Oq k) _=_;unfold yL at C;split at C;rename_i hl;split at C;cases C;rename_i hb;simp only[ba] at C;obtain⟨h5,C,h6⟩:=C;cases h6;simp only[gT,hf,ε,eD];rw[pU FQ _ _ _ hr];simp only[hl,hb,dx,C];exact pU FQ _ _ _ O;cases C;obtain⟨d,β,u⟩:=u;obtain⟨n1,g,first,U,o,h3,p,Z,hf,ε,hr,C,u⟩:=aRs I hc u;obtain⟨n2,r,O,hq⟩:=ex u;refine⟨max n1 n2+1,r,?_,hq⟩;show gT P (run P K _) _ _ _ _ (.code _::Oq k) _=_;unfold yL at C;unfold jF at β;split at β;rename_i θ;cases β;split at C;rename_i hl;split at C;cases C;rename_i hb;simp only[ba] at C;obtain⟨h5,C,h6⟩:=C;cases h6;simp only[gT,θ,hf,ε,eD];rw[pU FQ _ _ _ hr];simp only[hl,hb,dx,C];exact pU FQ _ _ _ O;cases C;cases β;cases u;rename_i k;exact uX (J (k:=k) A I B u) fun _=>rfl;rename_i k;exact uX (J (k:=k) A I B u) fun _=>rfl;exact uX (nm B.Y2 u) fun _=>rfl;rename_i k;split at u;obtain⟨h',Y,h2⟩:=u;unfold oI at Y;split at Y;refine Ll (t':= .todo f _ D env (Oq k)) (fun m=>?_)<|J A I B h2;show gT P (run P K m) _ _ _ _ (.beginRound::Oq k) _=_;grind[gT];cases Y;cases u
theorem oq {f:FuncId}:∀p:FL,nT P f (Pm P f p).2
 |[]=>trivial
 |b::p=>by
  have g:=oq (f:=f) p;have d:∀c,Pm P f (c::p)=tS c p _:=fun _=>rfl;rw[d];generalize j:Pm P f p=x at g d;obtain⟨c,k⟩:=x;rcases b with _|_|b<;>cases c<;>simp_all [tS,nT]
def D (P:Program) (K:FuncId->FJ->IX) (T:FuncId->FT) (f:FuncId) (i:Nat) (d:FL) (Q:Value->AH->Prop) (vs:FJ) (h:AH):Prop:=PtI P K (T f) f none (we P f Q) i d vs h
def R (P:Program) (K:FuncId->FJ->IX) (T:FuncId->FT) (f:FuncId) (i:Nat) (l:Nat) (Q:Value->AH->Prop) (vs:FJ) (h:AH):Prop:=PtI P K (T f) f (some l) (Lm l Q) i [] vs h
def fW (P:Program) (f:FuncId) (q:Nat->Code->Prop):Prop:=match P.funcs[f]? with
 |some ⟨_,_,_,_,_,_,n,_,some c,_,_,_,_,_,_,_⟩=>q n c
 |_=>hF
theorem aTw {f:FuncId} {q:Nat->Code->Prop} (h:fW P f q):∃d c,P.funcs[f]?=some d/\d.body=some c/\ntm P f=d.ntmps/\S5 P f=some c/\q d.ntmps c:=by
 rw[fW] at h;split at h;grind[ntm,S5];cases h
def ye (m:Nat):FL->FJ->Ek->(Ek->Prop)->Prop
 |[],[],a,q=>q a
 |t::d,v::g,a,q=>(match Nat.blt t m with
  |true=>ye m d g ((t,v,.un)::a) q
  |false=>hF)
 |_,_,_,_=>hF
theorem a7 {m:Nat}:∀{lv:FL} {vs:FJ} {a:Ek} {env:FJ} {q:Ek->Prop},jD a env->env.length=m->ye m lv vs a q->∃g,jD g ((lv.zip vs).foldl (fun t (p,v)=>t.set p v) env)/\((lv.zip vs).foldl (fun t (p,v)=>t.set p v) env).length=m/\lv.length=vs.length/\q g
 |[],[],a,env,q,j,n,d=>⟨a,j,n,rfl,d⟩
 |t::lv,v::vs,a,env,q,j,n,d=>by
  rw[ye] at d;split at d;rename_i e;have⟨g,h1,h2,h3,h4⟩:=a7 (j.cons (n.symm▸(oV e)) FR FR) FR d;exact⟨g,h1,h2,by simp[h3],h4⟩;cases d
 |[],_::_,_,_,_,_,_,d=>d.elim
 |_::_,[],_,_,_,_,_,d=>d.elim
theorem aK7 {t:Nat} (h:∀u,env[t]?=some u->u=v):env.set t v=env:=by
 refine ri fun i=>?_;grind
theorem Tm {e:Nat->Value} {m:Nat}:∀{lv:FL} {vs:FJ},lv.map e=vs->(lv.zip vs).foldl (fun t (p,v)=>t.set p v) ((List.range m).map e)=(List.range m).map e
 |[],_,_=>rfl
 |t::lv,vs,h=>by
  subst h;rw[k7,List.zip_cons_cons,CX];show List.foldl _ (((List.range m).map e).set t _) _=_;rw[aK7,Tm rfl];grind
theorem jD.nil:jD [] env:=fun _ _ _ h=>FZ
def wD (P:Program) (K:FuncId->FJ->IX) (T:FuncId->FT) (f:FuncId) (i:Nat) (d:FL) (Q:Value->AH->Prop) (vs:FJ) (h:AH):Prop:=match(T f).L[i]? with
 |some (num,g)=>fcL (qK num).reverse fun p=>(match Pm P f p with
  |(c,k)=>fW P f fun m _=>ye m g vs [] fun a=>wT P K (fun d a k h=>wE (T f) a k fun i vs=>D P K T f i d Q vs h) (aOj P f (T f).hr Q) (T f) f m none 200 d a (.code p c::k) h)
 |none=>hF
def bW {f:FuncId} {T:FuncId->FT} {j:FL} {h:AH} (d:wD P K T f i j Q vs h):D P K T f i j Q vs h:=by
 rw[wD] at d;split at d;rename_i num u t;have d:=Tv d;generalize o:Pm P f _=x at d;obtain⟨c,k⟩:=x;have⟨fn,_,_,_,hm,_,d⟩:=aTw d;unfold D PtI;simp[t,ts,o];intro e r;rw[hm];have⟨a,h1,h2,_,d⟩:=a7 (env:=(List.range fn.ntmps).map e) jD.nil FW d;rw[Tm r] at h1 h2;have m:=oq (P:=P) (f:=f) (qK num).reverse;rw[o] at m;exact aNc (fun j a g k h n w m hE=>aTn n FQ m hE) (fun u j a g h n hF=>aGr n hF) 200 (k:= .code _ c::k) h1 h2 ⟨o,m⟩ d;cases d
def wRd (P:Program) (K:FuncId->FJ->IX) (T:FuncId->FT) (f:FuncId) (i:Nat) (l:Nat) (Q:Value->AH->Prop) (vs:FJ) (h:AH):Prop:=match(T f).L[i]? with
 |some (num,g)=>fcL (qK num).reverse fun p=>(match Pm P f p with
  |(c,k)=>fW P f fun m _=>ye m g vs [] fun a=>wT P K (fun d a k h=>(match d with
   |[]=>wE (T f) a k fun i vs=>R P K T f i l Q vs h
   |_=>hF)) (fun g d _ h=>cy l Q g d [] h) (T f) f m (some l) 200 [] a (.code p c::k) h)
 |none=>hF
def aKu {f:FuncId} {T:FuncId->FT} {l:Nat} (r:ntm P f=m):∀g a d k h,jD a d->d.length=m->nT P f k->(match g with
   |[]=>wE (T f) a k fun i o=>R P K T f i l Q o h
   |_=>False)->Ok P K (.todo f (some l) g d<|Oq k) h (Lm l Q):=by
 intro g a d k h j t n hE
 split at hE
 .exact aTn j FQ n hE
 .cases hE
def aV0:Nat->FJ->Ek->(Ek->Prop)->Prop
 |_,[],a,q=>q a
 |i,v::l,a,q=>nK (i+1) fun j=>aV0 j l ((i,v,.un)::a) q
theorem jD.add {a:Ek} (ha:jD a env) (m:env[d]?=some v):jD ((d,v,.un)::a) env:=by
 intro t u j g;unfold Ek.lk at g;split at g;grind[Nat.eq_of_beq_eq_true];exact ha t u j g
theorem aGh {env:FJ}:∀{l:FJ} {i:Nat} {a:Ek} {q:Ek->Prop},jD a env->(∀j v,l[j]?=some v->env[i+j]?=some v)->aV0 i l a q->∃m,jD m env/\q m
 |[],_,a,_,d,_,g=>⟨a,d,g⟩
 |v::l,i,a,q,d,n,g=>aGh (l:=l) (d.add<|n 0 v rfl) (fun j u o=>by have:=n (j+1) u FR;grind)<|aL0 g
def aKs (n m:Nat):FL->Ek->(Ek->Prop)->Prop
 |[],a,q=>hP (q a)
 |t::d,a,q=>(match Nat.ble n t with
  |true=>(match Nat.blt t m with
   |true=>aKs n m d ((t,undef,.un)::a) q
   |false=>hF)
  |false=>aKs n m d a q)
theorem uh {args:FJ} {m:Nat}:∀{lv:FL} {a:Ek} {q:Ek->Prop},jD a (args++List.replicate (m - args.length) undef)->aKs args.length m lv a q->∃j,jD j (args++List.replicate (m - args.length) undef)/\q j
 |[],a,_,g,d=>⟨a,g,d⟩
 |t::lv,a,q,g,d=>by
  rw[aKs] at d;split at d;rename_i n;have n:=oV n;split at d;rename_i o;have o:t<m:=oV o;refine uh (g.add ?_) d;grind;cases d;exact uh g d
def wC (P:Program) (K:FuncId->FJ->IX) (T:FuncId->FT) (f:FuncId) (args:FJ) (Q:Value->AH->Prop) (h:AH):Prop:=match K f args with
 |none=>fW P f fun m c=>(match Nat.ble args.length m with
  |true=>aV0 0 args [] fun a=>nK args.length fun n=>aKs n m (((T f).L[0]?).getD (0,[])).2 a fun a=>wT P K (fun d a k h=>wE (T f) a k fun i g=>D P K T f i d Q g h) (aOj P f (T f).hr Q) (T f) f m none 200 [] a [.code [] c] h
  |false=>hF)
 |some _=>hF
theorem cW {f:FuncId} {T:FuncId->FT} {args:FJ} {h:AH} (d:wC P K T f args Q h):Cl P K f args h Q:=by
 rw[wC] at d;split at d;rename_i o;have⟨fn,c,hf,hb,hm,hbo,d⟩:=aTw d;apply aPl hf hb o;split at d;rename_i hle;have hle:=oV hle;have⟨a,h1,d⟩:=aGh (env:=args++List.replicate (fn.ntmps - args.length) undef) jD.nil (fun j v u=>by
  grind) d
 have⟨a,h1,d⟩:=uh h1<|aL0 d;exact aNc (fun n a g k h m t r hE=>aTn m FQ r hE) (fun w n a g h m hF=>aGr m hF) 200 (k:=[.code [] c]) h1 FX ⟨by grind[Pm],trivial⟩ d;cases d;cases d
def wR0 (P:Program) (K:FuncId->FJ->IX) (T:FuncId->FT) (f:FuncId) (num m:Nat) (lv:FL) (vs:FJ) (l:Nat) (args:FJ) (Q:Value->AH->Prop) (h:AH):Prop:=fcL (qK num).reverse fun p=>(match Pm P f p with
 |(.rangeFunc _ o g d,_)=>fW P f fun n _=>(match Nat.beq n m with
  |true=>ye m lv vs [] fun a=>ye m o.toList args a fun a=>wT P K (fun j a k h=>(match j with
   |[]=>wE (T f) a k fun i vs=>R P K T f i l Q vs h
   |_=>hF)) (fun lv j _ h=>cy l Q lv j [] h) (T f) f m (some l) 200 [] a [.code (0::p) g,.beginRound,.code (1::p) d] h
  |false=>hF)
 |_=>hF)
theorem rW {f:FuncId} {T:FuncId->FT} {l:Nat} {args:FJ} {e:Nat->Value} {pd:Option Code} {h:AH} (r:h.get l=some (lp P f (qK num) m e d st pd)) (y:List.map e lv=vs)
  (g:wR0 P K T f num m lv vs l args Q h):F3 P K (.func (.yield l) #[] #[]) args h Q:=by
 have g:=Tv g
 split at g
 .rename_i t A o j k z;have⟨fn,_,_,_,hm,_,g⟩:=aTw g;split at g
  .rename_i u;have⟨a,h1,h2,_,g⟩:=a7 (env:=(List.range m).map e) jD.nil FW g;rw[Tm y] at h1 h2;have⟨a,h1,h2,hl,g⟩:=a7 h1 h2 g;have w:cd P f (qK num)= .rangeFunc t A o j:=by
    have:=ey (P:=P) (f:=f) (qK num).reverse;rw[z,DV] at this;exact this.symm
   simp[lp,w,rgF] at r
   refine aFw<|aKi r FR ?_
   exact aNc (aKu<|hm.trans<|ql u) (fun lv B a n h C hF=>by exact(Zt (env:=n) hF)) 200 (k:=[.code _ o,.beginRound,.code _ j]) h1 h2
    ⟨GV,GV,trivial⟩ g
  .cases g
 .cases g
end
end Go.Ab
variable {l:JF} {e:TypeId} {u:Value} {W c j:Nat} {A C:HP} {L L':IU} {a:FM} {cs z:FJ}
namespace Go.Ab
variable {K:FuncId->FJ->IX} {G:Bg} {h:AH} {M:IU}
variable {zs:FJ}
theorem Sx (O:m<=n) (J:0<n) (B:cs.length=m*W) (j:Hs G h (eC W e a c (n,cs++zs)::L)):Hs G h (eC W e a c (m,cs)::L):=by
 obtain⟨r,I,⟨C,N,D⟩,t,y,A,o⟩:=j.fst;rcases D with⟨E,_⟩|⟨E,_⟩|⟨w,b,g,d,ex,rfl,hle,u⟩;grind;grind;subst u;refine Y4 ⟨j.base,j.old,j.wf,j.fr,_,⟨_,I,rfl,t,y,rfl⟩,(eJ.jB y).2 ⟨A,o⟩⟩ ?_;have z:g++(cs++zs)++d=g++cs++(zs++d):=FW
 refine⟨B,FR,.inr<|.inr ⟨FR,b,g,_,ex,rfl,?_,by rw[z]⟩⟩;grind
theorem aI7 {o:Nat} {c:FJ} (r:Hs G h (aK b o c::L)) (g:0<c.length) (y:j+m<=c.length):eN h ⟨b,o+j,none⟩ m=some ((c.drop j).take m):=by
 obtain⟨w,t,u,z,n,hle,d⟩:=r.cells g;simp only[eN,ef,aO,dx,n];rw[aac];congr 1;refine ri fun k=>?_;grind
theorem qx {A B:FJ} (d:A.length=j) (g:B.length=z.length):eB (A++B) j z=A++z:=by
 grind[eB,List.take_left,List.drop_eq_nil_of_le,List.length_append]
variable {α:Type}
def R5 (l:List α) (i:Nat):l.take i++l.drop i=l:=z1 i l
theorem aRl {bytes:Nat} {k:Value->AH->Prop} (hW:0<W) (hz:z.length=W) (ν:z.all gU=true) (hi:i<n) (J:Hs G h L) [m:dZ (eC W e a c) L (n,cs) L']
  (hk:∀h',Hs G h' (eC W e a c (n - 1,cs.take (i*W)++cs.drop ((i+1)*W))::L')->k (.slice a (n - 1) c) h'):
  cC (Dv W h (.slice a n c) none (some<|I i) none) fun v3=>cC (Dv W h (.slice a n c) (some<|I<|(i:Int)+1) none none) fun v4=>
   cC (nJ W bytes e h v3 v4) fun g=>cC (rB g.1) fun X=>cC (Dv W g.2 g.1 (some X) (some<|I n) none) fun v9=>cC (mM z g.2 v9) fun d=>k g.1 d.2:=by
 have J:=m.of J
 have hl:=J.Ho
 have hc:=J.Gz
 simp only at hl hc
 have w:n<=c:=by
  obtain⟨r,r2,⟨_,_,hr⟩,_⟩:=J.fst;rcases hr with⟨hz,_⟩|⟨hz,_⟩|⟨w,_⟩;grind;grind;exact w
 obtain⟨b,o,rfl,H,t,close⟩:=J.vA FQ
 have ο:0<n*W:=Nat.mul_pos FQ hW
 have A:0<cs.length:=FQ
 have E:sM none c c=some c:=rfl
 have b2:sM (some<|I i) n c=some i:=GI
 have b3:sM none 0 i=some 0:=rfl
 have Y:sM none n c=some n:=rfl
 have Z:sM (some<|I<|(i:Int)+1) 0 n=some (i+1):=by simp only[sM];rw[aac];congr 1
 have b6:sM (some<|I ((n - 1:Nat):Int)) 0 n=some (n - 1):=by simp only[sM];grind
 have b7:sM (some<|I n) n c=some n:=by simp only[sM];grind
 have S:¬c=0:=FQ
 refine⟨.slice (some ⟨b,o,none⟩) i c,?_,?_⟩
 .simp only[Dv,E,b2,b3,BL,y0,ef,aO,dx,S,fD];grind
 have π:(i+1)*W=i*W+W:=by rw[CK,Nat.one_mul]
 have ρ:(i+1)*W<=n*W:=o0 W hi
 have ι:(n - (i+1))*W=n*W - (i+1)*W:=FR
 have σ:(n - 1)*W=n*W - W:=by rw[Nat.sub_mul,Nat.one_mul]
 have sL:∀u,Hs G u (aK b o (cs.take (i*W)++cs.drop ((i+1)*W)++cs.drop ((n - 1)*W))::H::L')->
   cC (rB<|.slice (some ⟨b,o,none⟩) (n - 1) c) fun X=>cC (Dv W u (.slice (some ⟨b,o,none⟩) (n - 1) c) (some X) (some<|I n) none) fun v9=>cC (mM z u v9) fun d=>k (.slice (some ⟨b,o,none⟩) (n - 1) c) d.2:=by
  intro u T
  refine dB ?_
  have B:¬c=n - 1:=FQ
  refine⟨.slice (some ⟨b,o+(n - 1)*W,none⟩) (n - (n - 1))<|c - (n - 1),?_,?_⟩
  .have β:sM (some<|I n) (n - 1) c=some n:=b7;simp only[Dv,E,β,b6,BL,y0,ef,aO,dx,B,fD];grind
  have γ:n - (n - 1)=1:=FQ
  rw[γ]
  have y:(cs.take (i*W)++cs.drop ((i+1)*W)).length=(n - 1)*W:=by
   grind
  have μ:iP z 1=z:=by simp[iP]
  have O:(cs.take (i*W)++cs.drop ((i+1)*W)).all gU=true:=by
   grind
  obtain⟨N,C,U⟩:=T.iV (j:=(n - 1)*W) FR ν FR
  refine⟨(.tuple #[],N),?_,?_⟩
  .simp only[mM,Nat.one_ne_zero,dx,μ,C,xa]
  refine hk N ?_
  have κ:eB (cs.take _++cs.drop _++cs.drop ((n - 1)*W)) _ z=cs.take _++cs.drop _++z:=qx y FR
  rw[κ] at U
  refine Sx FQ FQ y<|close N _ _ ?_ ?_ U
  .grind
  .grind
 by_cases ξ:i+1=n
 .have D:∀v4:Value,J8 v4=some 0->oB h W 0 v4=some []->cC (nJ W bytes e h (.slice (some ⟨b,o,none⟩) i c) v4) fun g=>cC (rB g.1) fun X=>cC (Dv W g.2 g.1 (some X) (some<|I n) none) fun v9=>cC (mM z g.2 v9) fun d=>k g.1 d.2:=by
   intro v4 u N;refine⟨(.slice (some ⟨b,o,none⟩) i c,h),?_,?_⟩;simp only[nJ,u,N,List.all_nil,BQ,AY,EV,bne_self_eq_false,Bool.or_self,aO,dx,BY];grind;have ζ:i=n - 1:=FQ
   have:=sL h (by
    rw[BD FR,kx,ζ,R5];exact t)
   grind
  by_cases δ:c=i+1
  .obtain⟨hb,c',e',x',hg,hle,O⟩:=t.cells A;have hex:xK h b=some x':=by simp only[xK,hg]
   cases x' with
   |true=>
    refine⟨zY,?_,D _ rfl rfl⟩
    simp only[Dv,E,Y,Z,AJ,ef,r5,aO,dx,fD,hex]
    grind
   |false=>
    refine⟨Hz ⟨b,o+(i+1)*W,none⟩,?_,D _ rfl rfl⟩
    simp only[Dv,E,Y,Z,AJ,ef,r5,aO,dx,fD,hex]
    grind
  .refine⟨.slice (some ⟨b,o+(i+1)*W,none⟩) (n - (i+1))<|c - (i+1),?_,?_⟩
   .simp only[Dv,E,Y,Z,AJ,ef,r5,aO,dx,fD,δ];grind
   .have:n - (i+1)=0:=FQ
    rw[this]
    exact D _ rfl (by simp[oB])
 .refine⟨.slice (some ⟨b,o+(i+1)*W,none⟩) (n - (i+1))<|c - (i+1),?_,?_⟩
  .simp only[Dv,E,Y,Z,AJ,ef,r5,aO,dx,fD,FQ];grind
  have θ:¬n - (i+1)=0:=FQ
  have η:eN h ⟨b,o+(i+1)*W,none⟩ ((n - (i+1))*W)=some (cs.drop<|(i+1)*W):=by
   rw[aI7 t A FQ,fm FR]
  have ε:(cs.drop<|(i+1)*W).length=(n - (i+1))*W:=FR
  have Q:(cs.drop<|(i+1)*W).all gU=true:=FR
  obtain⟨u,C,T⟩:=t.iV (j:=i*W) FQ Q A
  have V:i+(n - (i+1))=n - 1:=FQ
  refine⟨(.slice (some ⟨b,o,none⟩) (n - 1) c,u),?_,?_⟩
  .simp only[nJ,J8,oB,bD1 θ,bb,eD,η,Q,ε,BQ,bne_self_eq_false,Bool.or_self,aO,dx,fD,C,xa,ef,V];grind
  grind[eB]
def Ge (G:Bg) (W:Nat) (e:TypeId) (v:Value) (l:JF):HP:=fun r=>
 (∀x∈l,x.length=W)/\((zE G W v l.length (fun i=>l.getD i [])/\r=eJ.R4)\/∃a c,v= .slice a l.length c/\eC W e a c (l.length,l.flatten) r)
def Hs.aA6 {p:Prop} (g:Hs G h (A::L)) (k:∀r,A r->p):p:=by
 obtain⟨r,j,d,_⟩:=g.fst;exact k r d
theorem Dt (j:Hs G h (Ge G W e v l::L)):∃a c,v= .slice a l.length c:=j.aA6 fun r g=>by
 obtain⟨_,⟨⟨a,c,d,_⟩,_⟩|⟨a,c,d,_⟩⟩:=g;grind;grind
def yz (g:Hs G h (Ge G W e v l::L)):∀x∈l,x.length=W:=g.aA6 fun _ d=>d.1
def E6 (d:∀x∈l,x.length=W) (g:zE G W v l.length fun i=>l.getD i []) (m:Hs G h L):Hs G h (Ge G W e v l::L):=
 Hs.join (A:=[]) m fun r j=>⟨d,.inl ⟨g,j⟩⟩
def aLe (d:∀x∈l,x.length=W) (g:n=l.length) (hc:cs=l.flatten) (m:Hs G h (eC W e a c (n,cs)::L)):Hs G h (Ge G W e (.slice a n c) l::L):=by
 subst g;subst hc;exact Hs.join m fun r j=>⟨d,.inr ⟨a,c,rfl,jd.1 j⟩⟩
theorem E9 {W:Nat}:∀{l:JF} {i:Nat} {x:FJ},(∀x∈l,x.length=W)->l[i]?=some x->(l.flatten.drop<|i*W).take W=x/\i*W+W<=l.flatten.length
 |[],i,x,_,h=>by simp at h
 |y::l,0,x,d,h=>by
  grind
 |y::l,i+1,x,d,h=>by
  obtain⟨j,m⟩:=E9 (fun z g=>d z<|aW _ g) IF;rw[DE,show(i+1)*W=y.length+i*W by grind,DM,eo FQ,Nat.add_sub_cancel_left,hT,dd];grind
theorem aOc {x:FJ} (g:Hs G h (Ge G W e v l::L)) (z:0<W) (w:l[i]?=some x) (C:k (.agg ⟨x⟩)):cC (qN W v<|I i) fun p=>cC (yU h W p) k:=by
 obtain⟨B,J⟩:=ew.1 w;have t:=yz g x FR;obtain⟨r,n,m⟩:=g.Wp;obtain⟨N,O,j,y,A,rfl⟩:=n;obtain⟨D,j⟩:=j;rcases j with⟨E,rfl⟩|⟨a,c,rfl,j⟩;obtain⟨a,c,rfl,u⟩:=E;grind[fK,pt,tj];have d:Hs G h (eC W e a c (l.length,l.flatten)::L):=⟨g.base,g.old,g.wf,g.fr,⟨_,⟨N,O,j,y,A,rfl⟩,m⟩⟩;obtain⟨b,o,rfl,d⟩:=d.jW FQ;refine fK B ?_;rw[show pt b _ 0=pt b o (i*W) by simp[pt]];exact bC d z (E9 D w).1 t C
def sy (d:Hs G h L) [m:dZ (eC 1 e a c) L (n,cs) L'] (j:cs[i]?=some u) (r:k u):cC (qN 1 (.slice a n c)<|I i) fun p=>cC (vZ h p) k:=by
 have d:=m.of d;have t:=d.Ho;simp only[FB] at t;have w:=(ew.1 j).1;obtain⟨b,o,rfl,g⟩:=d.jW FQ;refine fK FQ ?_;rw[show pt b _ 0=pt b o i by simp[pt]];exact aE g j r
theorem aL3 {k:AH->Prop} (d:Hs G h L) [m:dZ (eC 1 e a c) L (n,cs) L'] [D:Cv v [v]] (hc:gU v=true) (w:i<n) (C:∀g,Hs G g (eC 1 e a c (n,cs.set i v)::L')->k g):cC (qN 1 (.slice a n c)<|I i) fun p=>cC (Ar h 1 p v) k:=by
 have d:=m.of d;have y:=d.Ho;have u:=d.Gz;simp only[FB] at y;obtain⟨b,o,rfl,r⟩:=d.jW FQ;refine fK w ?_;rw[show pt b _ 0=pt b o i by simp[pt]];refine cG r rfl FX (by simp[hc]) FX fun g t=>?_;have A:bM cs i [v]=cs.set i v:=by
  rw[<-tP cs i [v] FX];apply ri;intro j;unfold eB;rw[CJ];simp only[AA];by_cases B:i=j;grind;by_cases z:j<i;grind;grind
 grind[Hs.oG]
def Hs.A7 {B:HP} (d:Hs G h (sp [A,B]::L)):Hs G h (A::B::L):=Hs.fL d
def Hs.F6 {B:HP} (d:Hs G h (A::B::L)):Hs G h (sp [A,B]::L):=Hs.nS (A:=[A,B]) d
def Hs.Fc {B:HP} (d:Hs G h (sp [A,B,C]::L)):Hs G h (A::B::C::L):=Hs.fL d
def Hs.Vy {B:HP} (d:Hs G h (A::B::C::L)):Hs G h (sp [A,B,C]::L):=Hs.nS (A:=[A,B,C]) d
def Hs.un4 {B D:HP} (d:Hs G h (sp [A,B,C,D]::L)):Hs G h (A::B::C::D::L):=Hs.fL d
def Hs.Rx {B D:HP} (d:Hs G h (A::B::C::D::L)):Hs G h (sp [A,B,C,D]::L):=Hs.nS (A:=[A,B,C,D]) d
def K4 {f:FuncId} {e:Nat->Value} {l:Nat} {pd:Option Code} {k:Option Code×AH->Prop} (o:Hs G h L) [m:tL l L ⟨P,f,p,n,e,d,.done,pd⟩ L'] (j:∀g,Hs G g L'->k (pd,g)):cC (yL h l) k:=
 aJ9 (P:=P) (f:=f) (p:=p) (n:=n) (e:=e) (d:=d) (st:= .done) (pd:=pd) (k:=fun a b=>k (a,b)) (show Hs G h (pD P f p n e d l (.done,pd)::L') from m.of o) FV j
theorem Yds.No {xs:List α} {f:α->FJ} {g:FuncId} {first captured:FJ} (D:Yds P K G g first captured A (xs.map f)) {X:List α->HP} {Z:List α->α->HP} {y:Value}
  (d:Hs G h (A::X []::L))
  (step:∀done x h M,done++[x]<+:xs->Hs G h (X done::M)->F3 P K y (f x) h fun v j=>(v= .bool true/\Hs G j (X (done++[x])::M))\/(v= .bool false/\Hs G j (Z done x::M)))
  (sL:∀v j,Hs G j (A::X xs::L)->Q v j) (brk:∀done x v j,done++[x]<+:xs->Hs G j (A::Z done x::L)->Q v j):Cl P K g (first++[y]++captured) h Q:=by
 refine D (fun rest=>Cr fun done:List α=>sp [Dw (∃m,xs=done++m/\rest=m.map f),X done]) (Cr fun o:List α×α=>sp [Dw (o.1++[o.2]<+:xs),Z o.1 o.2]) y L h Q ?_ ?_ ?_ ?_
 .exact Hs.qS (Hs.Cq ([]:List α)<|Fy FR<|Hs.nS d.qS)
 .intro x rest h M d;obtain⟨done,u⟩:=d.Cc;obtain⟨⟨m,t,n⟩,w⟩:=kK u;cases m with
  |nil=>cases n
  |cons z m=>
   simp only[k7,List.cons.injEq] at n
   obtain⟨B,e2⟩:=n
   subst B;subst e2
   have r:done++[z]<+:xs:=⟨m,FR⟩
   refine(step done z h M r w.fL).mono fun v j C=>C.imp (fun e=>⟨e.1,?_⟩) fun e=>⟨e.1,?_⟩
   .exact Hs.Cq (done++[z]) (Fy ⟨m,FR,rfl⟩<|Hs.nS (A:=[_]) e.2)
   .exact Hs.Cq (done,z) (Fy r<|Hs.nS (A:=[_]) e.2)
 .intro v j d;obtain⟨done,d⟩:=d.qS.Cc;obtain⟨⟨m,t,n⟩,d⟩:=kK d;cases m with
  |cons z m=>cases n
  |nil=>
   rw[kx] at t
   subst t
   exact sL v j<|Hs.qS d.fL
 .intro v j d;obtain⟨⟨done,x⟩,d⟩:=d.qS.Cc;obtain⟨r,d⟩:=kK d;exact brk done x v j r<|Hs.qS d.fL
end Go.Ab
variable {cap:Nat}
namespace Go.Ab
variable {K:FuncId->FJ->IX} {G:Bg} {h:AH} {M:IU}
theorem aJs (t:Hs G h L) [m:dZ (eC W e a c) L (n,cs) L'] (g:i<n) (w:cs[i*W+j]?=some u) (r:k u):cC (qN W (.slice a n c)<|I i) fun p=>cC (lQ j p) fun q=>cC (vZ h q) k:=by
 obtain⟨b,o,rfl,d⟩:=(m.of t).jW FQ;refine fK g<|aA ?_;rw[show pt b _ _=pt b o (i*W+j) by grind[pt]];exact aE d w r
def aHj {x:FJ} (u:Hs G h L) [m:dZ (eC W e a c) L (n,cs) L'] (g:0<W) (j:i<n) (w:(cs.drop<|i*W).take W=x) (t:x.length=W) (r:k (.agg ⟨x⟩)):cC (qN W (.slice a n c)<|I i) fun p=>cC (yU h W p) k:=by
 obtain⟨b,o,rfl,d⟩:=(m.of u).jW FQ;refine fK j ?_;rw[show pt b _ 0=pt b o (i*W) by simp[pt]];exact bC d g w t r
theorem C1 {x:FJ} (j:Hs G h (Ge G 1 e v l::L)) (w:l[i]?=some x) (Q:x[0]?=some u) (B:k u):cC (qN 1 v<|I i) fun p=>cC (vZ h p) k:=by
 obtain⟨A,E⟩:=ew.1 w;obtain⟨r,n,m⟩:=j.Wp;obtain⟨J,N,g,y,z,rfl⟩:=n;obtain⟨C,g⟩:=g;rcases g with⟨D,rfl⟩|⟨a,c,rfl,g⟩;obtain⟨a,c,rfl,t⟩:=D;grind[fK,Gt];have d:Hs G h (eC 1 e a c (l.length,l.flatten)::L):=⟨j.base,j.old,j.wf,j.fr,⟨_,⟨J,N,g,y,z,rfl⟩,m⟩⟩;obtain⟨b,o,rfl,d⟩:=d.jW FQ;refine fK A ?_;rw[show pt b _ 0=pt b o i by simp[pt]];refine aE d ?_ B;have O:=(E9 C w).1;grind
theorem aU7 (j:Hs G h (Ge G W e v l::L)) (hW:0<W):oB h W l.length v=some l.flatten:=by
 obtain⟨r,B,A⟩:=j.Wp;obtain⟨r1,r2,t,N,Q,rfl⟩:=B;obtain⟨hl,t⟩:=t;rcases t with⟨E,rfl⟩|⟨a,c,rfl,t⟩;obtain⟨a,c,rfl,g⟩:=E;cases l with
 |nil=>cases a<;>simp[oB]
 |cons x l=>
  obtain⟨b,o,cells,rfl,d,O,D⟩:=g 0 FW;obtain⟨I,J,x',d.get⟩:=d.get;have U:h.get b=some (.cells cells I J x'):=by rw[j.cv d.lt];exact d.get
  have w:∀i,i<(x::l).length->(cells.drop<|o+i*W).take W=(x::l).getD i []/\o+i*W<=cells.length:=by
   intro i z;obtain⟨b',o',u,S,n,hc,hle⟩:=g i z;cases S;obtain⟨_,_,_,T⟩:=n.get;grind
  have Z:∀(l:List _) (o:Nat),(∀x∈l,x.length=W)->(∀i,i<l.length->(cells.drop<|o+i*W).take W=l.getD i []/\o+i*W<=cells.length)->o<=cells.length->o+l.length*W<=cells.length/\(cells.drop o).take (l.length*W)=l.flatten:=by
   intro l;induction l with
   |nil=>simp_all
   |cons y l Y=>
    intro o X z E;have C:=z 0 FW;simp only[EV,BY,List.getD_cons_zero] at C;have m:o+W<=cells.length:=by
     have:=eV List.length C.1;rw[oH,q6,X y eg] at this;omega
    obtain⟨g1,g2⟩:=Y _ FR (fun i V=>by
     have:=z (i+1) FX;grind) m
    grind[List.length_cons,Nat.succ_mul,Nat.add_comm,List.drop_drop,List.flatten_cons]
  simp only[oB,js,Nat.add_eq_zero_iff,Nat.succ_ne_zero,and_false,dx,bb,eD];grind[eN]
 exact aAe<|⟨j.base,j.old,j.wf,j.fr,⟨_,⟨r1,r2,t,N,Q,rfl⟩,A⟩⟩
theorem aCf (d:∀x∈l,x.length=W):l.flatten.length=l.length*W:=by
 induction l with
 |nil=>simp
 |cons x l g=>grind
def aSz {bytes:Nat} {e2:TypeId} {k:Value×AH->Prop} (t:Hs G h L) [A:dZ (eC W e a c) L (n,cs) L'] [C:fZ (Ge G W e2 v l) L' M] (u:0<W) (z:l.length=m) (hc:l.flatten.all gU=true) (g:(n+m)*(bytes+1)<=2^46)
  (w:∀j o r,Hs G r (eC W e j o (n+m,cs++l.flatten)::L')->k (.slice j (n+m) o,r)):cC (nJ W bytes e h (.slice a n c) v) k:=by
 have d:=(A.of t).tail.bE<|Ge G W e2 v l
 subst z
 refine aRt (k:=fun x y=>k (x,y)) t ?_ (aU7 d u) hc (aCf<|yz d) g w
 obtain⟨B,c2,rfl⟩:=Dt d
 rfl
def Hs.rL {d L2 g j:IU} (A B C D:HP) (m:Hs G h L) [k:fZ A L d] [o:fZ B d L2] [r:fZ C L2 g] [n:fZ D g j]:Hs G h (A::B::C::D::j):=
 (m.dV A B C).cI (((n.cI.cons C).cons B).cons A)
def Hs.aTg {d:IU} {B D:HP} (E:HP) (g:Hs G h (A::B::C::D::L)) [k:fZ E L d]:Hs G h (A::B::C::D::E::d):=g.cI<|(((k.cI.cons D).cons C).cons B).cons A
def aAo (d:a=none->k (.bool true)) (g:a≠none->k (.bool false)):cC (Wh .eql (.slice a n c)<|.slice none 0 0) k:=by
 cases a with
 |none=>exact⟨_,rfl,d rfl⟩
 |some a=>exact⟨_,rfl,g FW⟩
theorem H3 {bytes:Nat} (d:Hs G h L) [m:dZ (eC W e a c) L (n,cs) L'] (A:n*(bytes+1)<=2^46)
  (C:∀r t u,Hs G u (eC W e r t (n,cs)::eC W e a c (n,cs)::L')->Q (.slice r n t) u):
  cC (Wh .eql (.slice a n c)<|.slice none 0 0) fun v0=>Br v0 (Q (.slice none 0 0) h) (cC (tM [] []) fun B=>Ce h W e B 0 0 fun s3 y=>cC (nJ W bytes e y s3<|.slice a n c) fun w=>(fun v5 z=>Q v5 z) w.1 w.2):=by
 have d:=m.of d
 refine aAo (fun j=>gA ?_) fun _=>cY<|aZ rfl ?_
 .subst j;have E:n=0:=by
   rcases BK n with g|g;exact g;obtain⟨b,o,j,_⟩:=d.vA g;cases j
  have D:=d.Ho
  simp_all[hY,none,lF]
 grind[eA,yR]
theorem Sy {bytes:Nat} {e2:TypeId} (g:Hs G h (Ge G W e2 v l::L)) (I:0<W) (B:l.length=n) (hc:l.flatten.all gU=true) (N:n*(bytes+1)<=2^46)
  (U:∀y m z,Hs G z (eC W e y m (n,l.flatten)::Ge G W e2 v l::L)->Q (.slice y n m) z):
  cC (Wh .eql v<|.slice none 0 0) fun v0=>Br v0 (Q (.slice none 0 0) h) (cC (tM [] []) fun w=>Ce h W e w 0 0 fun s3 d=>cC (nJ W bytes e d s3 v) fun j=>(fun v5 t=>Q v5 t) j.1 j.2):=by
 obtain⟨a,c,C⟩:=Dt g
 have O:a=none->l=[]:=by
  intro o;subst o;refine g.aA6 fun r u=>?_;obtain⟨J,⟨⟨a,m,d,A⟩,_⟩|⟨a,m,d,u⟩⟩:=u;grind[Nat.eq_zero_or_pos];rw[C] at d;cases d;rcases BK l.length with E|E;grind;obtain⟨_,_,⟨d,_⟩|⟨d,_⟩|⟨_,b,S,D,ex,o,_⟩⟩:=u;grind;grind;cases o
 have go:cC (tM [] []) fun w=>Ce h W e w 0 0 fun s3 d=>cC (nJ W bytes e d s3 v) fun j=>(fun v5 t=>Q v5 t) j.1 j.2:=by
  refine aZ rfl<|eA g FW rfl rfl ?_;intro T h g;refine aSz (e2:=e2) g I B hc FR ?_;grind
 subst C
 refine aAo (fun o=>gA ?_) fun _=>cY go
 subst B
 simp_all[none,lF]
variable {α:Type}
theorem Hs.aYm {A:Nat->α->HP} (d:α):∀(n:Nat) (L:IU),Hs G h (fH n (fun i=>Cr<|A i)::L)->∃f:Nat->α,Hs G h (fH n (fun i=>A i<|f i)::L):=by
 intro n;induction n with
 |zero=>intro L g;exact⟨fun _=>d,g⟩
 |succ n m=>
  intro L g;have g:Hs G h (fH n (fun i=>Cr<|A i)::Cr (A n)::L):=by
   have j:=g.fL;rw[ep,l4,eh] at j;exact Hs.nS j
  obtain⟨f,g⟩:=m _ g;obtain⟨x,g⟩:=g.qS.Cc;refine⟨fun i=>if i=n then x else f i,(Hs.jh ?_)⟩;have e:(List.range n).map (fun i=>A i<|if i=n then x else f i)=(List.range n).map fun i=>A i (f i):=v7 FR;grind[fH]
def Hs.aXs {f g:Nat->HP}:∀(n:Nat) (L:IU),Hs G h (fH n (fun i=>sp [f i,g i])::L)->Hs G h (fH n f::fH n g::L):=by
 intro n;induction n with
 |zero=>intro L d;exact Hs.kh (Hs.kh d.tail)
 |succ n m=>
  intro L d;have d:Hs G h (fH n (fun i=>sp [f i,g i])::sp [f n,g n]::L):=by
   have j:=d.fL;rw[ep,l4,eh] at j;exact Hs.nS j
  have d:=m _ d;have d:=(d.bE<|sp [f n,g n]).A7;exact(Hs.jh<|(Hs.jh<|d.cI<|(List.Perm.swap _ _ _).cons _).dC (g n)<|fH n g).qS
theorem Hs.aB6 {o:Nat} {c:Nat->α->FJ} {d:Nat->α->HP} (r:α) (t:∀i x,(c i x).length=W) (hc:∀i x,(c i x).all gU=true) (m:0<W) (j:0<n)
  (g:Hs G h (fH n (fun i=>Cr fun x=>sp [aK b (o+i*W)<|c i x,d i x])::gQ G W e (some ⟨b,o,none⟩) cap n b o::L)):
  ∃f:Nat->α,Hs G h (eC W e (some ⟨b,o,none⟩) cap (n,(List.range n).flatMap fun i=>c i<|f i)::fH n (fun i=>d i<|f i)::L):=by
 obtain⟨f,g⟩:=Hs.aYm r n _ g
 refine⟨f,?_⟩
 exact Hs.oG ((aQg FR m n _ j<|Hs.aXs n _ g).dV (aK b o<|(List.range n).flatMap fun i=>c i<|f i) (gQ G W e (some ⟨b,o,none⟩) cap n b o)<|fH n fun i=>d i<|f i) (xS FR n) FR
def Hs.tk {c:Nat->FJ} (m:∀i,(c i).length=W) (g:0<n) (d:Hs G h (eC W e a cap (n,(List.range n).flatMap c)::L)):
  ∃b o,a=some ⟨b,o,none⟩/\Hs G h (fH n (fun i=>aK b (o+i*W)<|c i)::gQ G W e a cap n b o::L):=by
 obtain⟨b,o,j,d⟩:=d.jW g
 exact⟨b,o,j,zu m n _ d⟩
theorem Hs.aKp {o:Nat} {c:Nat->α->FJ} {d:Nat->α->HP} (f:Nat->α) (t:∀i x,(c i x).length=W) (j:0<n)
  (g:Hs G h (eC W e (some ⟨b,o,none⟩) cap (n,(List.range n).flatMap fun i=>c i<|f i)::fH n (fun i=>d i<|f i)::L)):
  Hs G h (fH n (fun i=>Cr fun x=>sp [aK b (o+i*W)<|c i x,d i x])::gQ G W e (some ⟨b,o,none⟩) cap n b o::L):=by
 obtain⟨r,u,m,g⟩:=Hs.tk FR j g
 cases m
 have g:=g.dC (fH n fun i=>aK b (o+i*W)<|c i<|f i)<|fH n fun i=>d i<|f i
 exact Hs.aTk (fun i h L g=>Hs.Cq (f i)<|Hs.nS g) n _ g
end Go.Ab
variable {f:Nat->FN} {cl:Nat}
namespace Go.Ab
variable {K:FuncId->FJ->IX} {G:Bg} {h:AH} {M:IU}
abbrev ME:=Nat×Value×Nat
abbrev JE:=List ME
def Ax (es:JE):List (Value×Value×Nat):=es.map fun x=>(I x.1,x.2.1,x.2.2)
def fy (n:Int):JE->Nat->Option (Nat×Value)
 |[],_=>none
 |x::d,i=>if n=(x.1:Int) then some (i,x.2.1) else fy n d (i+1)
theorem I4 (n:Int):∀(es:JE) (i:Nat),Dm .i64 n (Ax es) i=some (fy n es i)
 |[],i=>rfl
 |x::es,i=>by
  show(if IntKind.i64=IntKind.i64 then(if n=(x.1:Int) then some _ else Dm .i64 n (Ax es) _) else none)=_;rw[bD2 rfl,I4 n es _];by_cases e:n=(x.1:Int);simp_all[bD2,fy];simp_all[bD1,fy]
structure MOk (es:JE) (clock:Nat):Prop where
 nd:(es.map (·.1)).Nodup
 st:∀x∈es,x.2.2<clock
 sd:(es.map (·.2.2)).Nodup
 kb:∀x∈es,x.1<16
def qT (es:JE) (k:Nat):FN:=(fy k es 0).map (·.2)
theorem au {n:Int}:∀{es:JE} {i j:Nat} {v:Value},fy n es i=some (j,v)->i<=j/\∃x,es[j - i]?=some x/\(x.1:Int)=n/\x.2.1=v
 |[],i,j,v,h=>FZ
 |x::es,i,j,v,h=>by
  unfold fy at h;split at h;grind;obtain⟨d,y,g,m,o⟩:=au h;grind
def Wv {n:Int}:∀{es:JE} {i:Nat},(fy n es<|i+1).map (·.2)=(fy n es i).map (·.2)
 |[],_=>rfl
 |x::es,i=>by
  unfold fy;split;rfl;exact Wv
theorem tD {x:ME} {es:JE} {k:Nat}:qT (x::es) k=if k=x.1 then some x.2.1 else qT es k:=by
 unfold qT;rw[fy];by_cases e:k=x.1;grind;rw[aaa,bD1 e];exact Wv
theorem aCu {x:ME} {es:JE} {k:Nat}:qT (es++[x]) k=(qT es k).or (if k=x.1 then some x.2.1 else none):=by
 induction es with
 |nil=>grind[tD,qT,fy]
 |cons y es d=>grind[tD]
theorem Fb {es:JE} {k:Nat}:qT es k=none↔k∉es.map (·.1):=by
 induction es with
 |nil=>simp[qT,fy]
 |cons y es d=>grind[tD]
theorem aE6 {es:JE} {x:ME} {k:Nat} (d:es[i]?=some x) (g:(es.map (·.1)).Nodup):qT (es.modify i fun e=>(x.1,v,e.2.2)) k=if k=x.1 then some v else qT es k:=by
 induction es generalizing i with
 |nil=>simp at d
 |cons y es j=>
  cases i with
  |zero=>
   grind[List.getElem?_cons_zero,Option.some.injEq,List.modify_zero_cons,tD]
  |succ i=>
   grind[List.getElem?_cons_succ,List.mem_of_getElem?,List.modify_succ_cons,tD]
theorem aCj {es:JE} {x:ME} {k:Nat} (d:es[i]?=some x) (g:(es.map (·.1)).Nodup):qT (es.eraseIdx i) k=if k=x.1 then none else qT es k:=by
 induction es generalizing i with
 |nil=>simp at d
 |cons y es j=>
  cases i with
  |zero=>
   grind[List.getElem?_cons_zero,Option.some.injEq,List.eraseIdx_cons_zero,tD,Fb]
  |succ i=>
   grind[List.getElem?_cons_succ,List.mem_of_getElem?,tD]
def T7 {α:Type} (f:Nat->α) (i:Nat) (v:α):Nat->α:=fun j=>if j=i then v else f j
def qX (b:Nat) (f:Nat->FN):HP:=Cr fun x:JE×Nat=>sp [Dw (MOk x.1 x.2/\∀k,qT x.1 k=f k),ot b<|.map (Ax x.1) x.2]
def Hr (g:Hs G h (qX b f::L)):∃d cl,(MOk d cl/\∀k,qT d k=f k)/\Hs G h (ot b (.map (Ax d) cl)::L):=by
 obtain⟨⟨d,cl⟩,g⟩:=g.Cc;obtain⟨j,g⟩:=(Hs.fL g).z7;exact⟨d,cl,j,g⟩
def zU {es:JE} (d:MOk es cl) (g:∀k,qT es k=f k) (j:Hs G h (ot b (.map (Ax es) cl)::L)):Hs G h (qX b f::L):=
 Hs.Cq (A:=fun x:JE×Nat=>sp [Dw (MOk x.1 x.2/\∀k,qT x.1 k=f k),ot b<|.map (Ax x.1) x.2]) (es,cl) (Hs.nS (A:=[_,_])<|Hs.dm ⟨d,g⟩ j)
def aHq {k:Nat->AH->Prop} (j:Hs G h L) (g:∀p d,Hs G d (qX p (fun _=>none)::L)->k p d):Jj h (.map [] 0) k:=
 g _ _ (zU (es:=[]) (cl:=0) ⟨FW,FW,FW,FW⟩ (fun _=>rfl)<|j.aTe rfl)
def Us {o:qU} (d:S1 o=true) (g:Hs G h (ot b o::L)):h.get b=some o/\h.base<=b:=⟨(Hs.G9 (o':=o) d g).1,(Hs.G9 (o':=o) d g).2.1⟩
theorem bAr {z:Value} {n:Int} {ok:Bool} (g:Hs G h L) [m:dZ (qX b) L f L']
  (j:k (match(if 0<=n then f n.toNat else none) with
   |some v=>if ok then .tuple ⟨[v,.bool true]⟩ else v
   |none=>if ok then .tuple ⟨[z,.bool false]⟩ else z)):cC (lkV z h (lC b) (I n) ok) k:=by
 obtain⟨d,cl,⟨r,t⟩,g⟩:=Hr<|m.of g
 have o:xm h (lC b)=some (Ax d):=by unfold xm lC;simp only[(Us rfl g).1]
 have e:(fy n d 0).map (·.2)=if 0<=n then f n.toNat else none:=by
  split;grind[qT];cases hx:fy n d 0 with
  |none=>rfl
  |some p=>
   obtain⟨_,x,_,u,_⟩:=au hx;omega
 rw[<-e] at j
 unfold lkV
 rw[o]
 simp only[I4]
 cases hx:fy n d 0 with
 |none=>simp_all
 |some p=>simp_all
theorem aUn {es:JE} {x:ME} (d:es[i]?=some x):(es.modify i fun e=>(x.1,v,e.2.2)).map (·.1)=es.map (·.1)/\(es.modify i fun e=>(x.1,v,e.2.2)).map (·.2.2)=es.map (·.2.2):=by
 induction es generalizing i with
 |nil=>simp at d
 |cons y es g=>
  grind
theorem aGa {es:JE} {x:ME} (d:es[i]?=some x):(Ax es).modify i (fun e=>(I x.1,v,e.2.2))=Ax (es.modify i fun e=>(x.1,v,e.2.2)):=by
 unfold Ax;induction es generalizing i with
 |nil=>simp at d
 |cons y es g=>
  grind
def mq:∀{es:JE} {i:Nat},(Ax es).eraseIdx i=Ax (es.eraseIdx i)
 |[],_=>rfl
 |x::es,0=>rfl
 |x::es,i+1=>by
  show(_::(Ax es).eraseIdx i)=(_::Ax _);rw[mq]
theorem Z1 {k:AH->Prop} (r:Hs G h L) [m:dZ (qX b) L f L'] (U:i<16) (D:∀B,Hs G B (qX b (T7 f i<|some v)::L')->k B):cC (Ym h (lC b) (I i) v) k:=by
 obtain⟨o,cl,⟨g,O⟩,r⟩:=Hr<|m.of r;obtain⟨J,T⟩:=Us rfl r;unfold Ym lC;simp only[J,bD1<|show ¬b<h.base by omega];unfold aP4;simp only[I4];cases d:fy _ o 0 with
 |none=>
  have V:qT o i=none:=by unfold qT;rw[d];rfl
  refine⟨_,rfl,D _ ?_⟩;have e:Ax o++[(Value.int .i64 (i:Int),v,cl)]=Ax (o++[(i,v,cl)]):=by unfold Ax;grind
  rw[e];refine zU ⟨?_,?_,?_,?_⟩ ?_ (Hs.G9 rfl r).2.2;rw[l4,EL];refine⟨g.nd,FW,?_⟩;grind[Fb];intro x d;rcases cg.1 d with d|d;have:=g.st x d;omega;grind;rw[l4,EL];refine⟨g.sd,FW,?_⟩;intro a E c C e;have C:c=cl:=by simpa using C
  obtain⟨x,d,rfl⟩:=gk.1 E;have:=g.st x d;omega;intro x d;rcases cg.1 d with d|d;exact g.kb x d;grind;intro j;rw[aCu];unfold T7;grind
 |some p=>
  obtain⟨_,x,u,Q,S⟩:=au d;rw[Nat.sub_zero] at u;have t:x.1=i:=FQ
  refine⟨_,rfl,D _ ?_⟩;have:=aGa (v:=v) u;rw[t] at this;rw[this];obtain⟨n1,A⟩:=aUn (v:=v) u;rw[t] at n1 A;refine zU ⟨by rw[n1];exact g.nd,?_,by rw[A];exact g.sd,?_⟩ ?_ (Hs.G9 rfl r).2.2;intro y N;have:y.2.2∈(o.modify p.1 fun e=>(i,v,e.2.2)).map (·.2.2):=FR;rw[A] at this;obtain⟨z,w,n⟩:=gk.1 this;rw[<-n];exact g.st z w;intro y N;have:y.1∈(o.modify p.1 fun e=>(i,v,e.2.2)).map (·.1):=FR;rw[n1] at this;obtain⟨z,w,n⟩:=gk.1 this;rw[<-n];exact g.kb z w;intro j;have:=aE6 (v:=v) (k:=j) u g.nd;grind[T7]
theorem aTm {k:AH->Prop} (n:Hs G h L) [m:dZ (qX b) L f L'] (z:∀u,Hs G u (qX b (T7 f i none)::L')->k u):cC (X3 h (lC b)<|I i) k:=by
 obtain⟨o,cl,⟨g,A⟩,n⟩:=Hr<|m.of n;obtain⟨B,E⟩:=Us rfl n;unfold X3 lC;simp only[B,bD1<|show ¬b<h.base by omega,I4];cases hx:fy _ o 0 with
 |none=>
  have J:qT o i=none:=by unfold qT;rw[hx];rfl
  refine⟨_,rfl,z _<|zU g (fun j=>?_) (Hs.G9 rfl n).2.2⟩;unfold T7;grind
 |some p=>
  obtain⟨_,x,w,C,D⟩:=au hx;rw[Nat.sub_zero] at w;have r:x.1=i:=FQ
  refine⟨_,rfl,z _ ?_⟩;rw[mq];have d:=List.eraseIdx_sublist o p.1;refine zU ⟨(d.map _).nodup g.nd,fun y t=>g.st y<|d.mem t,(d.map _).nodup g.sd,fun y t=>g.kb y<|d.mem t⟩ (fun j=>?_) (Hs.G9 rfl n).2.2;rw[aCj w g.nd,r,A j];rfl
theorem aU9 (d:Hs G h L) [m:dZ (qX b) L f L'] (j:∀n:Nat,k<|I n):cC (aFs h<|lC b) k:=by
 obtain⟨g,cl,_,d⟩:=Hr<|m.of d;obtain⟨o,_⟩:=Us rfl d;refine⟨I (Ax g).length,?_,j _⟩;grind[aFs,xm,lC]
theorem pf {x y:Int} {l:FK}:y∈Kt x l↔y=x\/y∈l:=by
 induction l with
 |nil=>simp[Kt]
 |cons a l d=>unfold Kt;grind
theorem X0 {y:Int} {l:FK}:y∈Aw l↔y∈l:=by
 induction l with
 |nil=>simp[Aw]
 |cons a l d=>grind[Aw,pf]
theorem re {x:Int} {l:FK} (h:l.Pairwise (·<·)) (d:x∉l):(Kt x l).Pairwise (·<·):=by
 induction l with
 |nil=>simp[Kt]
 |cons a l g=>
  grind[List.pairwise_cons,Kt,pf]
def Z4 {l:FK} (h:l.Nodup):(Aw l).Pairwise (·<·):=by
 induction l with
 |nil=>simp[Aw]
 |cons a l j=>
  obtain⟨d,g⟩:=BA.1 h;exact re (j g) fun e=>d<|X0.1 e
theorem wj {l m:FK} (g:l.Pairwise (·<·)) (j:m.Pairwise (·<·)) (h:∀x,x∈l↔x∈m):l=m:=by
 induction l generalizing m with
 |nil=>
  cases m with
  |nil=>rfl
  |cons y m=>exact absurd ((h y).2 FW) FW
 |cons x l u=>
  cases m with
  |nil=>grind
  |cons y m=>
   obtain⟨a1,n⟩:=CA.1 g;obtain⟨o,r⟩:=CA.1 j;have e:x=y:=by
    have d:=(h x).1 FW;have t:=(h y).2 FW;rcases e6.1 d with e|d;exact e;grind
   grind
def Jt (f:Nat->FN):FL:=(List.range 16).filter fun k=>(f k).isSome
theorem tm (es:JE):K8 (Ax es)=some (es.map fun x=>(x.1:Int)):=by
 induction es with
 |nil=>rfl
 |cons x es d=>
  grind[K8,Ax]
def Zm (n:Nat):(List.range n).Pairwise (·<·):=List.pairwise_lt_range
theorem Po {es:JE} (g:MOk es cl) (j:∀k,qT es k=f k):Aw (es.map fun x=>(x.1:Int))=(Jt f).map fun k:Nat=>(k:Int):=by
 refine wj (Z4 ?_) ?_ fun x=>?_;have:=g.nd;grind;exact List.Pairwise.map (R:=(·<·)) _ FQ<|List.Pairwise.filter _<|Zm 16;rw[X0];simp only[gk,Jt,BN,AI];constructor;rintro ⟨y,n,rfl⟩;refine⟨y.1,⟨g.kb y n,?_⟩,rfl⟩;rw[<-j];cases hl:qT es y.1 with
 |none=>grind[absurd,Fb]
 |some v=>rfl
 rintro ⟨k,⟨_,d⟩,rfl⟩;rw[<-j] at d;have:k∈es.map (·.1):=by
  refine hK fun m=>?_;rw[Fb.2 m] at d;cases d
 grind
theorem Ta {cl:Nat}:∀{es:JE},(∀x∈es,x.2.2<cl)->(es.map (·.2.2)).Nodup->Ic cl (Ax es)=true
 |[],_,_=>rfl
 |x::es,h,g=>by
  simp only[k7,BA] at g;show(Nat.blt x.2.2 cl&&((Ax es).all fun y=> !Nat.beq _ x.2.2)&&Ic cl (Ax es))=true;rw[Ta (fun y d=>h y<|aW _ d) g.2,DP,dn];refine⟨mn<|h x FW,?_⟩;rw[ux];intro y d;obtain⟨z,j,rfl⟩:=gk.1 d;have:z.2.2≠x.2.2:=FR;cases hb:Nat.beq _ _ with
  |false=>rfl
  |true=>simp_all
theorem oe:∀{l:FL},(∀x∈l,x<16)->l.Nodup->X8 (l.map fun k:Nat=>(k:Int))=true
 |[],_,_=>rfl
 |x::l,h,g=>by
  obtain⟨j,d⟩:=BA.1 g;show((Lit.int .i64 (x:Int)).wf&&((l.map fun k:Nat=>(k:Int)).all fun y=> !(y==(x:Int)))&&X8 _)=true;rw[oe FR d,DP,dn];refine⟨?_,?_⟩;have:x=0\/x=1\/x=2\/x=3\/x=4\/x=5\/x=6\/x=7\/x=8\/x=9\/x=10\/x=11\/x=12\/x=13\/x=14\/x=15:=by have:=h x FW;omega
  rcases this with rfl|rfl|rfl|rfl|rfl|rfl|rfl|rfl|rfl|rfl|rfl|rfl|rfl|rfl|rfl|rfl<;>rfl;grind
theorem aMc {x:Int} {l:FK}:(Kt x l).length=l.length+1:=by
 induction l with
 |nil=>rfl
 |cons a l d=>grind[Kt]
theorem aEy {l:FK}:(Aw l).length=l.length:=by
 induction l with
 |nil=>rfl
 |cons a l d=>grind[Aw,aMc]
theorem aNn {es:JE} (d:MOk es cl):es.length<=16:=by
 have h:=eV List.length<|Po d fun _=>rfl;rw[aEy,k6,k6] at h;rw[h];exact ss (fun k=>(qT es k).isSome)<|List.range 16
theorem Jb {f:FuncId} {args:FJ} {F:AH->Option (Value×AH)} {d:AH} (j:K f args=some (.K7 F)) (hF:F h=some (v,d)) (g:Q v d):Cl P K f args h Q:=by
 refine⟨1,(⟨.vY,[],[],v⟩,d),?_,g⟩;show sW P K _ f args h=_;grind[sW]
theorem aLc {f:FuncId} {args:FJ} {e2:TypeId} {d:Nat->FN} (T:K f args=some (.K7<|Ix e c)) (V:Hs G h (aK c 0 [lC b]::mt c (e2,true,1)::qX b d::L))
  (hk:∀a D J,Hs G J (eC 1 e a D ((Jt d).length,(Jt d).map fun k:Nat=>I k)::qX b d::L)->Q (.slice a (Jt d).length D) J):Cl P K f args h Q:=by
 have n:=V
 obtain⟨o,cl,⟨m,X⟩,C⟩:=Hr<|(V.cI<|(List.Perm.swap _ _ _).cons _).cI<|List.Perm.swap _ _ _
 obtain⟨Z,hb⟩:=Us rfl C
 have g:∃E,h.get c=some (.cells [lC b] E (0,0) true):=by
  obtain⟨r,r2,hr,w,hd,hi,u⟩:=n.fst;obtain⟨r3,r4,z,β,t,rfl⟩:=w;cases hr;cases z;obtain⟨i1,i2⟩:=(eJ.jB t).1 u;obtain⟨_,c',N,Y⟩:=i1.mt c e2 true 1 FW;obtain⟨_,c2,e3,x3,O,S⟩:=hi.gL c 0 (lC b) (by simp[xH]);rw[N] at O;cases O;refine⟨e2,?_⟩;rw[N];obtain⟨v,rfl⟩:=CC.1 Y;simp only[sz,Option.some.injEq] at S;rw[S]
 obtain⟨E,g⟩:=g
 have hF:Ix e c h=some (yj h e<|Aw<|o.map fun x=>(x.1:Int)):=by
  unfold Ix;simp only[g,lC,Z,tm];rw[bD2];rw[dn,dn];refine⟨⟨?_,Ta m.st m.sd⟩,?_⟩;grind[aNn,List.length_map,Nat.ble_eq_true_of_le];rw[show(o.map fun x=>(x.1:Int))=(o.map (·.1)).map fun k:Nat=>(k:Int) by simp_all];exact oe (fun x hx=>by obtain⟨y,hy,rfl⟩:=gk.1 hx;exact m.kb y hy) m.nd
 rw[Po m X] at hF
 have B:=n.tail.tail
 cases hkf:Jt d with
 |nil=>
  rw[hkf] at hF
  refine Jb T hF ?_
  simp_all[none,lF]
 |cons x l=>
  rw[hkf] at hF
  refine Jb T hF ?_
  have j:=hk (some ⟨h.next,0,none⟩) (Jt d).length<|h.alloc<|.cells (((Jt d).map fun k:Nat=>(k:Int)).map<|Value.int .i64) e (0,0) false
  rw[hkf] at j
  simp only[js,k7,k6] at j ⊢
  refine j ?_
  refine Hs.join (A:=[_,_]) (B.kT (c:=Value.int .i64 (x:Int)::((l.map fun k:Nat=>(k:Int)).map<|Value.int .i64)) (e:=e) (x:=false)) fun q U=>?_
  have U:=xY U
  refine⟨FW,?_,.inr<|.inr ⟨bb _,_,[],[],false,rfl,FW,?_⟩⟩
  .simp[gU]
  grind[List.map_map,Function.comp_def]
class Fx {α:Type} (enc:α->FJ) (W:outParam Nat):Prop where
 len:∀x,(enc x).length=W
 cel:∀x,(enc x).all gU=true
def eL {α:Type} (enc:α->FJ) (l:List α):FJ:=l.flatMap enc
variable {α:Type}
section
variable {enc:α->FJ} [F:Fx enc W]
omit F in
@[simp] theorem aTb:eL enc []=[]:=rfl
omit F in
def uU {x:α} {l:List α}:eL enc (x::l)=enc x++eL enc l:=rfl
omit F in
theorem aIo {l m:List α}:eL enc (l++m)=eL enc l++eL enc m:=by simp[eL]
theorem J9 {l:List α}:(eL enc l).length=l.length*W:=by
 induction l with
 |nil=>simp
 |cons x l d=>rw[uU,dd,F.len,d,js,AB];omega
include F in
theorem Uk {l:List α}:(eL enc l).all gU=true:=by
 induction l with
 |nil=>rfl
 |cons x l d=>rw[uU,DX,F.cel,d];rfl
def Zj {l:List α}:∀{i:Nat},(eL enc l).drop (i*W)=eL enc (l.drop i):=by
 induction l with
 |nil=>intro i;simp
 |cons x l d=>
  intro i;cases i with
  |zero=>simp
  |succ i=>
   rw[uU,CU,AB,DM,eo<|by rw[F.len];omega,F.len,show i*W+W - W=i*W by omega,d,hT]
def zl {l:List α}:∀{i:Nat},(eL enc l).take (i*W)=eL enc (l.take i):=by
 induction l with
 |nil=>intro i;simp
 |cons x l d=>
  intro i;cases i with
  |zero=>simp
  |succ i=>
   rw[uU,BB,uU,AB,DK,fm<|by rw[F.len];omega,F.len,show i*W+W - W=i*W by omega,d]
def aIc {l:List α} {x:α} (h:l[i]?=some x):((eL enc l).drop<|i*W).take W=enc x:=by
 obtain⟨g,d⟩:=ew.1 h;rw[Zj,l7 g,uU,d];exact List.take_left'<|F.len x
theorem bx {l:List α} {x:α} (h:l[i]?=some x) (g:(enc x)[j]?=some v):(eL enc l)[i*W+j]?=some v:=by
 have d:=aIc (enc:=enc) h;grind
def aHe {l:List α} {y:α} (d:i<l.length):bM (eL enc l) (i*W) (enc y)=eL enc (l.set i y):=by
 rw[<-tP _ _ _ (by rw[J9,F.len,<-AB];exact o0 _ d)];unfold eB;rw[zl,F.len,<-AB,Zj,List.set_eq_take_append_cons_drop,bD2 d,aIo,uU,eh]
def ls (enc:α->FJ) (W:Nat) (e:TypeId) (a:FM) (c:Nat) (l:List α):HP:=eC W e a c (l.length,eL enc l)
omit F in
def vC [Fx enc W] {e:TypeId} (d:Hs G h L):Hs G h (ls enc W e none 0 []::L):=lF d
variable {l:List α}
omit F in
def sG {x:α} (d:Hs G h (eC W e a c (1,enc x)::L)):Hs G h (ls enc W e a c [x]::L):=by
 unfold ls;rw[uU,aTb,kx];exact d
theorem yX {i:Int} {x:α} (o:Hs G h L) [m:dZ (ls enc W e a c) L l L'] (g:0<W) (d:0<=i) (r:l[i.toNat]?=some x) (n:k (.agg ⟨enc x⟩)):cC (qN W (.slice a l.length c)<|I i) fun p=>cC (yU h W p) k:=by
 obtain⟨j,rfl⟩:=ay d;exact aHj (e:=e) (show Hs G h (eC W e a c (l.length,eL enc l)::L') from m.of o) g FR (aIc r) (F.len x) n
theorem aK8 {i:Int} {x:α} (o:Hs G h L) [m:dZ (ls enc W e a c) L l L'] (d:0<=i) (t:l[i.toNat]?=some x) (r:(enc x)[j]?=some u) (g:k u):cC (qN W (.slice a l.length c)<|I i) fun p=>cC (lQ j p) fun q=>cC (vZ h q) k:=by
 obtain⟨n,rfl⟩:=ay d;exact aJs (e:=e) (show Hs G h (eC W e a c (l.length,eL enc l)::L') from m.of o) FR (bx t r) g
theorem aAp {i:Int} {y:α} {k:AH->Prop} (u:Hs G h L) [m:dZ (ls enc W e a c) L l L'] (w:0<W) (t:0<=i) (z:i<l.length) (A:∀g,Hs G g (ls enc W e a c (l.set i.toNat y)::L')->k g):cC (qN W (.slice a l.length c)<|I i) fun p=>cC (Ar h W p<|.agg ⟨enc y⟩) k:=by
 obtain⟨n,rfl⟩:=ay t;have j:n<l.length:=FQ
 obtain⟨b,o,rfl,r⟩:=(m.of u).jW FQ;refine fK j ?_;rw[show pt b _ 0=pt b o (n*W) by simp[pt]];have hle:n*W+W<=(eL enc l).length:=by rw[J9,<-AB];exact o0 _ j
 refine cG r (F.len y) (mn hle) (F.cel y) (mn FQ) fun g d=>?_;rw[aHe j] at d;grind[Int.toNat_natCast,ls,List.length_set,Hs.oG,J9,Uk]
omit F in
theorem qV [Fx enc W] {bytes c2:Nat} {a2:FM} {l2:List α} {k:Value×AH->Prop} (n:Hs G h L) [m:dZ (ls enc W e a c) L l L'] [m2:dZ (ls enc W e a2 c2) L' l2 M] (r:(l.length+l2.length)*(bytes+1)<=2^46)
  (t:∀d g j,Hs G j (ls enc W e d g (l++l2)::ls enc W e a2 c2 l2::M)->k (.slice d (l++l2).length g,j)):cC (nJ W bytes e h (.slice a l.length c)<|.slice a2 l2.length c2) k:=by
 have o:Hs G h (eC W e a c (l.length,eL enc l)::eC W e a2 c2 (l2.length,eL enc l2)::M):=(((m.of n).cI<|(m2.cI.cons _).trans<|List.Perm.swap _ _ _)).qS
 grind[yR,ls,List.length_append,aIo]
end
def aVr {a b:Int} (d:k (I<|if b<a then b else a)):cC (E2 (I a)<|I b) k:=⟨_,rfl,d⟩
theorem aQ8 {enc:α->FJ} {l:List α} (z:Hs G h L) [m:dZ (ls enc W e a c) L l L'] (E:i<l.length) (u:i<=j) (J:j<=l.length)
  (w:∀b o,a=some ⟨b,o,none⟩->k (.slice (some ⟨b,o+i*W,none⟩) (j - i)<|c - i)):cC (Dv W h (.slice a l.length c) (some<|I i) (some<|I j) none) k:=by
 have A:l.length<=c/\∃b o,a=some ⟨b,o,none⟩:=(m.of z).aA6 fun r y=>by
  obtain⟨_,_,⟨d,_⟩|⟨d,_⟩|⟨d,b,B,g,ex,C,_⟩⟩:=y;grind;grind;grind
 obtain⟨D,b,o,rfl⟩:=A
 refine⟨_,?_,w b o rfl⟩
 have n:sM none c c=some c:=by simp[sM]
 have e2:sM (some<|I j) l.length c=some j:=by simp[sM];omega
 have t:sM (some<|I i) 0 j=some i:=by simp[sM];omega
 unfold Dv
 simp only[n,e2,t,BL,y0,aO,dx,ef]
 rw[aac,aaa,fD]
def aV3 {enc:α->FJ} [F:Fx enc W] {o:Nat} {l:List α} {x:α} (u:Hs G h L) [m:dZ (ls enc W e (some ⟨b,o,none⟩) c) L l L'] (j:0<W) (g:l[n]?=some x) (t:k (.agg ⟨enc x⟩)):cC (yU h W<|pt b (o+n*W) 0) k:=by
 have y:=(ew.1 g).1;obtain⟨w,z,r,d⟩:=(m.of u).jW FQ;cases r;rw[show pt b _ 0=pt b o (n*W) by simp[pt]];exact bC d j (aIc g) (F.len x) t
theorem aYk {k:Value->AH->Prop} (V:0<W) (B:∀m,(iP z m).length=m*W/\(iP z m).all gU=true) (hi:i<n) (g:Hs G h L) [m:dZ (eC W e a c) L (n,cs) L']
  (Z:∀D,Hs G D (eC W e a c (i,cs.take<|i*W)::L')->k (.slice a i c) D):
  cC (Dv W h (.slice a n c) (some<|I i) none none) fun v0=>cC (mM z h v0) fun O=>(fun _ E=>cC (Dv W E (.slice a n c) none (some<|I i) none) fun v4=>k v4 E) O.1 O.2:=by
 have g:=m.of g
 have hl:=g.Ho
 have X:=g.Gz
 simp only at hl X
 have d:n<=c:=by
  obtain⟨r,r2,⟨_,_,hr⟩,_⟩:=g.fst;rcases hr with⟨B,_⟩|⟨B,_⟩|⟨d,_⟩;grind;grind;exact d
 obtain⟨b,o,rfl,H,w,close⟩:=g.vA FQ
 have J:0<n*W:=Nat.mul_pos FQ V
 have C:sM none c c=some c:=rfl
 have Q:sM (some<|I i) n c=some i:=GI
 have S:sM none 0 i=some 0:=rfl
 have T:sM none n c=some n:=rfl
 have U:sM (some<|I i) 0 n=some i:=GI
 have Y:i*W<=n*W:=o0 W FQ
 have N:(n - i)*W=n*W - i*W:=FR
 refine⟨.slice (some ⟨b,o+i*W,none⟩) (n - i)<|c - i,?_,?_⟩
 .simp only[Dv,C,T,U,AJ,ef,r5,aO,dx,fD,FQ];grind
 obtain⟨u,A,t⟩:=w.iV (j:=i*W) (vs:=iP z<|n - i) FR (B _).2 FQ
 refine⟨(.tuple #[],u),?_,?_⟩
 .simp only[mM,bD1<|show ¬n - i=0 by omega,A,xa]
 refine⟨_,?_,Z u ?_⟩
 .simp only[Dv,C,Q,S,BL,y0,ef,aO,dx,FQ,fD];grind
 have y:eB cs (i*W) (iP z<|n - i)=cs.take (i*W)++iP z (n - i):=by
  unfold eB;rw[BD FR,kx]
 rw[y] at t
 refine Sx FQ FQ IB<|close u _ _ ?_ ?_ t
 .grind
 grind
instance {p:Nat}:Cv (lC p) [lC p]:=⟨rfl⟩
def aZ9 {k:Nat->AH->Prop} (j:Hs G h L) [m:Cv v cs] (g:∀p d,Hs G d (aK p 0 cs::mt p (e,true,cs.length)::L)->k p d):cC (pX e v) fun b=>Jj h b k:=
 ⟨.cells cs e (0,0) true,by simp[pX,m.eq],g _ _ j.kT⟩
theorem Hs.aSq {r:Nat} {D:FL} {o:qU} (ho:S1 o=true) (w:Hs G h (frs r n D::L)) (Z:i<n) (hD:i∉D):
  Hs G (h.set (r+i)<|some o) (ot (r+i) o::frs r n (i::D)::L):=by
 obtain⟨q,⟨r1,Q,T,U,B,V⟩,X⟩:=w.Wp
 cases T
 subst V
 obtain⟨i1,i2⟩:=(eJ.jB B).1 X
 obtain⟨q1,q2,I,⟨q3,q4,J,N,β,z⟩,Y,O⟩:=gh (r:=r) Z hD
 cases I;cases N
 rw[eJ.add_comm FQ,eJ.kQ] at z
 subst z
 cases J
 rw[O] at i1 B
 obtain⟨i3,i4⟩:=(eJ.jB Y).1 i1
 obtain⟨fb,fn,fg⟩:=i3.lA (r+i) FW
 obtain⟨d1,d2⟩:=eJ.mL.1 B.symm
 have d:∀j,(h.set _ _).get j=if j=r+i then some o else h.get j:=fun j=>AH.oA<|cL w.le fb
 have t:=(eJ.jB d2.symm).2 ⟨i4,i2⟩
 have E:((⟨fun _ _=>none,fun b=>if r<=b/\b<r+n/\(b - r)∉(i::D) then some .lA else none⟩:eJ).add Q).A4 (r+i)=none:=by
  simp only[eJ.add];rw[bD1 FR];rcases d1.A4 (r+i) with h|h;grind;simp at h
 have y:(⟨fun _ _=>none,fun S=>if S=r+i then some (.Nu o) else none⟩:eJ).Be ((⟨fun _ _=>none,fun b=>if r<=b/\b<r+n/\(b - r)∉(i::D) then some .lA else none⟩:eJ).add Q):=by
  refine⟨FR,fun b=>?_⟩;by_cases u:b=r+i;grind;grind
 refine⟨by simp;exact w.base,fun j A=>by rw[d,aaa];exact w.old j A,by simp;exact w.wf,fun j A=>by simp at A;rw[d,aaa];exact w.fr j A,
    _,⟨_,_,rfl,⟨_,Q,rfl,U,d2.symm,rfl⟩,y,rfl⟩,(eJ.jB y).2 ⟨?_,?_⟩⟩
 .refine⟨FR,fun b m=>?_,fun b e' x' n m=>?_,fun b o' m=>?_⟩
  .simp only at m;split at m<;>cases m
  .simp only at m;split at m<;>cases m
  .simp only at m;split at m
   .rename_i u;subst u;cases m;exact⟨fb,by rw[d,bD2 rfl],ho⟩
   .cases m
 .refine t.of FW FW fun b u=>?_;rw[d,bD1];intro C;subst C;rcases u with u|⟨o,u⟩
  .exact u E
  .apply u;cases hc:eJ.gL _ _ o with
   |none=>rfl
   |some v=>obtain⟨_,_,_,_,g,_⟩:=t.gL _ o v hc;grind
theorem vd {r:Nat} {D:FL} {k:Nat->AH->Prop} (j:Hs G h L) [m:dZ (y4 r) L (n,D) L'] (t:Nat.blt i n=true) (hD:D.contains i=false)
  (g:∀p d,Hs G d (qX p (fun _=>none)::y4 r (n,i::D)::L')->k p d):rJ h (r+i) (.map [] 0) k:=
 g _ _ (zU (es:=[]) (cl:=0) ⟨FW,FW,FW,FW⟩ (fun _=>rfl)<|Hs.aSq (o:= .map [] 0) rfl (show Hs G h (frs r n D::L') from m.of j) HB FR)
def pE (p:Nat):FJ:=[JM p]
instance:Fx pE 1 where
 len _:=rfl
 cel _:=rfl
def aGc {l:FL} (r:Hs G h L) [m:dZ (ls pE 1 e a c) L l L'] (g:i<l.length) (n:k (JM<|l.getD i 0)):cC (qN 1 (.slice a l.length c)<|I i) fun p=>cC (vZ h p) k:=by
 obtain⟨b,o,rfl,d⟩:=(m.of r).jW FQ;refine fK g ?_;rw[show pt b _ 0=pt b o (i*1) by simp[pt]];exact aE d (bx (W:=1) (j:=0) (by rw[aP,b0 g];rfl) rfl) n
theorem aLd {q:Nat} {l:FL} {k:AH->Prop} (u:Hs G h L) [m:dZ (ls pE 1 e a c) L l L'] (j:i<l.length) (t:∀d,Hs G d (ls pE 1 e a c (l.set i q)::L')->k d):cC (qN 1 (.slice a l.length c)<|I i) fun p=>cC (Ar h 1 p<|JM q) k:=by
 obtain⟨b,o,rfl,g⟩:=(m.of u).jW FQ;refine fK j ?_;rw[show pt b _ 0=pt b o (i*1) by simp[pt]];have n:(eL pE l).length=l.length*1:=J9;refine cG g rfl (mn FQ) rfl (mn FQ) fun d r=>t d ?_;have w:bM (eL pE l) _ [JM q]=eL pE _:=aHe j;grind[ls,List.length_set,Hs.oG,J9,Uk]
def uZ {α:Type} (R:Nat->Nat->α->HP) (l:FL) (s:Nat->α):HP:=fH l.length fun k=>R k (l.getD k 0)<|s k
def Ms {α:Type} (R:Nat->Nat->α->HP) (l:FL) (s:Nat->α) (i:Nat):HP:=sp<|((List.range l.length).erase i).map fun k=>R k (l.getD k 0)<|s k
variable {R:Nat->Nat->α->HP} {l:FL} {s:Nat->α} {q:Nat} {x:α}
def jH (d:i<l.length) (g:Hs G h L) [m:dZ (uZ R l) L s L']:Hs G h (R i (l.getD i 0) (s i)::Ms R l s i::L'):=(show Hs G h (fH l.length (fun k=>R k (l.getD k 0)<|s k)::L') from m.of g).pI i d
def aGj (d:i<l.length) (m:Hs G h (R i q x::Ms R l s i::L)):Hs G h (uZ R (l.set i q) (fun j=>if j=i then x else s j)::L):=by
 unfold uZ;rw[rk];refine Hs.aH0 (f:=fun k=>R k (l.getD k 0)<|s k) d (fun j g=>?_) ?_;simp only[bD1 g,aP,CJ];rw[bD1 fun e=>g e.symm];simp only[eD,aP,CJ,d,ts];exact m
theorem H0 (d:i<l.length) (g:Hs G h (R i (l.getD i 0) x::Ms R l s i::L)):Hs G h (uZ R l (fun j=>if j=i then x else s j)::L):=by
 have:=aGj d g;simp_all
def Rw (d:Hs G h L):Hs G h (uZ R [] s::L):=Hs.kh d
def Q6 (g:Hs G h (R l.length q (s l.length)::uZ R l s::L)):Hs G h (uZ R (l++[q]) s::L):=by
 unfold uZ;rw[dd,AA];refine Hs.jh ?_;have e:(l++[q]).getD l.length 0=q:=by simp[aP]
 rw[e];refine(zN (fun j d=>?_)<|g.cI<|List.Perm.swap _ _ _).cI (List.Perm.swap _ _ _);simp only[aP,tb d]
end Go.Ab
variable {r:List (Option IntKind)}
namespace Go.Ab
open Go.RowKit Go.ChangeShapes Go.WideShapes Go.ChangeAt
variable {fs:Array Field}
section
variable {H:Type} {enc:TypeId×Value->H}
def aId {W:World} {base:Nat} (g:P.underlying t=some (.struct fs)) (d:Value.okWide P W .any base t v):∃l,v= .agg ⟨l⟩/\l.length=P.cellsOf t:=by
 simp only[Value.okWide,g] at d;obtain⟨⟨l⟩,rfl,h,_⟩:=d;exact⟨l,rfl,h⟩
def Cp {W:World} {f:Field} {l:FJ} {d:DataW H} {p:List MemPlace} (E:P.underlying t=some (.struct fs)) (w:fs[i]?=some f)
  (I:P.underlying f.type=some (.slice e)) (B:P.cellsOf f.type=1) (C:yH P n e=some r) (hc:P.cellsOf e=r.length) (A:0<r.length)
  (h:DataW.Trod enc P W 0 (fun _=>true) true t (.agg ⟨l⟩) d p):∃a len g,l[f.offset]?=some (.slice a len g)/\qO r W a len g:=by
 obtain⟨fuel,u⟩:=h
 obtain⟨O,m,_,_,N,J,j⟩:=CI E u
 have y:=j i f w
 rw[b0<|by rw[J];exact(hX.1 w).1] at y
 obtain⟨a,len,g,o,D⟩:=Oa I C hc A y
 refine⟨a,len,g,?_,D⟩
 rw[B] at o
 have:=eV (fun z=>z[0]?) o
 simpa [Value.cells] using this
end
def Jz {α:Type} {f:α->FJ} {R:α->Prop} {at':Nat->FJ} (hex:∀i,i<n->∃x,at' i=f x/\R x):
  ∃l:List α,l.length=n/\(∀x∈l,R x)/\∀(G:Bg) (v:Value),zE G W v n at'->zE G W v (l.map f).length (fun i=>(l.map f).getD i []):=by
 let l:List α:=(List.finRange n).map fun i=>(hex i.1 i.2).choose
 have j:l.length=n:=by simp[l]
 have w:∀i,(d:i<n)->l[i]?=some (hex i d).choose:=fun i d=>by
  simp[l,k9,b0<|show i<(List.finRange n).length by simp;exact d]
 refine⟨l,j,fun x z=>?_,fun G v y=>?_⟩
 .obtain⟨i,_,rfl⟩:=gk.1 z;exact(hex i.1 i.2).choose_spec.2
 .obtain⟨a,c,rfl,g⟩:=y;rw[k6,j];refine⟨a,c,rfl,fun i d=>?_⟩;obtain⟨b,o,cells,m,r,t,u⟩:=g i d;refine⟨b,o,cells,m,r,?_,u⟩;rw[t,(hex i d).choose_spec.1];show f _=(l.map f).getD i [];rw[aP,k9,w i d];rfl
def aHt (G:Bg) (v:Value) (n:Nat):Prop:=(v= .slice none 0 0/\n=0)\/(v= .slice (some ⟨0,0,some 0⟩) 0 0/\n=0)\/
 ∃k o c cells e d,v= .slice (some ⟨k,o,none⟩) n c/\0<n/\n<=c/\k<G.base/\G.old k=some (.cells cells e d false)
def Gu {w:World} (P:Program) {d:List (Option IntKind)} {len:Nat} (h:qO d w a len cap):∃(r:OB) (t:Nat->Value),aCq P w r/\
  (∀ρ k,ρ k=r.2->bB ρ (t k) (.slice a len cap))/\∃at':Nat->FJ,(∀i,i<len->rC d (at' i))/\∀(G:Bg) k,k<G.base->G.old k=r.1->zE G d.length (t k) len at'/\aHt G (t k) len:=by
 rcases h with⟨rfl,rfl,rfl⟩|⟨x,rfl,rfl⟩|⟨x,cc,e,m,rfl,A,C,B,n,D,u⟩
 .refine⟨(none,none),fun _=> .slice none 0 0,⟨fun o h=>by(cases h),fun b s h=>FZ⟩,fun ρ k _=>GN,fun _=>[],fun i g=>FQ,fun G k _ _=>⟨⟨none,0,rfl,fun i g=>FQ⟩,.inl ⟨rfl,rfl⟩⟩⟩
 .refine⟨(none,none),fun _=> .slice (some ⟨0,0,some 0⟩) 0 0,⟨fun o h=>by(cases h),fun b s h=>FZ⟩,fun ρ k _=>?_,fun _=>[],fun i g=>FQ,fun G k _ _=>⟨⟨some ⟨0,0,some 0⟩,0,rfl,fun i g=>FQ⟩,.inr<|.inl ⟨rfl,rfl⟩⟩⟩;simp only[bB];exact⟨trivial,trivial,x,cap,fun h=>FQ,fun h=>FQ,rfl⟩
 .refine⟨(some<|.cells (cc.toList.map san) e m false,some (x.block,(0,0))),fun k=> .slice (some ⟨k,x.off,none⟩) len cap,⟨fun o h b s j=>?_,fun b s j=>?_⟩,fun ρ k j=>?_,fun i=>(cc.toList.drop<|x.off+i*d.length).take d.length,u,fun G k z y=>?_⟩
  .cases h;cases j;refine⟨_,n,fun ρ=>⟨cc,rfl,?_,FW,fun h=>FZ⟩⟩;rw[k6,ll,fm FW];exact aAa _
  .cases j;exact(hX.1 n).1
  .exact⟨x.block,(0,0),cap,j,bb _,FW,by cases x;subst C;rfl⟩
  .refine⟨⟨_,_,rfl,fun i g=>⟨k,x.off,_,rfl,⟨z,e,m,false,y⟩,?_,?_⟩⟩,.inr<|.inr ⟨k,x.off,cap,_,e,m,rfl,A,B,z,y⟩⟩
   .rw[<-List.map_drop,<-List.map_take];exact Tp<|u i g
   .have:i*d.length<=len*d.length:=o0 _ FQ;simp;omega
variable {G:Bg} {h:AH}
end Go.Ab
variable {B:Nat}
namespace Go.Hm
structure bQ where
 aB:Int
 aM:Int
 aU:Int
 ways:Int
 eR:Int
 mU:Int
 bX:Int
 deriving DecidableEq
def bQ.aRa (C:bQ):FK:=[C.aB,C.aM,C.aU,C.ways,C.eR,C.mU,C.bX]
def bQ.enc (C:bQ):FJ:=[I C.aB,I C.aM,I C.aU,I C.ways,I C.eR,I C.mU,I C.bX]
def aT5:FK:=[4,16,8,4,16,8,4]
def iM:FJ:=[I 4,I 16,I 8,I 4,I 16,I 8,I 4]
def bQ.ckF (C:bQ):Nat->Nat->Int
 |0,_=>0
 |f+1,i=>if C.aRa.getD i 0<1\/aT5.getD i 0<C.aRa.getD i 0 then 10 else C.ckF f (i+1)
def bQ.Ok (C:bQ):Prop:=(1<=C.aB/\C.aB<=4)/\(1<=C.aM/\C.aM<=16)/\(1<=C.aU/\C.aU<=8)/\(1<=C.ways/\C.ways<=4)/\(1<=C.eR/\C.eR<=16)/\(1<=C.mU/\C.mU<=8)/\(1<=C.bX/\C.bX<=4)
instance (C:bQ):Decidable C.Ok:=by unfold bQ.Ok;infer_instance
theorem bQ.aYa (C:bQ):C.ckF 7 0=if C.Ok then 0 else 10:=by
 simp only[bQ.ckF,bQ.aRa,aT5,List.getD_cons_zero,List.getD_cons_succ];by_cases h:C.Ok;simp_all[bD2,bQ.Ok,bD1];grind[bQ.Ok]
def bQ.aF (C:bQ):Nat:=(C.aM*2).toNat
theorem bQ.fF {C:bQ} (h:C.Ok):(C.aF:Int)=C.aM*2/\2<=C.aF/\C.aF<=32:=by
 grind[bQ.Ok,bQ.aF]
abbrev Ln:=Int×Int
def Vw (l:Ln):FJ:=[I l.1,I l.2]
def pV (n B i:Nat):Nat:=(n+B - 1 - i)/B
def aE9 (d:i<B):pV 0 B i=0:=BG FQ
theorem Ye (m:i<B):pV (n+1) B i=if i=n % B then pV n B i+1 else pV n B i:=by
 have d:=EY n B;have j:=BI n (show 0<B by omega);unfold pV;generalize n/B=q at d;generalize n % B=r at d j ⊢;subst d;split;rename_i h;subst h;rw[show B*q+i+1+B - 1 - i=B*q+B by omega,show B*q+i+B - 1 - i=B*q+(B - 1) by omega];rw[BO FQ,BO FQ,Nat.div_self FQ,BG FQ];rcases u4 i r with g|g;rw[show B*q+r+1+B - 1 - i=B*q+(B+(r - i)) by omega,show B*q+r+B - 1 - i=B*q+(B+(r - i - 1)) by omega];rw[BO FQ,BO FQ,Nat.add_div_left _ FQ,Nat.add_div_left _ FQ,BG FQ,BG FQ];rw[show B*q+r+1+B - 1 - i=B*q+(B+r - i) by omega,show B*q+r+B - 1 - i=B*q+(B+r - i - 1) by omega];rw[BO FQ,BO FQ,BG FQ,BG FQ]
theorem Ru {l:Nat} (hB:0<B) (g:l<n):l/B<pV n B (l % B):=by
 unfold pV;have d:=EY l B;rw[Nat.lt_div_iff_mul_lt hB];grind
theorem Z8 {l k:Nat} (d:i<B):k*B+i=l↔k=l/B/\i=l % B:=by
 constructor;grind[Nat.mul_comm,Nat.mul_add_div,Nat.mul_add_mod,Nat.div_eq_of_lt,Nat.mod_eq_of_lt];grind[Nat.div_add_mod,Nat.mul_comm]
theorem bQ.bk {C:bQ} (h:C.Ok):(C.bX.toNat:Int)=C.bX/\0<C.bX.toNat/\C.bX.toNat<=4:=by grind[bQ.Ok]
def fu (B i:Nat) (mem:Nat->Ln):Nat->FJ:=fun k=>Vw<|mem<|k*B+i
def cm {mem:Nat->Ln} (k:Nat):(fu B i mem k).length=2:=rfl
theorem zQ {α:Type} {f:Nat->α}:bA f i (f i)=f:=by
 grind[bA]
theorem aJe {l:Nat} {mem:Nat->Ln} (hB:0<B):fu B (l % B) mem (l/B)=Vw (mem l):=by
 grind[fu,Z8,Nat.mod_lt]
theorem Zx {l:Nat} {mem:Nat->Ln} {v:Ln} (hB:0<B):bA (fu B (l % B) mem) (l/B) (Vw v)=fu B (l % B) (bA mem l v):=by
 funext k;unfold fu bA;have:=(Z8 (l:=l) (k:=k)<|BI l hB);grind
theorem aJk {l:Nat} {mem:Nat->Ln} {v:Ln} (d:i<B) (h:i≠l % B):fu B i (bA mem l v)=fu B i mem:=by
 unfold fu bA;simp_all[bD1,Z8]
def y5 (hB:0<B):pV n B i<=n:=by
 refine Nat.le_of_lt_succ<|Nat.div_lt_of_lt_mul ?_;rw[Nat.mul_succ];have:n<=B*n:=Nat.le_mul_of_pos_left _ hB;omega
def uB:Nat->Ln:=fun _=>(0,0)
end Go.Hm
namespace Go.Ab
abbrev tx (l:List UInt8):Value:= .string ⟨l.toArray⟩
variable {G:Bg} {h:AH}
def r7 (g:FL):HP:=sp<|g.map fun d=>mk d ()
def aXv {k:AH->Prop}:∀(j:FL) {h:AH},Hs G h (r7 j::L)->(∀n,Hs G n L->k n)->cC (dO j h) k:=by
 intro j;induction j with
 |nil=>intro h g m;exact nU (m _ g.tail)
 |cons d j o=>
  intro h g m;have g:Hs G h (mk d ()::((j.map fun d=>mk d ())++L)):=Hs.fL g;exact qQ g fun h g=>o (Hs.nS g) m
theorem U0 {g:FL} (j:Hs G h (mk d ()::r7 g::L)):Hs G h (r7 (d::g)::L):=by
 have:=j.qS;exact Hs.nS (A:=mk d ()::g.map fun d=>mk d ()) ((Hs.fL this).cI (by
  simp_all))
def aP6 (d:Hs G h L):Hs G h (r7 []::L):=Hs.nS (A:=[]) d
end Go.Ab
namespace Go.Is
def aZi:List (List UInt8×FK):=[([],[0,0,0]),([115,101,116],[1,2,0]),([97,100,100],[1,1,1]),([108,111,97,100],[1,1,0]),([115,116,111,114,101],[1,1,0]),([115,119,97,112],[1,1,0]),([102,101,110,99,101],[0,0,0]),
  ([119,111,114,108,100],[3,0,0]),([99,97,108,108],[4,1,1]),([106,117,109,112],[5,0,0]),([122,101,114,111],[1,5,0]),([104,97,108,116],[0,0,0])]
def vV:FJ:=aZi.flatMap fun r=>tx r.1::r.2.map I
structure iW where
 op:Int
 a:Int
 b:Int
 c:Int
 deriving DecidableEq
abbrev IW:=List iW
def iW.enc (x:iW):FJ:=[I x.op,I x.a,I x.b,I x.c]
def Qd (o:Nat):FK:=(aZi.getD o ([],[])).2
def isO (x:Int):Bool:=decide<|1<=x/\x<12
def Ha (mI v many:Int):Bool:=
 if mI=1 then decide (0<=v/\v<4) else if mI=2 then true else if mI=3 then decide (1<=v/\v<=3) else if mI=4 then decide (1<=v/\v<=4) else if mI=5 then decide (0<=v/\v<=many) else decide (v=0)
def iW.gy (x:iW):FK:=[x.a,x.b,x.c]
def iW.Qb (x:iW):List (Int×Int):=(Qd x.op.toNat).zip x.gy
def pK (x:iW) (many:Int):Int:=if isO x.op then(if(x.Qb.all fun p=>Ha p.1 p.2 many) then 0 else 10) else 15
def ckF (many:Int):IW->Nat->Int×Int
 |[],_=>(0,0)
 |x::l,i=>if pK x many≠0 then((i:Int)+1,pK x many) else ckF many l (i+1)
def rI (p:IW):Int×Int:=if 32<p.length then(0,11) else ckF p.length p 0
def o12 {k:Nat} (h:k<12):k=0\/k=1\/k=2\/k=3\/k=4\/k=5\/k=6\/k=7\/k=8\/k=9\/k=10\/k=11:=FQ
def aJi {k:Nat} (h:k<12) (g:i<3):vV[k*4+(1+i*1)]?=some (I<|(Qd k).getD i 0):=by
 have d:i=0\/i=1\/i=2:=FQ
 rcases o12 h with rfl|rfl|rfl|rfl|rfl|rfl|rfl|rfl|rfl|rfl|rfl|rfl<;>rcases d with rfl|rfl|rfl<;>rfl
def my {k:Nat} (h:k<12):(Qd k).length=3:=by
 rcases o12 h with rfl|rfl|rfl|rfl|rfl|rfl|rfl|rfl|rfl|rfl|rfl|rfl<;>rfl
theorem Wq {x:iW} (h:isO x.op=true):x.Qb.length=3:=by
 have:=c8 h;unfold iW.Qb;rw[List.length_zip,my FQ];rfl
theorem Mr {x:iW} (h:isO x.op=true) (g:i<3):x.Qb[i]?=some ((Qd x.op.toNat).getD i 0,x.gy.getD i 0):=by
 have:=c8 h;have d:=my (k:=x.op.toNat) FQ;unfold iW.Qb;rw[List.getElem?_zip_eq_some];refine⟨?_,?_⟩;grind;grind[List.getElem?_eq_getElem,iW.gy]
theorem tu {many:Int}:∀(l:IW) (i:Nat),(ckF many l i).2=0->∀x∈l,pK x many=0
 |[],_,_,x,d=>by simp at d
 |y::l,i,h,x,d=>by
  rw[ckF] at h;split at h;grind;rcases e6.1 d with rfl|d;omega;exact tu l (i+1) h x d
end Go.Is
