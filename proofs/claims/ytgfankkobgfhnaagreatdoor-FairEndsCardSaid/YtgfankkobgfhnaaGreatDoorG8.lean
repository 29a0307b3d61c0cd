/- A part of the proof. -/
import Derived.Test.YtgfankkobgfhnaaGreatDoorG7
import Derived.Test.YtgfankkobgfhnaaGreatDoorG4
set_option linter.all false
open Go Go.Ab
variable {P:Program} {env vs:EU} {x:Operand} {k:Value->Prop} {t:TypeId} {o:Oper} {Q q:Value->AH->Prop} {op:Op} {M b d i m n:Nat} {lv p:EW} {v:Value} {all:List Oper} {g:List (Nat×Nat)} {es:IJ}
namespace Go.Ab
variable {fs:Array Field} {dst:Option Tmp} {id num:Nat} {ops:Array Oper} {ps:Array Tmp} {st:LoopState}
noncomputable section
variable {K:FuncId->EU->IE}
def hA:Unit:=Function.const _ () @Cl
def hB:Unit:=Function.const _ () hA
def hC:Unit:=Function.const _ () hB
def hD:Unit:=Function.const _ () hC
def hE:Unit:=Function.const _ () hD
def hG:Unit:=Function.const _ () hE
def hP (p:Prop):Prop:=(fun _:Unit=>p) hG
def hF:Prop:=hP False
inductive Kn where
 |un|ex|b (x:Bool)|sk|no
abbrev Ek:=List<|Nat×Value×Kn
def Ek.lk:Ek->Nat->Option (Value×Kn)
 |[],_=>none
 |(d,v,k)::a,t=>match Nat.beq d t with
  |true=>(match k with
   |.no=>none
   |k=>some (v,k))
  |false=>Ek.lk a t
def jE (a:Ek) (env:EU):Prop:=∀t v k,a.lk t=some (v,k)->env[t]?=some v/\(∀x,k= .b x->v= .bool x)/\(k= .sk->v=undef)
def aWf (v:Value) (k:Value->Prop):Prop:=match v with
 |.int .i64 n=>k (I n)
 |v=>hP<|k v
def Fq (P:Program) (a:Ek) (x:Operand) (k:Value->Prop):Prop:=match x with
 |.tmp t=>(match a.lk t with
  |some (v,_)=>k v
  |none=>hF)
 |.const v=>(match gV v with
  |true=>aWf v k
  |false=>k top)
 |.global g=>(match Nat.blt g P.globals.size with
  |true=>k (.pointer<|some ⟨g,0,none⟩)
  |false=>k top)
 |.func f=>k<|.func (.func f) #[] #[]
theorem kP {a:Ek} (m:jE a env) (h:Fq P a x k):k (eK P env x):=by
 unfold Fq at h;split at h;split at h;rename_i d;have:=(m _ _ _ d).1;grind[eK];cases h;split at h;rename_i n;simp only[eK,n,ew];unfold aWf at h;split at h<;>exact h;simp_all[eK,aO,dd];split at h;simp_all[o0,eK,ew];rename_i g _ j;have:¬g<P.globals.size:=fun d=>by rw[show Nat.blt g P.globals.size=true from m4 d] at j;cases j
 simpa only[eK,this,dd] using h;exact h
def aP5 (P:Program) (a:Ek) (x:Option Operand) (k:EY->Prop):Prop:=match x with
 |none=>k none
 |some x=>Fq P a x fun v=>k<|some v
def rf {a:Ek} (d:jE a env) {x:Option Operand} {k:EY->Prop} (h:aP5 P a x k):k (x.map<|eK P env):=by
 cases x with
 |none=>exact h
 |some x=>exact kP d h
def lh (P:Program) (a:Ek):List Operand->(EU->Prop)->Prop
 |[],k=>k []
 |x::l,k=>Fq P a x fun v=>lh P a l fun d=>k (v::d)
theorem J2 {a:Ek} {env:EU} (d:jE a env):∀{l:List Operand} {k:EU->Prop},lh P a l k->k (l.map<|eK P env)
 |[],_,h=>h
 |_::l,k,h=>by
  have g:=J2 d<|kP d h;exact g
def fcL {α:Type}:List α->(List α->Prop)->Prop
 |[],k=>hP (k [])
 |v::l,k=>fcL l fun l=>k (v::l)
theorem S6 {α:Type}:∀{l:List α} {k:List α->Prop},fcL l k->k l
 |[],_,h=>h
 |_::l,k,h=>S6 (l:=l) h
def px (P:Program) (t:TypeId) (k:Nat->Prop):Prop:=match P.info? t with
 |some ⟨_,_,n,_,_,_,_,_,_,_⟩=>k n
 |none=>hF
theorem Bw {k:Nat->Prop} (h:px P t k):(P.info? t).isSome=true/\k (P.cellsOf t):=by
 unfold px at h;split at h;grind[Program.cellsOf];cases h
def Ty (P:Program) (a:Ek) (place:Nat->(Nat->Nat->Prop)->Prop):List (Nat×Operand)->(List (Nat×Nat×Value)->Prop)->Prop
 |[],k=>k []
 |(i,x)::rest,k=>place i fun d size=>Fq P a x fun v=>Ty P a place rest fun l=>k ((d,size,v)::l)
theorem K6 {a:Ek} {env:EU} (d:jE a env) {place:Nat->(Nat->Nat->Prop)->Prop} {pl:Nat->Option (Nat×Nat)} (g:∀i k,place i k->∃o s,pl i=some (o,s)/\k o s):
  ∀{l:List (Nat×Operand)} {k:List (Nat×Nat×Value)->Prop},Ty P a place l k->∃r,Dz pl (eK P env) l=some r/\k r
 |[],_,h=>⟨_,rfl,h⟩
 |(i,x)::rest,_,h=>by
  obtain⟨o,s,m,j⟩:=g _ _ h;obtain⟨r,n,t⟩:=K6 d g<|kP d j;grind[Dz]
def plS (P:Program) (fs:Array Field) (i:Nat) (k:Nat->Nat->Prop):Prop:=match fs[i]? with
 |some ⟨_,t,d,_,_,_,_⟩=>px P t fun n=>k d n
 |none=>hF
def aWd (i:Nat) (k:Nat->Nat->Prop) (h:plS P fs i k):∃o s,((fs[i]?).map fun f=>(f.offset,P.cellsOf f.type))=some (o,s)/\k o s:=by
 unfold plS at h;split at h;rename_i d;exact⟨_,_,by rw[d];rfl,(Bw h).2⟩;cases h
def plA (n:Nat) (i:Nat) (k:Nat->Nat->Prop):Prop:=hP<|k (i*n) n
def wZ (P:Program) (t:TypeId) (k:EU->Prop):Prop:=match sH P t with
 |some z=>fcL z k
 |none=>hF
theorem aC5 {k:EU->Prop} (h:wZ P t k):∃z,sH P t=some z/\k z:=by
 unfold wZ at h;split at h;grind[S6];cases h
def aVg (l:EW):Nat->EW->EW
 |0,acc=>acc
 |n+1,acc=>aVg l n<|l++acc
def kF (P:Program):Nat->TypeId->IT
 |0,_=>none
 |d+1,t=>match P.underlying t with
  |some .bool=>some [1]
  |some (.int _)=>some [0]
  |some .string=>some [2]
  |some (.array n e)=>(match kF P d e with
   |some l=>some (aVg l n [])
   |none=>none)
  |some (.struct g)=>g.toList.foldr (fun f r=>match kF P d f.type,r with
   |some a,some b=>some (a++b)
   |_,_=>none) (some [])
  |_=>none
def kEq:IT->EW->Bool
 |some l,m=>l==m
 |none,_=>false
theorem aQa {o:IT} {l:EW} (h:kEq o l=true):o=some l:=by
 unfold kEq at h;grind
def wB (P:Program) (op:BinOp) (t:TypeId) (x y:Operand) (a b:Value) (q:Value->Prop):Prop:=
 match P.underlying t with
 |some (.int _)=>cE (Be op a b) q
 |some (.pointer _)=>cE (dr op a b) q
 |some (.slice _)=>cE (bf op a b) q
 |some (.interface _)=>(match E9 x||E9 y with
  |true=>cE (dm true op a b) q
  |false=>cE (dm false op a b) q)
 |some (.struct _)|some (.array _ _)=>(match kF P 20 t with
  |some d=>fcL d fun d=>bu (kEq (Qn P t) d) d op a b q
  |none=>hF)
 |_=>hF
theorem aY0 {op:BinOp} {y:Operand} {a b:Value} {q:Value->Prop} (h:wB P op t x y a b q):jq P op t x y a b q cE:=by
 unfold wB at h;unfold jq;split at h;case h_4=>
  grind
 case h_5=>
  rename_i d;split at h;obtain⟨g,h⟩:=S6 h;grind[aQa];cases h
 case h_6=>
  rename_i d;split at h;obtain⟨g,h⟩:=S6 h;grind[aQa];cases h
 all_goals first|(rename_i d;rw[d];exact h)|cases h
def wL (P:Program) (a:Ek) (h:AH) (q:Value->Prop):Op->Prop
 |.move x=>Fq P a x q
 |.assign x=>Fq P a x q
 |.build t g=>wZ P t fun z=>(match P.underlying t with
  |some (.struct o)=>(match o.toList.all (fun f=>(P.info? f.type).isSome) with
   |true=>Ty P a (plS P o) g.toList fun l=>cE (tQ z l) fun c=>q (.agg ⟨c⟩)
   |false=>hF)
  |some (.array _ e)=>px P e fun n=>Ty P a (plA n) g.toList fun l=>cE (tQ z l) fun c=>q (.agg ⟨c⟩)
  |_=>hF)
 |.load t x=>Fq P a x fun x=>(match oB P t with
  |some true=>px P t fun n=>cE (zJ h n x) q
  |some false=>cE (xE h x) q
  |none=>hF)
 |.nilCheck x=>Fq P a x fun x=>cE (tH x) q
 |.binOp op t x y _=>Fq P a x fun u=>Fq P a y fun v=>wB P op t x y u v q
 |.unOp op _ x=>Fq P a x fun x=>cE (py op x) q
 |.makeInterface t x=>Fq P a x fun x=>(match P.underlying t with
  |some (.interface _)=>hF
  |some _=>q (.iface t x)
  |none=>hF)
 |.makeFunc B first d=>(match B with
  |.func f=>lh P a first.toList fun x=>lh P a d.toList fun y=>q (.func (.func f) ⟨x⟩ ⟨y⟩)
  |_=>hF)
 |.slice t x w r A=>Fq P a x fun x=>aP5 P a w fun w=>aP5 P a r fun r=>aP5 P a A fun A=>(match P.underlying t with
  |some (.slice e)=>px P e fun n=>cE (Fs n h x w r A) q
  |_=>hF)
 |.fieldAddr s x f=>Fq P a x fun x=>(match P.underlying s with
  |some (.struct o)=>(match o[f]? with
   |some ⟨_,t,j,_,_,_,_⟩=>px P t fun n=>(match Nat.beq n 0 with
    |true=>hF
    |false=>cE (mC j x) q)
   |none=>hF)
  |_=>hF)
 |.field t x f=>Fq P a x fun x=>(match P.underlying t with
  |some (.struct o)=>(match o[f]? with
   |some ⟨_,t,j,_,_,_,_⟩=>(match oB P t with
    |some true=>px P t fun n=>cE (yE j n x) q
    |some false=>cE (yV j x) q
    |none=>hF)
   |none=>hF)
  |_=>hF)
 |.indexAddr t x i=>Fq P a x fun x=>Fq P a i fun i=>(match P.underlying t with
  |some (.array n e)=>px P e fun m=>cE (vS n m x i) q
  |some (.slice e)=>px P e fun m=>cE (qY m x i) q
  |_=>hF)
 |.index t x i=>Fq P a x fun x=>Fq P a i fun i=>(match P.underlying t with
  |some (.array n e)=>px P e fun m=>(match oB P e with
   |some true=>cE (lz n m x i) q
   |some false=>cE (Xn n m x i) q
   |none=>hF)
  |_=>hF)
 |.extract t i=>Fq P a t fun t=>cE (yM i t) q
 |.lookup t x ix ok=>Fq P a x fun x=>Fq P a ix fun ix=>(match Oq P t with
  |some e=>(match pj P e with
   |some z=>cE (lkV z h x ix ok) q
   |none=>hF)
  |none=>hF)
 |_=>hF
theorem aWt {a:Ek} (g:jE a env) {h:AH} {q:Value->Prop} (d:wL P a h q op):pP P (eK P env) h q op:=by
 unfold wL at d;split at d;case h_1=>exact kP g d
 case h_2=>exact kP g d
 case h_3=>
  obtain⟨z,B,d⟩:=aC5 d;unfold pP;split at d;rename_i n;simp only[n];split at d;rename_i j;rw[Array.all_toList] at j;obtain⟨r,t,u⟩:=K6 g aWd d;grind;cases d;rename_i e n;simp only[n];obtain⟨A,d⟩:=Bw d;obtain⟨r,t,u⟩:=K6 g (fun i k y=>⟨_,_,rfl,y⟩) d;grind;cases d
 case h_4=>
  have d:=kP g d;unfold pP;split at d;rename_i n;simp only[n];exact(Bw d).2;grind;cases d
 case h_5=>exact kP g d
 case h_6=>exact aY0<|kP g<|kP g d
 case h_7=>exact kP g d
 case h_8=>
  have d:=kP g d;unfold pP;split at d;cases d;grind;cases d
 case h_9=>
  unfold pP;split at d;simpa only[List.map_toArray,<-BN] using(J2 g<|J2 g d);cases d
 case h_10=>
  have d:=rf g<|rf g<|rf g<|kP g d;unfold pP;split at d;grind[Bw];cases d
 case h_11=>
  have d:=kP g d;unfold pP;split at d;rename_i m;simp only[m];split at d;rename_i o;simp only[o];obtain⟨_,d⟩:=Bw d;split at d;cases d;rw[bA0 fun e=>GK];exact d;cases d;cases d
 case h_12=>
  have d:=kP g d;unfold pP;split at d;rename_i m;simp only[m];split at d;rename_i o;simp only[o];split at d;rename_i w;simp only[w];exact(Bw d).2;grind;cases d;cases d;cases d
 case h_13=>
  have d:=kP g<|kP g d;unfold pP;split at d;grind[Bw];grind[Bw];cases d
 case h_14=>
  have d:=kP g<|kP g d;unfold pP;split at d;rename_i m;obtain⟨t,d⟩:=Bw d;split at d;grind;grind;cases d;cases d
 case h_15=>exact kP g d
 case h_16=>
  have d:=kP g<|kP g d;unfold pP;split at d;rename_i m;split at d;grind;cases d;cases d
 case h_17=>cases d
def isI (v:Value) (p:Prop):Prop:=∃k n,v= .int k n/\p
def aVz {n:Int} {p:Prop} (d:p):isI (I n) p:=⟨_,n,rfl,d⟩
def aZ0:EW:=[0,1,2,3,4,5,6,7,8,9,10,11,12,13,14,15,16,17,18,19,20,21,22,23,24,25,26,27,28,29,30,31,32,33,34,35,36,37,38,39,40,41,42,43,44,45,46,47,48,49,50,51,52,53,54,55,56,57,58,59,60,61,62,63,64,65,66,67,68,69,70,71,72,73,74,75,76,77,78,79,80,81,82,83,84,85,86,87,88,89,90,91,92,93,94,95,96,97,98,99]
def nK (n:Nat) (k:Nat->Prop):Prop:=match aZ0[n]? with
 |some m=>(match Nat.beq m n with
  |true=>k m
  |false=>hF)
 |none=>k n
theorem aJb {k:Nat->Prop} (h:nK n k):k n:=by
 unfold nK at h;split at h;split at h;simp_all;cases h;exact h
def bzW (P:Program) (t:TypeId) (k:Nat->Prop):Prop:=match P.info? t with
 |some ⟨_,_,_,n,_,_,_,_,_,_⟩=>k n
 |none=>hF
theorem aQd {k:Nat->Prop} (h:bzW P t k):k (P.bytesOf t):=by
 unfold bzW at h;split at h;grind[Program.bytesOf];cases h
def wBI (P:Program) (h:AH) (q:Value->AH->Prop) (g:Array TypeId):Builtin->EU->Prop
 |.len,[x]=>match(g[0]?).bind P.underlying with
  |some (.slice _)=>cE (pR x) fun v=>q v h
  |some (.array n _)=>q (I n) h
  |some (.map _ _)=>cE (aEf h x) fun v=>q v h
  |_=>hF
 |.append,[s,x]=>match(g[0]?).bind P.underlying with
  |some (.slice e)=>(match Q9 P g with
   |true=>wZ P e fun _=>px P e fun n=>bzW P e fun m=>cE (oL n m e h s x) fun r=>(match r with|(v,d)=>q v d)
   |false=>hF)
  |_=>hF
 |.clear,[x]=>match(g[0]?).bind P.underlying with
  |some (.slice e)=>wZ P e fun z=>cE (nR z h x) fun r=>(match r with|(v,d)=>q v d)
  |_=>hF
 |.min,[x,y]=>cE (Hj x y) fun v=>q v h
 |.delete,[m,k]=>(match g[0]? with
  |some t=>(match Oq P t with
   |some _=>cE (Xd h m k) fun d=>q (.tuple #[]) d
   |none=>hF)
  |none=>hF)
 |_,_=>hF
theorem aQ3 {h:AH} {j:Array TypeId} {b:Builtin} {l:EU} (d:wBI P h q j b l):C1 P h q j b l:=by
 unfold wBI at d;unfold C1;split at d;split at d<;>(rename_i g;simp only[g];exact d);split at d;rename_i g;simp only[g];split at d;obtain⟨z,m,d⟩:=aC5 d;rw[bA1 FB];exact aQd<|(Bw d).2;cases d;cases d;split at d;grind[aC5];cases d;exact d;split at d;rename_i g;split at d;grind;cases d;cases d;cases d
def wH (P:Program) (K:FuncId->EU->IE) (a:Ek) (h:AH) (q:Value->AH->Prop):Op->Prop
 |.store t p x=>px P t fun n=>Fq P a p fun p=>Fq P a x fun x=>cE (Ba h n p x) fun d=>q undef d
 |.call c=>(match c.callee with
  |.builtin b=>lh P a c.args.toList fun l=>wBI P h q c.argTypes b l
  |.value (.func g)=>(match lU P g with
   |true=>lh P a c.args.toList fun l=>Cl P K g l h q
   |false=>hF)
  |.value f=>Fq P a f fun f=>lh P a c.args.toList fun l=>E5 P K f l h q
  |.invoke _ _=>hF)
 |.mapUpdate t m k x=>(match Oq P t with
  |some _=>Fq P a m fun m=>Fq P a k fun k=>Fq P a x fun x=>cE (Xz h m k x) fun d=>q undef d
  |none=>hF)
 |_=>hF
theorem aRj {a:Ek} (g:jE a env) {h:AH} (d:wH P K a h q op):Ij P K (eK P env) h q op:=by
 unfold wH at d;unfold Ij;split at d;obtain⟨n,d⟩:=Bw d;grind[kP];split at d;grind[aQ3,J2];rename_i j;simp only[j];split at d;rename_i m;simp only[m,ew];exact J2 g d;cases d;grind[J2,kP];cases d;split at d;grind[kP];cases d;cases d
def wA (P:Program) (a:Ek) (mk:vQ->(Nat->AH->Prop)->Prop) (Qe:Nat->TypeId->EU->Nat->Nat->(Value->AH->Prop)->Prop) (q:Value->AH->Prop):Op->Prop
 |.alloc e=>wZ P e fun z=>mk (.cells z e (0,0) true) fun p d=>q (IV p) d
 |.box e x=>Fq P a x fun x=>cE (rE e x) fun b=>mk b fun p d=>q (IV p) d
 |.buildSlice t len g=>match P.underlying t with
  |some (.slice e)=>wZ P e fun z=>px P e fun n=>(match Nat.ble (len*n) 16777216 with
   |true=>Ty P a (plA n) g.toList fun j=>fcL (iE z len) fun zs=>cE (tQ zs j) fun l=>Qe n e l len len q
   |false=>hF)
  |_=>hF
 |.makeSlice t l c=>match P.underlying t with
  |some (.slice e)=>wZ P e fun z=>px P e fun n=>bzW P e fun m=>Fq P a l fun l=>Fq P a c fun c=>cE (aYi m l c) fun r=>Qe n e (iE z r.2) r.1 r.2 q
  |_=>hF
 |.makeMap _ none=>mk (.map [] 0) fun p d=>q (lE p) d
 |.makeMap t (some x)=>match P.underlying t with
  |some (.map _ _)=>Fq P a x fun x=>isI x (mk (.map [] 0) fun p d=>q (lE p) d)
  |_=>hF
 |_=>hF
where aYi:=Go.Ab.Qe
theorem aV5 {a:Ek} (g:jE a env) {mk:vQ->(Nat->AH->Prop)->Prop} {Qe:Nat->TypeId->EU->Nat->Nat->(Value->AH->Prop)->Prop}
  (y:∀W e l n c k,Qe W e l n c k->mk (.cells l e (0,0) true) fun p o=>k (aKs n c p) o) (d:wA P a mk Qe q op):
  Iy P (eK P env) (fun b f=>mk b fun i o=>q (f i) o) op:=by
 unfold wA at d
 unfold Iy
 split at d
 .obtain⟨z,j,d⟩:=aC5 d;simp only[j];exact d
 .exact kP g d
 .split at d
  .rename_i m;simp only[m];obtain⟨z,j,d⟩:=aC5 d;obtain⟨_,d⟩:=Bw d;simp only[j];split at d
   .rename_i u;rw[bA1<|o0 u];obtain⟨r,t,d⟩:=K6 g (fun i k w=>⟨_,_,rfl,w⟩) d;simp only[t];exact(S6 d).mono FB
   .cases d
  .cases d
 .split at d
  .rename_i m;simp only[m];obtain⟨z,j,d⟩:=aC5 d;simp only[j];exact(kP g<|kP g<|aQd<|(Bw d).2).mono FB
  .cases d
 .exact d
 .split at d
  .rename_i m;obtain⟨k,n,t,d⟩:=kP g d;grind
  .cases d
 .cases d
theorem jE.cons {a:Ek} (o:jE a env) {k:Kn} (w:d<env.length) (hb:∀x,k= .b x->v= .bool x) (y:k= .sk->v=undef):jE ((d,v,k)::a) (env.set d v):=by
 intro t u j g;unfold Ek.lk at g;split at g;grind[Nat.eq_of_beq_eq_true];obtain⟨m,n⟩:=o t u j g;refine⟨?_,n⟩;rw[List.getElem?_set_ne fun r=>GK];exact m
theorem jE.aUz {a:Ek} (g:jE a env) {k k':Kn} (m:a.lk d=some (v,k)) {b:Bool} (n:v= .bool b):jE ((d,.bool b,.b b)::a) env:=by
 intro t u j h;unfold Ek.lk at h;split at h;rename_i e;have:=ri e;subst this;cases h;exact⟨by rw[<-n];exact(g _ _ _ m).1,fun x o=>FB,FB⟩;exact g t u j h
def bc (n:Nat) (a:Ek) (d:Option Tmp) (v:Value) (k:Kn) (q:Ek->Prop):Prop:=match d with
 |none=>q a
 |some d=>(match Nat.blt d n with
  |true=>q ((d,v,k)::a)
  |false=>hF)
theorem yO {a:Ek} (r:jE a env) (m:env.length=n) {d:Option Tmp} {k:Kn} {q:Ek->Prop} (hb:∀x,k= .b x->v= .bool x) (t:k= .sk->v=undef) (g:bc n a d v k q):
  ∃o,jE o (pF env d v)/\(pF env d v).length=n/\q o:=by
 unfold bc at g
 split at g
 .exact⟨a,r,m,g⟩
 .split at g
  .rename_i j;exact⟨_,r.cons (m.symm▸(o0 j)) hb t,by simp[pF,m],g⟩
  .cases g
def wG (vT:Nat->Option Tmp) (a:Ek) (g:Option (Nat×Bool)) (p s:Ek->Prop):Prop:=match g with
 |none=>p a
 |some (j,fV)=>match vT j with
  |none=>hF
  |some d=>match a.lk d with
   |some (_,.b x)=>(match x,fV with
    |true,true=>p a
    |false,false=>p a
    |_,_=>s a)
   |some (_,.sk)=>s a
   |some (v,_)=>(match fV with
    |true=>Br v (p ((d,.bool true,.b true)::a)) (s ((d,.bool false,.b false)::a))
    |false=>Br v (s ((d,.bool true,.b true)::a))<|p ((d,.bool false,.b false)::a))
   |none=>hF
theorem aVr {all:Array Oper} {a:Ek} (n:jE a env) {p s:Ek->Prop} (g:wG (fun j=>(all[j]?).bind (·.dst)) a o.guard p s):
  ∃t,jE t env/\((gR all env o=some true/\p t)\/(gR all env o=some false/\s t)):=by
 unfold wG at g
 unfold gR
 split at g
 .grind
 .rename_i j fV A;rw[A];simp only;split at g
  .cases g
  .rename_i d m;replace m:(all[j]?).bind _=some d:=m;rw[m];simp only[u4];split at g
   .rename_i x r;obtain⟨u,w,_⟩:=n _ _ _ r;have:=w x rfl;split at g
    .grind
    .grind
    .refine⟨a,n,.inr ⟨?_,g⟩⟩;cases x<;>cases fV<;>grind
   .rename_i r;obtain⟨u,_,w⟩:=n _ _ _ r;have:=w rfl;subst this;rw[u];exact⟨a,n,.inr ⟨rfl,g⟩⟩
   .rename_i v k _ _ r;have u:=(n _ _ _ r).1;split at g
    .obtain⟨b,y,B,z⟩:=g;refine⟨_,n.aUz (k':= .un) r y,?_⟩;cases b with
     |true=>grind
     |false=>grind
    .obtain⟨b,y,B,z⟩:=g;refine⟨_,n.aUz (k':= .un) r y,?_⟩;cases b with
     |true=>grind
     |false=>grind
   .cases g
def aAl (a:Ek) (op:Op):Option Operand:=match op with
 |.pick (.tmp c) x y=>(match a.lk c with
  |some (_,.b true)=>some x
  |some (_,.b false)=>some y
  |_=>none)
 |.move x=>some x
 |.assign x=>some x
 |_=>none
def aA3 {a:Ek} (n:jE a env) (h:aAl a op=some x):fR op= .G1/\∀j,dQ P (eK P env) j op=some (eK P env x):=by
 unfold aAl at h;split at h;split at h;rename_i m;cases h;obtain⟨d,g,_⟩:=n _ _ _ m;exact⟨rfl,fun j=>by simp[dQ,eK,aP,d,g true rfl]⟩;rename_i m;cases h;obtain⟨d,g,_⟩:=n _ _ _ m;exact⟨rfl,fun j=>by simp[dQ,eK,aP,d,g false rfl]⟩;cases h;cases h;exact⟨rfl,fun _=>rfl⟩;cases h;exact⟨rfl,fun _=>rfl⟩;cases h
def knW (a:Ek) (x:Operand):Kn:=match x with
 |.const (.bool y)=> .b y
 |.tmp t=>(match a.lk t with
  |some (_,.b y)=> .b y
  |_=> .un)
 |_=> .un
theorem aEv {a:Ek} (d:jE a env):(∀y,knW a x= .b y->eK P env x= .bool y)/\knW a x≠.sk:=by
 unfold knW;split;grind[eK,gV];split;rename_i g;obtain⟨j,m,_⟩:=d _ _ _ g;grind[eK];grind;grind
def aIs (M:Nat) (op:Op) (d:Option Tmp) (q:Kn->Prop):Prop:=match op,d with
 |.assign _,_=>hP (q .un)
 |_,some d=>(match Nat.beq (Nat.land (Nat.shiftRight M d) 1) 1 with
  |true=>q .un
  |false=>q .ex)
 |_,none=>q .un
theorem tn {d:Option Tmp} {q:Kn->Prop} (h:aIs M op d q):q .un\/q .ex:=by
 unfold aIs at h;split at h;exact .inl h;grind;grind
def wKn (M:Nat) (op:Op) (d:Option Tmp) (a:Ek) (x:Operand) (q:Kn->Prop):Prop:=match knW a x with
 |.b y=>q (.b y)
 |_=>aIs M op d q
theorem aQe {d:Option Tmp} {a:Ek} {q:Kn->Prop} (h:wKn M op d a x q):(∃y,knW a x= .b y/\q (.b y))\/q .un\/q .ex:=by
 grind[wKn,tn]
def ups:Op->List Operand
 |.move x|.assign x|.load _ x|.nilCheck x|.unOp _ _ x|.convert _ _ x|.fieldAddr _ x _|.field _ x _|.box _ x=>[x]
 |.store _ x y|.binOp _ _ x y _|.indexAddr _ x y|.index _ x y=>[x,y]
 |.slice _ x g d j=>x::(g.toList++(d.toList++j.toList))
 |.call c=>c.args.toList
 |_=>[]
def rmK (t:Nat):Ek->(Ek->Prop)->Prop
 |[],q=>hP (q [])
 |(d,v,k)::a,q=>(match Nat.beq d t with
  |true=>(match k with
   |.ex=>q ((d,undef,.no)::a)
   |k=>q ((d,v,k)::a))
  |false=>rmK t a fun a=>q ((d,v,k)::a))
theorem aPz {t:Nat}:∀{a:Ek} {q:Ek->Prop},rmK t a q->∃d,(∀x r,Ek.lk d x=some r->a.lk x=some r)/\q d
 |[],_,h=>⟨_,fun _ _ h=>h,h⟩
 |(n,v,k)::a,q,h=>by
  unfold rmK at h;split at h;grind[Ek.lk];obtain⟨a1,m,g⟩:=aPz h;refine⟨_,fun x r j=>?_,g⟩;unfold Ek.lk at j ⊢;grind
def aEa:List Operand->Ek->(Ek->Prop)->Prop
 |[],a,q=>hP (q a)
 |x::l,a,q=>(match x with
  |.tmp t=>rmK t a fun a=>aEa l a q
  |_=>aEa l a q)
def Yf {env:EU}:∀{l:List Operand} {a:Ek} {q:Ek->Prop},jE a env->aEa l a q->∃g,jE g env/\q g
 |[],a,_,d,h=>⟨a,d,h⟩
 |x::l,a,q,d,h=>by
  unfold aEa at h;split at h;obtain⟨a1,j,m⟩:=aPz h;exact Yf (fun t v k n=>d t v k<|j _ _ n) m;exact Yf (l:=l) d h
def wOp (P:Program) (K:FuncId->EU->IE) (a:Ek) (h:AH) (q:Value->AH->Prop) (op:Op):Prop:=match fR op with
 |.G1=>wL P a h (fun v=>q v h) op
 |.alloc=>wA P a (K1 h) (D9 h) q op
 |.store=>wH P K a h q op
 |.call=>wH P K a h q op
 |.Jr=>hF
def aPk {a:Ek} (g:jE a env) {h:AH} (d:wOp P K a h q op):∃n v j,uL P (run P K n) env h op=some (v,j)/\q v j:=by
 refine ui ?_;unfold wOp at d;unfold aPa;split at d<;>(rename_i o;simp only[o]);exact aWt g d;exact aV5 g (fun W e l n c k m=>m) d;exact aRj g d;exact aRj g d;exact d
def aRv (P:Program) (K:FuncId->EU->IE) (M n:Nat) (vT:Nat->Option Tmp) (o:Oper) (d:Ek->AH->(Ek->AH->Prop)->Prop) (a:Ek) (h:AH) (q:Ek->AH->Prop):Prop:=match o with
 |⟨dst,op,_,_,_,guard⟩=>wG vT a guard
  (fun a=>aEa (ups op) a fun g=>(match aAl a op with
   |some x=>wKn M op dst a x fun k=>Fq P a x fun v=>bc n g dst v k fun a=>d a h q
   |none=>aIs M op dst fun k=>wOp P K a h (fun v j=>bc n g dst v k fun a=>d a j q) op))
  (fun a=>bc n a dst undef .sk fun a=>d a h q)
def aM8 (P:Program) (K:FuncId->EU->IE) (M n:Nat) (vT:Nat->Option Tmp) (os:List Oper):Ek->AH->(Ek->AH->Prop)->Prop:=
 List.rec (fun a h q=>q a h) (fun o _ d=>aRv P K M n vT o d) os
theorem aX5 {a a':Ek} {q:Ek->Prop} (g:jE a env) (d:jE a' env) (m:env.length=n) (hb:wKn M op dst a x fun k=>Fq P a x fun v=>bc n a' dst v k q):
  ∃j,jE j (pF env dst<|eK P env x)/\(pF env dst<|eK P env x).length=n/\q j:=by
 obtain⟨r,_⟩:=aEv (P:=P) (x:=x) g
 rcases aQe hb with⟨y,o,hb⟩|hb|hb
 .grind[yO,kP]
 .exact yO d m FB FB (kP g hb)
 .exact yO d m FB FB (kP g hb)
theorem qi {M n:Nat} {all:Array Oper}:∀{os:List Oper} {a:Ek} {env:EU} {h:AH} {q:Ek->AH->Prop},jE a env->env.length=n->aM8 P K M n (fun j=>(all[j]?).bind (·.dst)) os a h q->
  ∃m o z u,run P K m (.ops all os env) h=some (o,z)/\jE u o.env/\o.env.length=n/\q u z
 |[],a,env,h,q,J,A,I=>⟨1,_,h,a,rfl,J,A,I⟩
 |o::os,a,env,h,q,J,A,I=>by
  change aRv P K M n _ o (aM8 P K M n _ os) a h q at I;unfold aRv at I;obtain⟨a1,d,hb⟩:=aVr J I;rcases hb with⟨g,hb⟩|⟨g,hb⟩;obtain⟨u,w,hb⟩:=Yf d hb;obtain⟨n1,v,B,r,T,N,O,y⟩:∃n1 v B r,uL P (run P K n1) env h o.op=some (v,B)/\jE r (pF env o.dst v)/\(pF env o.dst v).length=n/\aM8 P K M n _ os r B q:=by
   split at hb;rename_i x X;obtain⟨Y,Z⟩:=aA3 (P:=P) d X;obtain⟨r,C,D,E⟩:=aX5 d w A hb;exact⟨0,_,h,r,by grind[uL],C,D,E⟩;rcases tn hb with hb|hb;obtain⟨n1,v,B,T,Q⟩:=aPk d hb;obtain⟨r,C,D,E⟩:=yO w A FB FB Q;grind;obtain⟨n1,v,B,T,Q⟩:=aPk d hb;obtain⟨r,C,D,E⟩:=yO w A FB FB Q;grind
  obtain⟨U,out,z,u,V,S⟩:=qi N O y;refine⟨max n1 U+1,out,z,u,?_,S⟩;show Cg P _ all _ env h=_;simp only[Cg,g];rw[show(fun t h=>run P K _ t h)=run P K _ from rfl,W8 (pY FA) T];exact pY FA _ _ _ V;obtain⟨r,C,D,E⟩:=yO d A FB (fun _=>rfl) hb;obtain⟨U,out,z,u,V,S⟩:=qi C D E;refine⟨U+1,out,z,u,?_,S⟩;show Cg P _ all _ env h=_;grind[Cg]
def wLV (P:Program) (a:Ek) (h:AH) (q:Value->Prop):Op->Prop
 |.call c=>(match c.callee with
  |.builtin b=>(match wO b with
   |true=>lh P a c.args.toList fun l=>wBI P h (fun v _=>q v) c.argTypes b l
   |false=>hF)
  |_=>hF)
 |op=>wL P a h q op
theorem aQ7 {a:Ek} (m:jE a env) {h:AH} {q:Value->Prop} (d:wLV P a h q op):mW op=true/\∃v,hZ P (eK P env) h op=some v/\q v:=by
 unfold wLV at d;split at d;split at d;split at d;obtain⟨v,n,g,j⟩:=Fh<|aQ3<|J2 m d;simp_all[mW,hZ,ew];cases d;cases d;obtain⟨o,v,g,j⟩:=Jk<|aWt m d;refine⟨?_,v,?_,j⟩;grind[mW,fR];cases op<;>first|exact g|grind
structure WR where
 a:Ek
 h:AH
 v:Value
 ran:Bool
abbrev IH:=List WR
def wDO (P:Program) (K:FuncId->EU->IE) (i r:Nat) (a:Ek) (h:AH) (q:Value->AH->Prop) (op:Op):Prop:=
 match mW op with
 |true=>wLV P a h (fun v=>q v h) op
 |false=>(match fR op with
  |.alloc=>(match i with
   |0=>wA P a (sO h r) (sF h r) q op
   |i=>wA P a (sO h<|r+i) (sF h<|r+i) q op)
  |_=>wH P K a h q op)
theorem aPn {r:Nat} {a:Ek} (w:jE a env) {h:AH} (d:gR ⟨all⟩ env o=some true) (t:wDO P K i r a h q o.op):
  ∃n v m,lA P (run P K n) all r i env h o=some (v,m)/\q v m:=by
 unfold wDO at t
 unfold lA
 simp only[d]
 split at t
 .obtain⟨_,v,y,u⟩:=aQ7 w t;exact⟨0,v,h,FB,u⟩
 .split at t
  .have B:∀{j:Nat},wA P a (sO h j) (sF h j) q o.op->j=r+i->∃n v m,lA P (run P K n) all r i env h o=some (v,m)/\q v m:=by
    intro j A e;subst e;obtain⟨_,b,f,y,u⟩:=Jf<|aV5 w (fun W e l n c k z=>z) A;exact⟨0,_,_,by grind[lA],u⟩
   grind[lA]
  .obtain⟨C,n,v,m,y,u⟩:=Cj (fun g=>rfl)<|aRj w t;grind
def jl:List (Nat×Nat)->Nat->Bool
 |[],_=>false
 |(a,_)::l,i=>(match Nat.beq a i with
  |true=>true
  |false=>jl l i)
def wMd (d:List (Nat×Nat)) (i:Nat) (a:Ek) (rs:IH) (k:(AH->Value->Bool->(IH->Prop)->Prop)->Prop):Prop:=match d with
 |[]=>hP (k fun _ _ _ q=>q rs)
 |d=>(match jl d i with
  |true=>k fun h v r q=>q (⟨a,h,v,r⟩::rs)
  |false=>k fun h _ _ q=>q (⟨[],h,undef,true⟩::rs))
def Rl (d:List (Nat×Nat)):IH->IH->Prop
 |[],[]=>True
 |x::g,y::gs=>(x=y\/jl d gs.length=false/\x.h=y.h)/\Rl d g gs
 |_,_=>False
theorem aPt {a:Ek} {rs gs:IH} {k:(AH->Value->Bool->(IH->Prop)->Prop)->Prop} (o:gs.length=i) (n:g≠[]->Rl g rs gs) (d:wMd g i a rs k):
  ∃R,k R/\∀h v r q,R h v r q->∃j,(g≠[]->Rl g j (⟨a,h,v,r⟩::gs))/\q j:=by
 unfold wMd at d
 split at d
 .exact⟨_,d,FB⟩
 .split at d
  .exact⟨_,d,fun h v r q m=>⟨⟨a,h,v,r⟩::rs,fun e=>⟨.inl rfl,n e⟩,m⟩⟩
  .exact⟨_,d,fun h v r q m=>⟨⟨[],h,_,true⟩::rs,fun e=>⟨.inr ⟨FB,rfl⟩,n e⟩,m⟩⟩
theorem aF2 {d:List (Nat×Nat)}:∀{rs gs:IH},Rl d rs gs->rs.length=gs.length/\∀(j:Nat) (x y:WR),rs.reverse[j]?=some x->gs.reverse[j]?=some y->x=y\/jl d j=false/\x.h=y.h
 |[],[],_=>FB
 |x::rs,y::gs,h=>by
  obtain⟨m,g⟩:=h;obtain⟨n,o⟩:=aF2 g;grind
def wDF (P:Program) (K:FuncId->EU->IE) (M n:Nat) (vT:Nat->Option Tmp) (r:Nat) (m:List (Nat×Nat)) (o:Oper) (g:Nat->Ek->AH->IH->(IH->Ek->AH->Prop)->Prop) (i:Nat) (a:Ek) (h:AH) (rs:IH) (q:IH->Ek->AH->Prop):Prop:=match o with
 |⟨dst,op,_,_,_,guard⟩=>nK (i+1) fun j=>wG vT a guard
  (fun a=>wMd m i a rs fun R=>aEa (ups op) a fun d=>(match aAl a op with
   |some x=>wKn M op dst a x fun k=>Fq P a x fun v=>bc n d dst v k fun d=>R h v true fun rs=>g j d h rs q
   |none=>aIs M op dst fun k=>wDO P K i r a h (fun v t=>bc n d dst v k fun d=>R h v true fun rs=>g j d t rs q) op))
  (fun a=>wMd m i a rs fun R=>bc n a dst undef .sk fun d=>R h undef false fun rs=>g j d h rs q)
def wDT (P:Program) (K:FuncId->EU->IE) (M n:Nat) (vT:Nat->Option Tmp) (r:Nat) (d:List (Nat×Nat)) (os:List Oper):Nat->Ek->AH->IH->(IH->Ek->AH->Prop)->Prop:=
 List.rec (fun _ a h j q=>q j a h) (fun o _ g=>wDF P K M n vT r d o g) os
def z6 (all:List Oper) (rs:IH) (es:IJ):Prop:=rs.length=es.length/\∀(i:Nat) (o:Oper) (x:WR) (e:EU),all[i]?=some o->rs[i]?=some x->es[i]?=some e->jE x.a e/\gR ⟨all⟩ e o=some x.ran
theorem z6.aKx {rs:IH} (j:z6 all rs es) {x:WR} {e:EU} (t:all[rs.length]?=some o) (y:jE x.a e) (z:gR ⟨all⟩ e o=some x.ran):z6 all (rs++[x]) (es++[e]):=by
 refine⟨by simp[j.1],fun i u w r d n m=>?_⟩;rcases Nat.lt_trichotomy i rs.length with g|g|g;rw[q5 g] at n;rw[q5<|j.1▸g] at m;exact j.2 i u w r d n m;subst g;rw[t] at d;cases d;simp at n;rw[j.1] at m;grind;grind
theorem xz {M n:Nat} {all:List Oper} {r:Nat} {D:List (Nat×Nat)}:∀{os:List Oper} {i:Nat} {a:Ek} {env:EU} {h:AH} {rs gs:IH} {es:IJ} {q:IH->Ek->AH->Prop},jE a env->env.length=n->gs.length=i->(∀j,all[i+j]?=os[j]?)->z6 all gs.reverse es->(D≠[]->Rl D rs gs)->
  wDT P K M n (fun j=>((⟨all⟩:Array Oper)[j]?).bind (·.dst)) r D os i a h rs q->
  ∃m A B e h' V,mT P (run P K m) all r i os env h=some (List.zipWith (fun x e=>⟨e,x.h,x.v⟩) A B,e,h')/\A.length=B.length/\z6 all (gs.reverse++A) (es++B)/\jE V e/\e.length=n/\∃t,(D≠[]->Rl D t (A.reverse++gs))/\q t V h'
 |[],i,a,env,h,rs,gs,es,q,ha,S,_,_,γ,hg,U=>⟨0,[],[],env,h,a,rfl,rfl,FB,ha,S,rs,FB,U⟩
 |o::os,i,a,env,h,rs,gs,es,q,ha,S,w,Q,γ,hg,U=>by
  have U:wDF P K M n _ r D o (wDT P K M n _ r D os) i a h rs q:=U;unfold wDF at U;have U:=aJb U;obtain⟨a1,g,hb⟩:=aVr ha U;have ho:all[gs.reverse.length]?=some o:=by have:=Q 0;rw[List.length_reverse,w];simpa using this
  have N:∀j,all[i+1+j]?=os[j]?:=fun j=>by
   have:=Q<|j+1;grind
  rcases hb with⟨d,hb⟩|⟨d,hb⟩;obtain⟨R,hb,hR⟩:=aPt w hg hb;obtain⟨n1,v,O,u,hs,ε,ζ,t,Y,δ⟩:∃n1 v O u,lA P _ all r i env h o=some (v,O)/\jE u _/\(pF env o.dst v).length=n/\
    ∃t,(D≠[]->Rl D t _)/\wDT P K M n _ r D os _ u O t q:=by
   obtain⟨V,J,hb⟩:=Yf g hb
   split at hb
   .rename_i x hx;obtain⟨hk,hl⟩:=aA3 (P:=P) g hx;have η:mW o.op=true:=by
     cases hop:o.op<;>rw[hop] at hk<;>first|grind[mW,fR]|grind[fR]
    have θ:hZ P (eK P env) h o.op=some (eK P env x):=by
     have:=hl h;cases hop:o.op<;>rw[hop] at hk this<;>first|exact this|grind[fR]
    have sY:∀{u:Ek} {v:Value},v=eK P env x->jE u (pF env o.dst<|eK P env x)->(pF env o.dst<|eK P env x).length=n->R h v true (fun rs=>wDT P K M n (fun j=>((⟨all⟩:Array Oper)[j]?).bind (·.dst)) r D os (i+1) u h rs q)->
      ∃n1 v O u,lA P (run P K n1) all r i env h o=some (v,O)/\jE u (pF env o.dst v)/\(pF env o.dst v).length=n/\∃t,(D≠[]->Rl D t (⟨a1,h,v,true⟩::gs))/\wDT P K M n (fun j=>((⟨all⟩:Array Oper)[j]?).bind (·.dst)) r D os (i+1) u O t q:=by
     intro u v e E I C
     subst e
     exact⟨0,_,h,u,by grind[lA],E,I,hR _ _ _ _ C⟩
    obtain⟨k1,_⟩:=aEv (P:=P) (x:=x) g
    rcases aQe hb with⟨y,hy,hb⟩|hb|hb
    .have hb:=kP g hb;obtain⟨u,E,I,C⟩:=yO J S (fun z e=>FB) FB hb;exact sY rfl E I C
    .obtain⟨u,E,I,C⟩:=yO J S FB FB<|kP g hb;exact sY rfl E I C
    .obtain⟨u,E,I,C⟩:=yO J S FB FB<|kP g hb;exact sY rfl E I C
   .rcases tn hb with hb|hb
    .obtain⟨n1,v,O,hs,hp⟩:=aPn g d hb;obtain⟨u,E,I,C⟩:=yO J S FB FB hp;exact⟨n1,v,O,u,hs,E,I,hR _ _ _ _ C⟩
    .obtain⟨n1,v,O,hs,hp⟩:=aPn g d hb;obtain⟨u,E,I,C⟩:=yO J S FB FB hp;exact⟨n1,v,O,u,hs,E,I,hR _ _ _ _ C⟩
  obtain⟨n2,A,B,e,h',V,hr,Z,T,X,β,hq⟩:=xz ε ζ (by simp[w]) N (by rw[EB];exact γ.aKx ho g d) Y δ;refine⟨max n1 n2,⟨a1,h,v,true⟩::A,env::B,e,h',V,?_,by simp[Z],FB,X,β,FB⟩;simp only[mT,Pn (pY<|Nat.le_max_left n1 n2) hs,G8 (pY<|Nat.le_max_right n1 n2) _ hr];rfl;obtain⟨R,hb,hR⟩:=aPt w hg hb;obtain⟨u,E,I,C⟩:=yO g S FB (fun _=>rfl) hb;obtain⟨t,Y,C⟩:=hR _ _ _ _ C;obtain⟨n2,A,B,e,h',V,hr,Z,T,X,β,hq⟩:=xz E I (by simp[w]) N (by rw[EB];exact γ.aKx ho g d) Y C;refine⟨n2,⟨a1,h,_,_⟩::A,env::B,e,h',V,?_,by simp[Z],by simpa using T,X,β,FB⟩;have hs:lA P (run P K n2) all r i env h o=some (undef,h):=by simp only[lA,d]
  simp_all[mT]
def aBb (P:Program) (all:List Oper) (rs:IH) (hEnd:AH) (x:Nat×Nat) (d:Prop->Prop) (p:Prop):Prop:=match x with
 |(i,s)=>(match all[i]?,rs[i]? with
  |some o,some ⟨a,_,v,true⟩=>(match rs[s]? with
   |some ⟨_,h,_,_⟩=>wLV P a h (fun x=>uG x v=true) o.op/\d p
   |none=>wLV P a hEnd (fun x=>uG x v=true) o.op/\d p)
  |some _,some ⟨_,_,_,false⟩=>d p
  |_,_=>hF)
def wFl (P:Program) (all:List Oper) (rs:IH) (hEnd:AH) (fs:List (Nat×Nat)):Prop->Prop:=List.rec (fun p=>p) (fun x _ d=>aBb P all rs hEnd x d) fs
theorem aFc {all:List Oper} {rs:IH} {es:IJ} {hEnd:AH} (d:z6 all rs es) {p:Prop}:∀{fs:List (Nat×Nat)},wFl P all rs hEnd fs p->(fs.all (Ir P all (List.zipWith (fun x e=>⟨e,x.h,x.v⟩) rs es) hEnd)=true)/\p
 |[],g=>⟨rfl,g⟩
 |(i,s)::fs,g=>by
  change aBb P all rs hEnd (i,s) (wFl P all rs hEnd fs) p at g;unfold aBb at g;simp only at g;have C:∀{j:Nat} {x:WR},rs[j]?=some x->∃e,es[j]?=some e/\(List.zipWith (fun x e=>(⟨e,x.h,x.v⟩:Rec)) rs es)[j]?=some ⟨e,x.h,x.v⟩:=by
   intro j x n;have J:j<es.length:=by rw[<-d.1];exact FB
   exact⟨es[j],by simp[J],FB⟩
  split at g;rename_i o a h v w n;obtain⟨e,t,y⟩:=C n;obtain⟨B,m⟩:=d.2 i o _ e w n t;have sY:∀{r:AH},(match(List.zipWith (fun x e=>(⟨e,x.h,x.v⟩:Rec)) rs es)[s]? with|some q=>q.h|none=>hEnd)=r->wLV P a r (fun x=>uG x v=true) o.op/\wFl P all rs hEnd fs p->(((i,s)::fs).all (Ir P all (List.zipWith (fun x e=>⟨e,x.h,x.v⟩) rs es) hEnd)=true)/\p:=by
   intro r I ⟨D,E⟩;obtain⟨z,A⟩:=aFc d E;refine⟨?_,A⟩;obtain⟨_,u,N,O⟩:=aQ7 B D;rw[EE,z,DC];cases hc:(List.zipWith _ rs es)[s]?<;>(rw[hc] at I;grind[Ir])
  grind;rename_i o a h v w n;obtain⟨e,t,y⟩:=C n;obtain⟨B,m⟩:=d.2 i o _ e w n t;obtain⟨z,A⟩:=aFc d g;simp_all[EE,DC,Ir];cases g
def feq:List (Nat×Nat)->List (Nat×Nat)->Bool
 |[],[]=>true
 |(a,b)::l,(c,d)::m=>Nat.beq a c&&(Nat.beq b d&&feq l m)
 |_,_=>false
def aPd:∀{l m:List (Nat×Nat)},feq l m=true->l=m
 |[],[],_=>rfl
 |(a,b)::l,(c,d)::m,h=>by
  simp only[feq,ep] at h;rw[ri h.1,ri h.2.1,aPd h.2.2]
 |[],_::_,h=>FH
 |_::_,[],h=>FH
def aQc (P:Program) (ops:Array Oper) (d:List (Nat×Nat)):Bool:=R8 ops.toList&&(P.follows .mixedOrders|| !Region.departs ops)&&feq (Ou ops.toList) d
def aNd:List (Nat×List (Nat×Nat))->Nat->(List (Nat×Nat)->Prop)->Prop
 |[],_,q=>hP (q [])
 |(i,l)::F,id,q=>(match Nat.beq i id with
  |true=>q l
  |false=>aNd F id q)
def aFb:∀{F:List (Nat×List (Nat×Nat))} {id:Nat} {q:List (Nat×Nat)->Prop},aNd F id q->∃l,q l
 |[],_,_,h=>⟨_,h⟩
 |_::F,_,_,h=>by
  unfold aNd at h;split at h;exact⟨_,h⟩;exact aFb (F:=F) h
theorem Wm {all:List Oper} {rs gs:IH} {hEnd:AH} {p:Prop} {g:List (Nat×Nat)} (r:rs.length=gs.length) (n:∀(j:Nat) (x y:WR),rs[j]?=some x->gs[j]?=some y->x=y\/jl g j=false/\x.h=y.h):
  ∀{fs:List (Nat×Nat)},(∀x∈fs,jl g x.1=true)->wFl P all rs hEnd fs p->wFl P all gs hEnd fs p
 |[],_,d=>d
 |(i,s)::fs,m,d=>by
  change aBb P all rs hEnd (i,s) (wFl P all rs hEnd fs) p at d;show aBb P all gs hEnd (i,s) (wFl P all gs hEnd fs) p;have A:=Wm (hEnd:=hEnd) (all:=all) (p:=p) r n fun x u=>m x<|ca _ u;have z:rs[i]?=gs[i]?:=by
   have w:=m (i,s) FB;rcases ql i rs.length with t|o;grind;grind
  unfold aBb at d ⊢;grind
theorem aFw:∀{d:List (Nat×Nat)} {x:Nat×Nat},x∈d->jl d x.1=true
 |(a,b)::l,x,h=>by
  unfold jl;split;rfl;rcases eD.1 h with rfl|h;simp_all;exact aFw h
def rvK (q:IH->Prop):IH->IH->Prop
 |[],acc=>hP (q acc)
 |x::l,acc=>rvK q l (x::acc)
theorem aQ9 {q:IH->Prop}:∀{l acc:IH},rvK q l acc->q (l.reverse++acc)
 |[],_,h=>h
 |x::l,acc,h=>by have:=aQ9 (l:=l) h;grind
def aPl (P:Program) (K:FuncId->EU->IE) (M n:Nat) (F:List (Nat×List (Nat×Nat))) (id:Nat) (ops:Array Oper) (a:Ek) (h:AH) (q:Ek->AH->Prop):Prop:=
 aNd F id fun d=>nK ops.size fun m=>na (aQc P ops d) h m fun r u=>(match d with
  |[]=>wDT P K M n (fun j=>(ops[j]?).bind (·.dst)) r [] ops.toList 0 a u [] fun _ o g=>q o g
  |d=>wDT P K M n (fun j=>(ops[j]?).bind (·.dst)) r d ops.toList 0 a u [] fun t o g=>rvK (fun t=>wFl P ops.toList t g d<|q o g) t [])
theorem aMs {F:List (Nat×List (Nat×Nat))} {a:Ek} (O:jE a env) (Q:env.length=n) {h:AH} {q:Ek->AH->Prop} (y:aPl P K M n F id ops a h q):∃m e j o,Bl P (run P K m) ops env h=some (e,j)/\jE o e/\e.length=n/\q o j:=by
 obtain⟨V,y⟩:=aFb y;obtain⟨A,y⟩:=aJb y;unfold aQc at A;rw[ep] at A;have B:=aPd A.2;subst B;obtain⟨m,d,g,e,j,o,D,C,u,r,t,w⟩:∃m d g e j o,mT P _ ops.toList h.next 0 ops.toList env _=some (List.zipWith _ d g,e,j)/\d.length=g.length/\z6 ops.toList d g/\jE o e/\e.length=n/\wFl P ops.toList d j (Ou ops.toList) _:=by
  have J:z6 ops.toList ([]:IH).reverse []:=⟨rfl,FB⟩;split at y;rename_i z;obtain⟨m,d,g,e,j,o,D,C,u,r,t,I,_,w⟩:=xz (i:=0) O Q rfl FB J FB y;exact⟨m,d,g,e,j,o,D,C,FB,r,t,by rw[z];exact w⟩;rename_i z;obtain⟨m,d,g,e,j,o,D,C,u,r,t,I,E,w⟩:=xz (i:=0) (rs:=[]) O Q rfl FB J (fun _=>trivial) y;have S:=E fun e=>z e;obtain⟨X,T⟩:=aF2 S;have N:=aQ9 w;rw[g7] at N;have Y:=Wm FB T (fun x U=>aFw U) N;grind
 obtain⟨Z,w⟩:=aFc u w;refine⟨m,e,j,o,?_,r,t,w⟩;simp_all[Bl,bA1]
inductive It where
 |code (p:EW) (c:Code)|inBlock (id:Nat)|inLoop (p:EW) (b:Code)|inScope (b:Code)|beginRound
abbrev IG:=List It
def It.it:It->Item
 |.code _ c=> .code c
 |.inBlock id=> .inBlock id
 |.inLoop _ b=> .inLoop b
 |.inScope b=> .inScope b
 |.beginRound=> .beginRound
abbrev Og (k:IG):List Item:=k.map It.it
def tV (b:Nat) (p:EW) (x:Code×IG):Code×IG:=match x.1,b with
 |.seq c d,0=>(c,.code (1::p) d::x.2)
 |.seq _ d,1=>(d,x.2)
 |.cond _ t _,0=>(t,x.2)
 |.cond _ _ e,1=>(e,x.2)
 |.block id c,0=>(c,.inBlock id::x.2)
 |.loop c,0=>(c,.inLoop (0::p) c::x.2)
 |.scope c,0=>(c,.inScope c::x.2)
 |.rangeFunc _ _ a c,0=>(a,[.beginRound,.code (1::p) c])
 |.rangeFunc _ _ _ c,1=>(c,[])
 |_,_=>(.skip,[])
def O7 (P:Program) (f:FuncId):EW->Code×IG
 |[]=>((Sj P f).getD .skip,[])
 |b::p=>tV b p<|O7 P f p
def nZ (P:Program) (f:FuncId):IG->Prop
 |[]=>True
 |.code p c::k=>O7 P f p=(c,k)/\nZ P f k
 |.inLoop p b::k=>O7 P f p=(b,.inLoop p b::k)/\nZ P f k
 |_::k=>nZ P f k
def Bj (id:Nat):IG->Option (IG)
 |[]=>none
 |.inBlock i::k=>(match Nat.beq i id with
  |true=>some k
  |false=>Bj id k)
 |_::k=>Bj id k
theorem Bp {f:FuncId} {id:Nat}:∀{k k':IG},Bj id k=some k'->exitTo id (Og k)=some (Og k')/\(nZ P f k->nZ P f k')
 |[],_,h=>FH
 |x::k,k',h=>by
  cases x with
  |inBlock i=>
   unfold Bj at h;split at h;rename_i e;cases h;have:=ri e;subst this;exact⟨by simp[Og,It.it,exitTo],fun g=>g⟩;rename_i e;obtain⟨j,d⟩:=Bp (f:=f) h;refine⟨?_,fun g=>d g⟩;have:(i==id)=false:=by simpa using Nat.ne_of_beq_eq_false e
   simp_all[Og,It.it,exitTo]
  |code p c=>obtain⟨j,d⟩:=Bp (f:=f) (k:=k) h;exact⟨j,fun g=>d g.2⟩
  |inLoop p c=>obtain⟨j,d⟩:=Bp (f:=f) (k:=k) h;exact⟨j,fun g=>d g.2⟩
  |inScope c=>obtain⟨j,d⟩:=Bp (f:=f) (k:=k) h;exact⟨j,fun g=>d g⟩
  |beginRound=>obtain⟨j,d⟩:=Bp (f:=f) (k:=k) h;exact⟨j,fun g=>d g⟩
theorem Bt {id:Nat}:∀{k:IG},Bj id k=none->exitTo id (Og k)=none
 |[],_=>rfl
 |x::k,h=>by
  cases x with
  |inBlock i=>
   unfold Bj at h;split at h;cases h;rename_i e;simpa [Og,It.it,exitTo,(by simpa using Nat.ne_of_beq_eq_false e)] using Bt h
  |code p c=>exact Bt (k:=k) h
  |inLoop p c=>exact Bt (k:=k) h
  |inScope c=>exact Bt (k:=k) h
  |beginRound=>exact Bt (k:=k) h
def sS:Nat->IG->IG
 |0,k=>k
 |n+1,k=>match k with
  |.code p c::d=>(match c with
   |.skip=>sS n d
   |.label _=>sS n d
   |.seq a b=>sS n (.code (0::p) a:: .code (1::p) b::d)
   |.block id b=>sS n (.code (0::p) b:: .inBlock id::d)
   |.scope b=>sS n (.code (0::p) b:: .inScope b::d)
   |.loop b=>sS n (.code (0::p) b:: .inLoop (0::p) b::d)
   |.exit id=>(match Bj id d with
    |some g=>sS n g
    |none=>k)
   |_=>k)
  |.inBlock _::d=>sS n d
  |.inScope _::d=>sS n d
  |.inLoop p b::d=>sS n (.code p b:: .inLoop p b::d)
  |_=>k
section
variable {f:FuncId} {k:IG} {a b c:Code}
theorem nZ.seq (g:nZ P f (.code p (.seq a b)::k)):nZ P f (.code (0::p) a:: .code (1::p) b::k):=by
 obtain⟨j,d⟩:=g;exact⟨Fi,Fi,d⟩
theorem nZ.block (g:nZ P f (.code p (.block id b)::k)):nZ P f (.code (0::p) b:: .inBlock id::k):=by
 obtain⟨j,d⟩:=g;exact⟨Fi,d⟩
theorem nZ.scope (g:nZ P f (.code p (.scope b)::k)):nZ P f (.code (0::p) b:: .inScope b::k):=by
 obtain⟨j,d⟩:=g;exact⟨Fi,d⟩
theorem nZ.loop (g:nZ P f (.code p (.loop b)::k)):nZ P f (.code (0::p) b:: .inLoop (0::p) b::k):=by
 obtain⟨j,d⟩:=g;exact⟨Fi,Fi,d⟩
def nZ.Ye (g:nZ P f (.inLoop p b::k)):nZ P f (.code p b:: .inLoop p b::k):=⟨g.1,g⟩
end
theorem vF {f:FuncId}:∀(n:Nat) {k:IG},nZ P f k->Og (sS n k)=tR n (Og k)/\nZ P f (sS n k)
 |0,_,g=>⟨rfl,g⟩
 |_+1,[],g=>⟨rfl,g⟩
 |n+1,.inBlock _::k,g=>vF n (k:=k) g
 |n+1,.inScope _::k,g=>vF n (k:=k) g
 |n+1,.inLoop _ _::_,g=>vF n g.Ye
 |_+1,.beginRound::_,g=>⟨rfl,g⟩
 |n+1,.code p c::k,g=>by
  cases c with
  |skip=>exact vF n g.2
  |label _=>exact vF n g.2
  |seq a b=>exact vF n g.seq
  |block id b=>exact vF n g.block
  |scope b=>exact vF n g.scope
  |loop b=>exact vF n g.loop
  |exit id=>
   show Og (match Bj id k with|some d=>sS n d|none=>_)=(match exitTo id (Og k) with|some d=>tR n d|none=>_)/\nZ P f (match Bj id k with|some d=>sS n d|none=>_);cases hx:Bj id k with
   |some d=>
    obtain⟨j,m⟩:=Bp (P:=P) (f:=f) hx;rw[j];exact vF n (m g.2)
   |none=>grind[Bt]
  |_=>exact⟨rfl,g⟩
structure FT where
 L:List (Nat×EW)
 R:List (Nat×EW)
 hr:Bool
 M:Nat:=0
 F:List (Nat×List (Nat×Nat)):=[]
abbrev IL:=List FT
def aXr (l:List (IL)) (f:FuncId):FT:=((l[f/16]?).getD [])[f % 16]?.getD ⟨[],[],false,0,[]⟩
def peq:EW->EW->Bool
 |[],[]=>true
 |a::l,b::m=>(match Nat.beq a b with
  |true=>peq l m
  |false=>false)
 |_,_=>false
theorem aPi:∀{l m:EW},peq l m=true->l=m
 |[],[],_=>rfl
 |a::l,b::m,h=>by
  unfold peq at h;split at h;rename_i e;rw[ri e,aPi h];cases h
 |[],_::_,h=>FH
 |_::_,[],h=>FH
def yP:EW->Nat
 |[]=>1
 |b::p=>2*yP p+b
def jt:List (Nat×EW)->EW->Nat->(Nat->Nat->EW->Prop)->Prop
 |[],_,_,_=>hF
 |(n,d)::L,p,i,q=>(match Nat.beq (yP p) n with
  |true=>(match peq p.reverse (qM n) with
   |true=>q i n d
   |false=>hF)
  |false=>nK (i+1) fun i=>jt L p i q)
theorem Zz:∀{L:List (Nat×EW)} {p:EW} {i:Nat} {q:Nat->Nat->EW->Prop},jt L p i q->∃j n d,L[j]?=some (n,d)/\p=(qM n).reverse/\q (i+j) n d
 |[],_,_,_,h=>h.elim
 |(n,d)::L,p,i,q,h=>by
  unfold jt at h;split at h;split at h;exact⟨0,n,d,rfl,by grind[aPi,List.reverse_reverse],h⟩;cases h;obtain⟨j,t,g,m,o,r⟩:=Zz<|aJb h;exact⟨_,t,g,m,o,by rw[show i+(j+1)=i+1+j by omega];exact r⟩
def dz (a:Ek):EW->(EU->Prop)->Prop
 |[],q=>q []
 |t::d,q=>(match a.lk t with
  |some (v,_)=>dz a d fun g=>q (v::g)
  |none=>hF)
theorem Y7 {a:Ek} {env:EU} (d:jE a env):∀{lv:EW} {q:EU->Prop},dz a lv q->q (lv.map fun t=>env.getD t undef)
 |[],_,h=>h
 |t::lv,q,h=>by
  unfold dz at h;split at h;rename_i g;have j:=(d _ _ _ g).1;have:=Y7 d h;grind;cases h
def PtI (P:Program) (K:FuncId->EU->IE) (T:FT) (f:FuncId) (g:Option Nat) (Q:Dn->AH->Prop) (i:Nat) (d:EW) (vs:EU) (h:AH):Prop:=
 Pt P K f g Q (ntm P f) ((T.L[i]?).getD (0,[])).2 (.code (O7 P f (qM ((T.L[i]?).getD (0,[])).1).reverse).1::Og (O7 P f (qM ((T.L[i]?).getD (0,[])).1).reverse).2) d vs h
def wE (T:FT) (a:Ek) (k:IG) (q:Nat->EU->Prop):Prop:=match k with
 |.code p _::_=>jt T.L p 0 fun i _ d=>dz a d fun g=>q i g
 |_=>hF
def aRq {T:FT} {f:FuncId} {o:Option Nat} {Q:Dn->AH->Prop} {m:EW} {h:AH} {a:Ek} {k:IG} (u:jE a env) (y:env.length=ntm P f) (w:nZ P f k) (g:wE T a k fun i z=>PtI P K T f o Q i m z h):Ok P K (.todo f o m env<|Og k) h Q:=by
 unfold wE at g;split at g;obtain⟨j,n,A,r,t,d⟩:=Zz g;have d:=Y7 u d;simp only[PtI,AB,r,p4,<-t,w.1] at d;have:=d _ rfl;rwa [Wv y] at this;cases g
def dy (P:Program) (a:Ek) (h:AH) (r:ResultVar) (d:(EU->Prop)->Prop) (p:EU->Prop):Prop:=match r with
 |.tmp t=>(match a.lk t with
  |some (v,_)=>d fun l=>p (v::l)
  |none=>hF)
 |.cell x t=>(match a.lk x with
  |some (v,_)=>(match oB P t with
   |some true=>px P t fun n=>cE (zJ h n v) fun v=>d fun l=>p (v::l)
   |some false=>cE (xE h v) fun v=>d fun l=>p (v::l)
   |none=>hF)
  |none=>hF)
def aDc (P:Program) (a:Ek) (h:AH) (rs:List ResultVar):(EU->Prop)->Prop:=List.rec (fun p=>p []) (fun r _ d=>dy P a h r d) rs
theorem S8 {a:Ek} {env:EU} (g:jE a env) {h:AH}:∀{rs:List ResultVar} {p:EU->Prop},aDc P a h rs p->Z1 P h env rs p
 |[],_,d=>d
 |.tmp t::rs,p,d=>by
  have d:dy P a h (.tmp t) (aDc P a h rs) p:=d;unfold dy at d;simp only at d;split at d;rename_i m;have o:=(g _ _ _ m).1;have:=S8 g d;simp_all[Z1,aP,p4];cases d
 |.cell x t::rs,p,d=>by
  have d:dy P a h (.cell x t) (aDc P a h rs) p:=d;unfold dy at d;simp only at d;split at d;rename_i m;simp only[Z1,aP,(g _ _ _ m).1,p4];split at d;rename_i j;simp only[j];exact(Bw d).2.mono fun v n=>S8 g n;rename_i j;simp only[j];exact d.mono fun v n=>S8 g n;cases d;cases d
def aLe (Q:Value->AH->Prop) (l:EU) (h:AH):Prop:=match l with
 |[v]=>Q v h
 |l=>hP<|Q (.tuple ⟨l⟩) h
def aR9 {h:AH}:(fun l=>aLe Q l h)=fun l=>Q (Fu l) h:=funext fun l=>match l with
 |[]=>rfl
 |[_]=>rfl
 |_::_::_=>rfl
def aMq (P:Program) (f:FuncId) (m:Bool) (Q:Value->AH->Prop) (lv:Ff) (g:EW) (a:Ek) (h:AH):Prop:=match lv with
 |.exit _=>hF
 |_=>(match m with
  |true=>cE (dX g h) fun j=>aDc P a j ((P.funcs[f]?).elim [] fun d=>d.results.toList) fun l=>aLe Q l j
  |false=>(match g with
   |[]=>aDc P a h ((P.funcs[f]?).elim [] fun d=>d.results.toList) fun l=>aLe Q l h
   |_=>hF))
theorem aFd {f:FuncId} {w:Bool} {lv:Ff} {j:EW} {a:Ek} {h:AH} (o:jE a env) (d:aMq P f w Q lv j a h):uq P f Q ⟨lv,j,env,undef⟩ h:=by
 have n:(∀id,lv≠.exit id)->(cE (dX j h) fun g=>aDc P a g ((P.funcs[f]?).elim [] fun t=>t.results.toList) fun l=>aLe Q l g)->uq P f Q ⟨lv,j,env,undef⟩ h:=by
  intro u ⟨g,r,m⟩;simp only[aR9] at m;refine vj ?_;unfold aTr;cases lv with
  |exit id=>grind
  |vV=>exact⟨g,r,S8 o m⟩
  |ret=>exact⟨g,r,S8 o m⟩
 unfold aMq at d;split at d;cases d;split at d;grind;split at d;exact n FA ⟨h,rfl,d⟩;cases d
def aKe:IG->Bool
 |[]=>true
 |.code _ .ret::_=>true
 |.code _ (.exit _)::_=>true
 |_=>false
def qt (k:IG):Bool:=match sS 60 k with
 |.code _ (.region _ _ _)::d=>aKe (sS 60 d)
 |d=>aKe d
def wRg (P:Program) (K:FuncId->EU->IE) (f:FuncId) (m:Nat) (g:Value) (num:Nat) (lv:EW) (vs:EU) (d:Nat) (h:AH) (q:Option Code->AH->Prop):Prop:=
 ∀e:Nat->Value,lv.map e=vs->K1 h (lp P f (qM num) m e d .ready none) fun l j=>pw P K g l j fun _ n=>cE (zV n l) fun r=>(match r with|(pd,o)=>q pd o)
def wTF (P:Program) (K:FuncId->EU->IE) (E:EW->Ek->IG->AH->Prop) (F:Ff->EW->Ek->AH->Prop) (T:FT) (f:FuncId) (m:Nat) (B:Option Nat) (n:EW->Ek->IG->AH->Prop) (g:EW) (a:Ek) (k:IG) (h:AH):Prop:=(match k with
  |[]=>F .vV g a h
  |.code p c::k=>(match c with
   |.skip=>n g a k h
   |.label _=>n g a k h
   |.seq x y=>n g a (.code (0::p) x:: .code (1::p) y::k) h
   |.cond c t e=>(match knW a c with
    |.b true=>n g a (.code (0::p) t::k) h
    |.b false=>n g a (.code (1::p) e::k) h
    |_=>Fq P a c fun v=>Br v
     (match qt (.code (0::p) t::k) with
     |true=>n g a (.code (0::p) t::k) h
     |false=>E g a (sS 60 (.code (0::p) t::k)) h)
     (match qt (.code (1::p) e::k) with
     |true=>n g a (.code (1::p) e::k) h
     |false=>E g a (sS 60 (.code (1::p) e::k)) h))
   |.block id b=>n g a (.code (0::p) b:: .inBlock id::k) h
   |.loop b=>E g a (sS 60 (.code (0::p) b:: .inLoop (0::p) b::k)) h
   |.scope b=>n g a (.code (0::p) b:: .inScope b::k) h
   |.exit id=>(match Bj id k with
    |some u=>n g a u h
    |none=>(match B with
     |some _=>F (.exit id) g a h
     |none=>hF))
   |.ret=>F .ret g a h
   |.region _ ops false=>aM8 P K T.M m (fun j=>(ops[j]?).bind (·.dst)) ops.toList a h fun z o=>n g z k o
   |.region id ops true=>aPl P K T.M m T.F id ops a h fun z o=>n g z k o
   |.rangeFunc w _ _ r=>Fq P a w fun w=>jt T.R p 0 fun _ num A=>dz a A fun C=>(match B with
    |none=>K1 h (.A1 true) fun d D=>wRg P K f m w num A C d D fun pd o=>A9 pd (n (d::g) a k o) (F .ret (d::g) a o)
      ((nH r).map fun id=>(id,(match Bj id k with
       |some u=>n (d::g) a u o
       |none=>hF)))
    |some l=>cE (kI h l) fun d=>wRg P K f m w num A C d h fun pd o=>A9 pd (n g a k o) (F .ret g a o)
      ((nH r).map fun id=>(id,(match Bj id k with
       |some u=>n g a u o
       |none=>F (.exit id) g a o))))
   |_=>hF)
  |.inBlock _::k=>n g a k h
  |.inScope _::k=>n g a k h
  |.inLoop p b::k=>E g a (sS 60 (.code p b:: .inLoop p b::k)) h
  |.beginRound::k=>(match B with
   |some l=>cE (qJ h l) fun o=>n g a k o
   |none=>hF))
def wT (P:Program) (K:FuncId->EU->IE) (E:EW->Ek->IG->AH->Prop) (F:Ff->EW->Ek->AH->Prop) (T:FT) (f:FuncId) (m:Nat) (g:Option Nat) (n:Nat):EW->Ek->IG->AH->Prop:=
 Nat.rec (fun _ _ _ _=>hF) (fun _ d=>wTF P K E F T f m g d) n
theorem aEd {q:EW} {c:Code} {k k':IG}:(tV b p (c,k)).1=(tV b q (c,k')).1:=by
 unfold tV;grind
theorem aFz {c:Code} {l:EW}:Nh c (b::l)=Nh (tV b [] (c,[])).1 l:=by
 have d:∀l:EW,Nh .skip l= .skip:=fun l=>by grind[Nh]
 rcases b with _|_|b<;>cases c<;>simp[Nh,tV,d]
def U7:∀(l:EW) (c:Code),Nh c l=l.foldl (fun c b=>(tV b [] (c,[])).1) c
 |[],c=>by simp[Nh]
 |b::l,c=>by rw[aFz,U7 l];rfl
def da {f:FuncId}:∀p:EW,(O7 P f p).1=Nh ((Sj P f).getD .skip) p.reverse
 |[]=>by simp[O7,Nh]
 |b::p=>by
  have d:(O7 P f (b::p)).1=(tV b [] ((O7 P f p).1,[])).1:=aEd;rw[d,da p,EB,U7,U7,CS];rfl
theorem aPv {f:FuncId} {A:Operand} {w:Value} {u r:Code} {h:AH} {q:Option Code->AH->Prop} (D:env.length=m) (hc:cd P f (qM num)= .rangeFunc A ps u r)
  (C:wRg P K f m w num lv (lv.map fun t=>env.getD t undef) d h q):
  ∃n g first j o y p z,w= .func (.func g) first j/\lU P g=true/\run P K n (.call g<|first.toList++[.func (.yield h.next) #[] #[]]++j.toList) (h.alloc<|.loop .ready none f env ps u r d)=some (o,y)/\
   zV y h.next=some (p,z)/\q p z:=by
 refine Rx (lv:=lv) ?_
 intro e B
 have:=C e B
 grind[lp,rgF]
def uY {f:FuncId} {g:Option Nat} {d:EW} {k k':List Item} {h:AH} {Q:Dn->AH->Prop} (n:Ok P K (.todo f g d env k') h Q) (j:∀m,run P K (m+1) (.todo f g d env k) h=run P K m (.todo f g d env k') h):Ok P K (.todo f g d env k) h Q:=Lb j n
theorem aLk {E:EW->Ek->IG->AH->Prop} {F:Ff->EW->Ek->AH->Prop} {T:FT} {f:FuncId} {m:Nat} {V:Option Nat} {Q:Dn->AH->Prop}
  (hE:∀D a env k h,jE a env->env.length=m->nZ P f k->E D a k h->Ok P K (.todo f V D env<|Og k) h Q) (hF:∀lv D a env h,jE a env->F lv D a h->Q ⟨lv,D,env,undef⟩ h):
  ∀(n:Nat) {D:EW} {a:Ek} {env:EU} {k:IG} {h:AH},jE a env->env.length=m->nZ P f k->wT P K E F T f m V n D a k h->Ok P K (.todo f V D env<|Og k) h Q
 |0,_,_,_,_,_,_,_,_,u=>u.elim
 |n+1,D,a,env,k,h,A,I,B,u=>by
  have J:∀{D:EW} {a:Ek} {env:EU} {k:IG} {h:AH},jE a env->env.length=m->nZ P f k->wT P K E F T f m V n D a k h->Ok P K _ h Q:=fun x y z w=>aLk hE hF n x y z w;have nm:∀{k:IG},nZ P f k->E D a _ h->Ok P K _ h Q:=fun g hk=>by
   obtain⟨Y,h2⟩:=vF 60 g;exact Uz 60<|Y▸hE _ _ _ _ _ A I h2 hk
  have go:∀{X:IG},nZ P f X->(match qt X with
     |true=>wT P K E F T f m V n D a X h
     |false=>E D a (sS 60 X) h)->Ok P K (.todo f V D env<|Og X) h Q:=by
   intro X g hk
   split at hk
   .grind
   .grind
  change wTF P K E F T f m V (wT P K E F T f m V n) D a k h at u;unfold wTF at u;split at u;exact⟨1,_,rfl,FB⟩;rename_i p c k;split at u;exact uY (J A I B.2 u) fun _=>rfl;exact uY (J A I B.2 u) fun _=>rfl;exact uY (J A I B.seq u) fun _=>rfl;rename_i c t e;have g1:nZ P f (.code (0::p) t::k):=⟨by simp only[O7,B.1,tV],B.2⟩;have g2:nZ P f (.code (1::p) e::k):=⟨by simp only[O7,B.1,tV],B.2⟩;obtain⟨k1,k2⟩:=aEv (P:=P) (x:=c) A;split at u;rename_i hk;exact Y5 (mr (b:=true) (fun _=>J A I g1 u) FF|>fun x=>by rw[k1 _ hk];exact x);rename_i hk;exact Y5 (mr (b:=false) FF (fun _=>J A I g2 u)|>fun x=>by rw[k1 _ hk];exact x);exact Y5 (let⟨b,x,y,z⟩:=kP A u;⟨b,x,fun t=>go g1<|y t,fun t=>go g2<|z t⟩);exact uY (J A I B.block u) fun _=>rfl;exact uY (nm B.loop u) fun _=>rfl;exact uY (J A I B.scope u) fun _=>rfl;split at u;rename_i X S;obtain⟨Y,h2⟩:=Bp (P:=P) (f:=f) S;refine uY (J A I (h2 B.2) u) fun m=>?_;show gT P (run P K m) _ _ _ _ (.code _::Og k) _=_;grind[gT];rename_i S;split at u;refine⟨1,(⟨_,D,env,_⟩,h),?_,hF _ _ _ _ _ A u⟩;show gT P (run P K 0) _ _ _ _ (.code _::Og k) _=_;simp only[gT,Bt S,DT,ew];cases u;exact⟨1,_,rfl,FB⟩;obtain⟨n1,o,Y,a',hr,δ,ζ,u⟩:=qi A I u;obtain⟨n2,r,O,hq⟩:=J δ ζ B.2 u;refine⟨max n1 n2+1,r,?_,hq⟩;show gT P (run P K _) _ _ _ _ (.code _::Og k) _=_;simp only[gT];rw[pY FA _ _ _ hr];exact pY FA _ _ _ O;obtain⟨n1,e,Y,a',hr,δ,ζ,u⟩:=aMs A I u;obtain⟨n2,r,O,hq⟩:=J δ ζ B.2 u;refine⟨max n1 n2+1,r,?_,hq⟩;show gT P (run P K _) _ _ _ _ (.code _::Og k) _=_;simp only[gT];rw[Sd (pY FA) hr];exact pY FA _ _ _ O;rename_i fv ps η γ;have u:=kP A u;obtain⟨j,num,lv,_,hp,u⟩:=Zz u;have u:=Y7 A u;have hc:cd P f (qM num)= .rangeFunc fv ps η γ:=by
   have:=da (P:=P) (f:=f) p;rw[B.1,hp,DJ] at this;exact this.symm
  have ex:∀{N:EW} {Z:AH} {pd:Option Code},A9 pd (wT P K E F T f m V n N a k Z) (F .ret N a Z)
    ((nH γ).map fun id=>(id,(match Bj id k with
     |some X=>wT P K E F T f m V n N a X Z
     |none=>(match V with
      |none=>False
      |some _=>F (.exit id) N a Z))))->Ok P K (.todo f V N env<|(pd.map Item.code).toList++Og k) Z Q:=by
   intro N Z pd S
   unfold A9 at S
   split at S
   .exact J A I B.2 S
   .exact⟨1,_,rfl,FB⟩
   .split at S
    .rename_i hl;have:=sc hl;subst this;split at S
     .rename_i X hy;obtain⟨Y,h2⟩:=Bp (P:=P) (f:=f) hy;refine uY (J A I (h2 B.2) S) fun m=>?_;simp_all[gT,run,Og]
     .rename_i hy;split at S
      .cases S
      .refine⟨1,(⟨_,N,env,_⟩,Z),?_,hF _ _ _ _ _ A S⟩;show gT P (run P K 0) _ _ _ _ (.code _::Og k) _=_;simp only[gT,Bt hy,DT,ew]
    .cases S
   .cases S
  split at u;unfold K1 at u;obtain⟨n1,g,first,U,o,h3,p,Z,hf,ε,hr,C,u⟩:=aPv I hc u;obtain⟨n2,r,O,hq⟩:=ex u;refine⟨max n1 n2+1,r,?_,hq⟩;show gT P (run P K _) _ _ _ _ (.code _::Og k) _=_;unfold zV at C;split at C;rename_i hl;split at C;cases C;rename_i hb;simp only[cg] at C;obtain⟨h5,C,h6⟩:=C;cases h6;simp only[gT,hf,ε,ew];rw[pY FA _ _ _ hr];simp only[hl,hb,dd,C];exact pY FA _ _ _ O;cases C;obtain⟨d,β,u⟩:=u;obtain⟨n1,g,first,U,o,h3,p,Z,hf,ε,hr,C,u⟩:=aPv I hc u;obtain⟨n2,r,O,hq⟩:=ex u;refine⟨max n1 n2+1,r,?_,hq⟩;show gT P (run P K _) _ _ _ _ (.code _::Og k) _=_;unfold zV at C;unfold kI at β;split at β;rename_i θ;cases β;split at C;rename_i hl;split at C;cases C;rename_i hb;simp only[cg] at C;obtain⟨h5,C,h6⟩:=C;cases h6;simp only[gT,θ,hf,ε,ew];rw[pY FA _ _ _ hr];simp only[hl,hb,dd,C];exact pY FA _ _ _ O;cases C;cases β;cases u;rename_i k;exact uY (J (k:=k) A I B u) fun _=>rfl;rename_i k;exact uY (J (k:=k) A I B u) fun _=>rfl;exact uY (nm B.Ye u) fun _=>rfl;rename_i k;split at u;obtain⟨h',Y,h2⟩:=u;unfold qJ at Y;split at Y;refine Lb (t':= .todo f _ D env (Og k)) (fun m=>?_)<|J A I B h2;show gT P (run P K m) _ _ _ _ (.beginRound::Og k) _=_;grind[gT];cases Y;cases u
theorem ma {f:FuncId}:∀p:EW,nZ P f (O7 P f p).2
 |[]=>trivial
 |b::p=>by
  have g:=ma (f:=f) p;have d:∀c,O7 P f (c::p)=tV c p _:=fun _=>rfl;rw[d];generalize j:O7 P f p=x at g d;obtain⟨c,k⟩:=x;rcases b with _|_|b<;>cases c<;>simp_all [tV,nZ]
def D (P:Program) (K:FuncId->EU->IE) (T:FuncId->FT) (f:FuncId) (i:Nat) (d:EW) (Q:Value->AH->Prop) (vs:EU) (h:AH):Prop:=PtI P K (T f) f none (uq P f Q) i d vs h
def R (P:Program) (K:FuncId->EU->IE) (T:FuncId->FT) (f:FuncId) (i:Nat) (l:Nat) (Q:Value->AH->Prop) (vs:EU) (h:AH):Prop:=PtI P K (T f) f (some l) (Lc l Q) i [] vs h
def fW (P:Program) (f:FuncId) (q:Nat->Code->Prop):Prop:=match P.funcs[f]? with
 |some ⟨_,_,_,_,_,_,n,_,some c,_,_,_,_,_,_,_⟩=>q n c
 |_=>hF
theorem aRz {f:FuncId} {q:Nat->Code->Prop} (h:fW P f q):∃d c,P.funcs[f]?=some d/\d.body=some c/\ntm P f=d.ntmps/\Sj P f=some c/\q d.ntmps c:=by
 unfold fW at h;split at h;grind[ntm,Sj];cases h
def w8 (m:Nat):EW->EU->Ek->(Ek->Prop)->Prop
 |[],[],a,q=>q a
 |t::d,v::g,a,q=>(match Nat.blt t m with
  |true=>w8 m d g ((t,v,.un)::a) q
  |false=>hF)
 |_,_,_,_=>hF
theorem Zy {m:Nat}:∀{lv:EW} {vs:EU} {a:Ek} {env:EU} {q:Ek->Prop},jE a env->env.length=m->w8 m lv vs a q->∃g,jE g ((lv.zip vs).foldl (fun t (p,v)=>t.set p v) env)/\((lv.zip vs).foldl (fun t (p,v)=>t.set p v) env).length=m/\lv.length=vs.length/\q g
 |[],[],a,env,q,j,n,d=>⟨a,j,n,rfl,d⟩
 |t::lv,v::vs,a,env,q,j,n,d=>by
  unfold w8 at d;split at d;rename_i e;have y:t<m:=o0 e;obtain⟨g,o,r,u,w⟩:=Zy (j.cons (n.symm▸y) FB FB) FB d;exact⟨g,o,r,by simp[u],w⟩;cases d
 |[],_::_,_,_,_,_,_,d=>d.elim
 |_::_,[],_,_,_,_,_,d=>d.elim
theorem aIl {t:Nat} (h:∀u,env[t]?=some u->u=v):env.set t v=env:=by
 refine q6 fun i=>?_;grind
theorem S0 {e:Nat->Value} {m:Nat}:∀{lv:EW} {vs:EU},lv.map e=vs->(lv.zip vs).foldl (fun t (p,v)=>t.set p v) ((List.range m).map e)=(List.range m).map e
 |[],_,_=>rfl
 |t::lv,vs,h=>by
  subst h;rw[kd,List.zip_cons_cons,CA];show List.foldl _ (((List.range m).map e).set t _) _=_;rw[aIl,S0 rfl];grind
theorem jE.nil:jE [] env:=fun _ _ _ h=>FH
def wD (P:Program) (K:FuncId->EU->IE) (T:FuncId->FT) (f:FuncId) (i:Nat) (d:EW) (Q:Value->AH->Prop) (vs:EU) (h:AH):Prop:=match(T f).L[i]? with
 |some (num,g)=>fcL (qM num).reverse fun p=>(match O7 P f p with
  |(c,k)=>fW P f fun m _=>w8 m g vs [] fun a=>wT P K (fun d a k h=>wE (T f) a k fun i vs=>D P K T f i d Q vs h) (aMq P f (T f).hr Q) (T f) f m none 200 d a (.code p c::k) h)
 |none=>hF
def bW {f:FuncId} {T:FuncId->FT} {j:EW} {h:AH} (d:wD P K T f i j Q vs h):D P K T f i j Q vs h:=by
 unfold wD at d;split at d;rename_i num A y;have d:=S6 d;generalize o:O7 P f _=x at d;obtain⟨c,k⟩:=x;obtain⟨u,_,_,_,z,_,d⟩:=aRz d;unfold D PtI;simp only[y,p4,o];intro e w;rw[z];obtain⟨a,r,t,_,d⟩:=Zy (env:=(List.range u.ntmps).map e) jE.nil FF d;rw[S0 w] at r t;have m:=ma (P:=P) (f:=f) (qM num).reverse;rw[o] at m;exact aLk (fun j a g k h n B m hE=>aRq n FA m hE) (fun A j a g h n hF=>aFd n hF) 200 (k:= .code _ c::k) r t ⟨o,m⟩ d;cases d
def wRd (P:Program) (K:FuncId->EU->IE) (T:FuncId->FT) (f:FuncId) (i:Nat) (l:Nat) (Q:Value->AH->Prop) (vs:EU) (h:AH):Prop:=match(T f).L[i]? with
 |some (num,g)=>fcL (qM num).reverse fun p=>(match O7 P f p with
  |(c,k)=>fW P f fun m _=>w8 m g vs [] fun a=>wT P K (fun d a k h=>(match d with
   |[]=>wE (T f) a k fun i vs=>R P K T f i l Q vs h
   |_=>hF)) (fun g d _ h=>aj l Q g d [] h) (T f) f m (some l) 200 [] a (.code p c::k) h)
 |none=>hF
def aJ6 {f:FuncId} {T:FuncId->FT} {l:Nat} (r:ntm P f=m):∀g a d k h,jE a d->d.length=m->nZ P f k->(match g with
   |[]=>wE (T f) a k fun i o=>R P K T f i l Q o h
   |_=>False)->Ok P K (.todo f (some l) g d<|Og k) h (Lc l Q):=by
 intro g a d k h j t n hE
 split at hE
 .exact aRq j FA n hE
 .cases hE
def aT2:Nat->EU->Ek->(Ek->Prop)->Prop
 |_,[],a,q=>q a
 |i,v::l,a,q=>nK (i+1) fun j=>aT2 j l ((i,v,.un)::a) q
theorem jE.add {a:Ek} (m:jE a env) (n:env[d]?=some v):jE ((d,v,.un)::a) env:=by
 intro t u j g;unfold Ek.lk at g;split at g;grind[Nat.eq_of_beq_eq_true];exact m t u j g
theorem aF3 {env:EU}:∀{l:EU} {i:Nat} {a:Ek} {q:Ek->Prop},jE a env->(∀j v,l[j]?=some v->env[i+j]?=some v)->aT2 i l a q->∃m,jE m env/\q m
 |[],_,a,_,d,_,g=>⟨a,d,g⟩
 |v::l,i,a,q,d,n,g=>aF3 (l:=l) (d.add<|n 0 v rfl) (fun j u o=>by have:=n (j+1) u FB;grind)<|aJb g
def aJ4 (n m:Nat):EW->Ek->(Ek->Prop)->Prop
 |[],a,q=>hP (q a)
 |t::d,a,q=>(match Nat.ble n t with
  |true=>(match Nat.blt t m with
   |true=>aJ4 n m d ((t,undef,.un)::a) q
   |false=>hF)
  |false=>aJ4 n m d a q)
theorem rz {args:EU} {m:Nat}:∀{lv:EW} {a:Ek} {q:Ek->Prop},jE a (args++List.replicate (m - args.length) undef)->aJ4 args.length m lv a q->∃j,jE j (args++List.replicate (m - args.length) undef)/\q j
 |[],a,_,g,d=>⟨a,g,d⟩
 |t::lv,a,q,g,d=>by
  unfold aJ4 at d;split at d;rename_i n;have n:=o0 n;split at d;rename_i o;have o:t<m:=o0 o;refine rz (g.add ?_) d;grind;cases d;exact rz g d
def wC (P:Program) (K:FuncId->EU->IE) (T:FuncId->FT) (f:FuncId) (args:EU) (Q:Value->AH->Prop) (h:AH):Prop:=match K f args with
 |none=>fW P f fun m c=>(match Nat.ble args.length m with
  |true=>aT2 0 args [] fun a=>nK args.length fun n=>aJ4 n m (((T f).L[0]?).getD (0,[])).2 a fun a=>wT P K (fun d a k h=>wE (T f) a k fun i g=>D P K T f i d Q g h) (aMq P f (T f).hr Q) (T f) f m none 200 [] a [.code [] c] h
  |false=>hF)
 |some _=>hF
theorem cW {f:FuncId} {T:FuncId->FT} {args:EU} {h:AH} (d:wC P K T f args Q h):Cl P K f args h Q:=by
 unfold wC at d;split at d;rename_i t;obtain⟨o,c,y,u,A,w,d⟩:=aRz d;refine aNo y u t ?_;split at d;rename_i hle;have hle:args.length<=o.ntmps:=o0 hle;obtain⟨a,m,d⟩:=aF3 (env:=args++List.replicate (o.ntmps - args.length) undef) jE.nil (fun j v C=>by
  grind) d
 obtain⟨a,m,d⟩:=rz m<|aJb d;exact aLk (fun r a g k h n B z hE=>aRq n FA z hE) (fun D r a g h n hF=>aFd n hF) 200 (k:=[.code [] c]) m FG ⟨by grind[O7],trivial⟩ d;cases d;cases d
def wR0 (P:Program) (K:FuncId->EU->IE) (T:FuncId->FT) (f:FuncId) (num m:Nat) (lv:EW) (vs:EU) (l:Nat) (args:EU) (Q:Value->AH->Prop) (h:AH):Prop:=fcL (qM num).reverse fun p=>(match O7 P f p with
 |(.rangeFunc _ o g d,_)=>fW P f fun n _=>(match Nat.beq n m with
  |true=>w8 m lv vs [] fun a=>w8 m o.toList args a fun a=>wT P K (fun j a k h=>(match j with
   |[]=>wE (T f) a k fun i vs=>R P K T f i l Q vs h
   |_=>hF)) (fun lv j _ h=>aj l Q lv j [] h) (T f) f m (some l) 200 [] a [.code (0::p) g,.beginRound,.code (1::p) d] h
  |false=>hF)
 |_=>hF)
theorem rW {f:FuncId} {T:FuncId->FT} {l:Nat} {args:EU} {e:Nat->Value} {pd:Option Code} {h:AH} (w:h.get l=some (lp P f (qM num) m e d st pd)) (A:List.map e lv=vs)
  (g:wR0 P K T f num m lv vs l args Q h):E5 P K (.func (.yield l) #[] #[]) args h Q:=by
 unfold wR0 at g
 have g:=S6 g
 split at g
 .rename_i y D o j k C;obtain⟨I,_,_,_,B,_,g⟩:=aRz g;split at g
  .rename_i u;have u:=ri u;obtain⟨a,r,t,_,g⟩:=Zy (env:=(List.range m).map e) jE.nil FF g;rw[S0 A] at r t;obtain⟨a,r,t,N,g⟩:=Zy r t g;have z:cd P f (qM num)= .rangeFunc y D o j:=by
    have:=da (P:=P) (f:=f) (qM num).reverse;rw[C,DJ] at this;exact this.symm
   simp only[lp,z,rgF] at w
   refine aEi<|aIw w FB ?_
   exact aLk (aJ6<|B.trans u) (fun lv E a n h J hF=>by exact(Y8 (env:=n) hF)) 200 (k:=[.code _ o,.beginRound,.code _ j]) r t
    ⟨Fi,Fi,trivial⟩ g
  .cases g
 .cases g
end
end Go.Ab
variable {l:IJ} {e:TypeId} {W c j:Nat} {A B C:HP} {L L':IB} {a:EX} {cs z:EU} {u:Value}
namespace Go.Ab
variable {K:FuncId->EU->IE} {G:Bg} {h:AH} {M:IB}
variable {zs:EU}
theorem Sa (O:m<=n) (J:0<n) (B:cs.length=m*W) (j:Hs G h (dY W e a c (n,cs++zs)::L)):Hs G h (dY W e a c (m,cs)::L):=by
 obtain⟨r,I,⟨C,N,D⟩,t,y,A,o⟩:=j.fst;rcases D with⟨E,_⟩|⟨E,_⟩|⟨w,b,g,d,ex,rfl,hle,u⟩;grind;grind;subst u;refine Yg ⟨j.base,j.old,j.wf,j.fr,_,⟨_,I,rfl,t,y,rfl⟩,(eJ.jC y).2 ⟨A,o⟩⟩ ?_;have z:g++(cs++zs)++d=g++cs++(zs++d):=FF
 refine⟨B,FB,.inr<|.inr ⟨FB,b,g,_,ex,rfl,?_,by rw[z]⟩⟩;grind
theorem aGt {o:Nat} {c:EU} (r:Hs G h (aN b o c::L)) (g:0<c.length) (y:j+m<=c.length):eE h ⟨b,o+j,none⟩ m=some ((c.drop j).take m):=by
 obtain⟨w,t,u,z,n,hle,d⟩:=r.cells g;simp only[eE,dn,aO,dd,n];rw[aac];congr 1;refine q6 fun k=>?_;grind
theorem oq {A B:EU} (d:A.length=j) (g:B.length=z.length):dU (A++B) j z=A++z:=by
 grind[dU,List.take_left,List.drop_eq_nil_of_le,List.length_append]
variable {α:Type}
def Rp (l:List α) (i:Nat):l.take i++l.drop i=l:=ta i l
theorem aPo {bytes:Nat} {k:Value->AH->Prop} (hW:0<W) (hz:z.length=W) (ν:z.all gM=true) (hi:i<n) (J:Hs G h L) [m:eB (dY W e a c) L (n,cs) L']
  (hk:∀h',Hs G h' (dY W e a c (n - 1,cs.take (i*W)++cs.drop ((i+1)*W))::L')->k (.slice a (n - 1) c) h'):
  cE (Fs W h (.slice a n c) none (some<|I i) none) fun v3=>cE (Fs W h (.slice a n c) (some<|I<|(i:Int)+1) none none) fun v4=>
   cE (oL W bytes e h v3 v4) fun g=>cE (pR g.1) fun X=>cE (Fs W g.2 g.1 (some X) (some<|I n) none) fun v9=>cE (nR z g.2 v9) fun d=>k g.1 d.2:=by
 have J:=m.of J
 have hl:=J.Hk
 have hc:=J.Gv
 simp only at hl hc
 have w:n<=c:=by
  obtain⟨r,r2,⟨_,_,hr⟩,_⟩:=J.fst;rcases hr with⟨hz,_⟩|⟨hz,_⟩|⟨w,_⟩;grind;grind;exact w
 obtain⟨b,o,rfl,H,t,close⟩:=J.uZ FA
 have ο:0<n*W:=Nat.mul_pos FA hW
 have A:0<cs.length:=FA
 have E:sW none c c=some c:=rfl
 have b2:sW (some<|I i) n c=some i:=FQ
 have b3:sW none 0 i=some 0:=rfl
 have Y:sW none n c=some n:=rfl
 have Z:sW (some<|I<|(i:Int)+1) 0 n=some (i+1):=by simp only[sW];rw[aac];congr 1
 have b6:sW (some<|I ((n - 1:Nat):Int)) 0 n=some (n - 1):=by simp only[sW];grind
 have b7:sW (some<|I n) n c=some n:=by simp only[sW];grind
 have S:¬c=0:=FA
 refine⟨.slice (some ⟨b,o,none⟩) i c,?_,?_⟩
 .simp only[Fs,E,b2,b3,AZ,sr,dn,aO,dd,S,fA];grind
 have π:(i+1)*W=i*W+W:=by rw[DZ,Nat.one_mul]
 have ρ:(i+1)*W<=n*W:=og W hi
 have ι:(n - (i+1))*W=n*W - (i+1)*W:=FB
 have σ:(n - 1)*W=n*W - W:=by rw[Nat.sub_mul,Nat.one_mul]
 have sY:∀u,Hs G u (aN b o (cs.take (i*W)++cs.drop ((i+1)*W)++cs.drop ((n - 1)*W))::H::L')->
   cE (pR<|.slice (some ⟨b,o,none⟩) (n - 1) c) fun X=>cE (Fs W u (.slice (some ⟨b,o,none⟩) (n - 1) c) (some X) (some<|I n) none) fun v9=>cE (nR z u v9) fun d=>k (.slice (some ⟨b,o,none⟩) (n - 1) c) d.2:=by
  intro u T
  refine dB ?_
  have B:¬c=n - 1:=FA
  refine⟨.slice (some ⟨b,o+(n - 1)*W,none⟩) (n - (n - 1))<|c - (n - 1),?_,?_⟩
  .have β:sW (some<|I n) (n - 1) c=some n:=b7;simp only[Fs,E,β,b6,AZ,sr,dn,aO,dd,B,fA];grind
  have γ:n - (n - 1)=1:=FA
  rw[γ]
  have y:(cs.take (i*W)++cs.drop ((i+1)*W)).length=(n - 1)*W:=by
   grind
  have μ:iE z 1=z:=by simp[iE]
  have O:(cs.take (i*W)++cs.drop ((i+1)*W)).all gM=true:=by
   grind
  obtain⟨N,C,U⟩:=T.iS (j:=(n - 1)*W) FB ν FB
  refine⟨(.tuple #[],N),?_,?_⟩
  .simp only[nR,Nat.one_ne_zero,dd,μ,C,rk]
  refine hk N ?_
  have κ:dU (cs.take _++cs.drop _++cs.drop ((n - 1)*W)) _ z=cs.take _++cs.drop _++z:=oq y FB
  rw[κ] at U
  refine Sa FA FA y<|close N _ _ ?_ ?_ U
  .grind
  .grind
 by_cases ξ:i+1=n
 .have D:∀v4:Value,Gf v4=some 0->nE h W 0 v4=some []->cE (oL W bytes e h (.slice (some ⟨b,o,none⟩) i c) v4) fun g=>cE (pR g.1) fun X=>cE (Fs W g.2 g.1 (some X) (some<|I n) none) fun v9=>cE (nR z g.2 v9) fun d=>k g.1 d.2:=by
   intro v4 u N;refine⟨(.slice (some ⟨b,o,none⟩) i c,h),?_,?_⟩;simp only[oL,u,N,List.all_nil,CD,AQ,DP,bne_self_eq_false,Bool.or_self,aO,dd,BE];grind;have ζ:i=n - 1:=FA
   have:=sY h (by
    rw[AT FB,g7,ζ,Rp];exact t)
   grind
  by_cases δ:c=i+1
  .obtain⟨hb,c',e',x',hg,hle,O⟩:=t.cells A;have hex:xI h b=some x':=by simp only[xI,hg]
   cases x' with
   |true=>
    refine⟨zR,?_,D _ rfl rfl⟩
    simp only[Fs,E,Y,Z,AA,dn,p9,aO,dd,fA,hex]
    grind
   |false=>
    refine⟨Hw ⟨b,o+(i+1)*W,none⟩,?_,D _ rfl rfl⟩
    simp only[Fs,E,Y,Z,AA,dn,p9,aO,dd,fA,hex]
    grind
  .refine⟨.slice (some ⟨b,o+(i+1)*W,none⟩) (n - (i+1))<|c - (i+1),?_,?_⟩
   .simp only[Fs,E,Y,Z,AA,dn,p9,aO,dd,fA,δ];grind
   .have:n - (i+1)=0:=FA
    rw[this]
    exact D _ rfl (by simp[nE])
 .refine⟨.slice (some ⟨b,o+(i+1)*W,none⟩) (n - (i+1))<|c - (i+1),?_,?_⟩
  .simp only[Fs,E,Y,Z,AA,dn,p9,aO,dd,fA,FA];grind
  have θ:¬n - (i+1)=0:=FA
  have η:eE h ⟨b,o+(i+1)*W,none⟩ ((n - (i+1))*W)=some (cs.drop<|(i+1)*W):=by
   rw[aGt t A FA,e6 FB]
  have ε:(cs.drop<|(i+1)*W).length=(n - (i+1))*W:=FB
  have Q:(cs.drop<|(i+1)*W).all gM=true:=FB
  obtain⟨u,C,T⟩:=t.iS (j:=i*W) FA Q A
  have V:i+(n - (i+1))=n - 1:=FA
  refine⟨(.slice (some ⟨b,o,none⟩) (n - 1) c,u),?_,?_⟩
  .simp only[oL,Gf,nE,bA0 θ,b0,ew,η,Q,ε,CD,bne_self_eq_false,Bool.or_self,aO,dd,fA,C,rk,dn,V];grind
  grind[dU]
def Gc (G:Bg) (W:Nat) (e:TypeId) (v:Value) (l:IJ):HP:=fun r=>
 (∀x∈l,x.length=W)/\((zE G W v l.length (fun i=>l.getD i [])/\r=eJ.Ro)\/∃a c,v= .slice a l.length c/\dY W e a c (l.length,l.flatten) r)
def Hs.y5 {p:Prop} (g:Hs G h (A::L)) (k:∀r,A r->p):p:=by
 obtain⟨r,j,d,_⟩:=g.fst;exact k r d
theorem Dk (j:Hs G h (Gc G W e v l::L)):∃a c,v= .slice a l.length c:=j.y5 fun r g=>by
 obtain⟨_,⟨⟨a,c,d,_⟩,_⟩|⟨a,c,d,_⟩⟩:=g;grind;grind
def Yk (g:Hs G h (Gc G W e v l::L)):∀x∈l,x.length=W:=g.y5 fun _ d=>d.1
def Ew (d:∀x∈l,x.length=W) (g:zE G W v l.length fun i=>l.getD i []) (m:Hs G h L):Hs G h (Gc G W e v l::L):=
 Hs.Dl (A:=[]) m fun r j=>⟨d,.inl ⟨g,j⟩⟩
def cf (d:∀x∈l,x.length=W) (g:n=l.length) (hc:cs=l.flatten) (m:Hs G h (dY W e a c (n,cs)::L)):Hs G h (Gc G W e (.slice a n c) l::L):=by
 subst g;subst hc;exact Hs.Dl m fun r j=>⟨d,.inr ⟨a,c,rfl,gf.1 j⟩⟩
theorem E1 {W:Nat}:∀{l:IJ} {i:Nat} {x:EU},(∀x∈l,x.length=W)->l[i]?=some x->(l.flatten.drop<|i*W).take W=x/\i*W+W<=l.flatten.length
 |[],i,x,_,h=>by simp at h
 |y::l,0,x,d,h=>by
  grind
 |y::l,i+1,x,d,h=>by
  obtain⟨j,m⟩:=E1 (fun z g=>d z<|ca _ g) HL;rw[BG,show(i+1)*W=y.length+i*W by grind,CZ,eg FA,Nat.add_sub_cancel_left,gk,cV];grind
theorem aC4 {x:EU} (g:Hs G h (Gc G W e v l::L)) (z:0<W) (w:l[i]?=some x) (C:k (.agg ⟨x⟩)):cE (qY W v<|I i) fun p=>cE (zJ h W p) k:=by
 obtain⟨B,J⟩:=eh.1 w;have t:=Yk g x FB;obtain⟨r,n,m⟩:=g.V2;obtain⟨N,O,j,y,A,rfl⟩:=n;obtain⟨D,j⟩:=j;rcases j with⟨E,rfl⟩|⟨a,c,rfl,j⟩;obtain⟨a,c,rfl,u⟩:=E;grind[fD,pt,qw];have d:Hs G h (dY W e a c (l.length,l.flatten)::L):=⟨g.base,g.old,g.wf,g.fr,⟨_,⟨N,O,j,y,A,rfl⟩,m⟩⟩;obtain⟨b,o,rfl,d⟩:=d.jV FA;refine fD B ?_;rw[show pt b _ 0=pt b o (i*W) by simp[pt]];exact bB d z (E1 D w).1 t C
def Yl (d:Hs G h L) [m:eB (dY 1 e a c) L (n,cs) L'] (j:cs[i]?=some u) (r:k u):cE (qY 1 (.slice a n c)<|I i) fun p=>cE (xE h p) k:=by
 have d:=m.of d;have t:=d.Hk;simp only[EP] at t;have w:=(eh.1 j).1;obtain⟨b,o,rfl,g⟩:=d.jV FA;refine fD FA ?_;rw[show pt b _ 0=pt b o i by simp[pt]];exact aE g j r
theorem aJe {k:AH->Prop} (d:Hs G h L) [m:eB (dY 1 e a c) L (n,cs) L'] [D:Cv v [v]] (hc:gM v=true) (w:i<n) (C:∀g,Hs G g (dY 1 e a c (n,cs.set i v)::L')->k g):cE (qY 1 (.slice a n c)<|I i) fun p=>cE (Ba h 1 p v) k:=by
 have d:=m.of d;have z:=d.Hk;have u:=d.Gv;simp only[EP] at z;obtain⟨b,o,rfl,r⟩:=d.jV FA;refine fD w ?_;rw[show pt b _ 0=pt b o i by simp[pt]];refine cF r rfl FG (by simp[hc]) FG fun g t=>?_;have B:bM cs i [v]=cs.set i v:=by
  rw[<-tS cs i [v] FG];apply q6;intro j;unfold dU;rw[CF];simp only[tb];by_cases y:i=j;grind;rw[bA0 y,ef];by_cases A:j<i;grind;grind
 grind[Hs.rQ]
def Hs.Fk (d:Hs G h (sp [A,B]::L)):Hs G h (A::B::L):=Hs.fQ d
def Hs.F4 (d:Hs G h (A::B::L)):Hs G h (sp [A,B]::L):=Hs.nY (A:=[A,B]) d
def Hs.E4 (d:Hs G h (sp [A,B,C]::L)):Hs G h (A::B::C::L):=Hs.fQ d
def Hs.Vc (d:Hs G h (A::B::C::L)):Hs G h (sp [A,B,C]::L):=Hs.nY (A:=[A,B,C]) d
def Hs.un4 {D:HP} (d:Hs G h (sp [A,B,C,D]::L)):Hs G h (A::B::C::D::L):=Hs.fQ d
def Hs.Rh {D:HP} (d:Hs G h (A::B::C::D::L)):Hs G h (sp [A,B,C,D]::L):=Hs.nY (A:=[A,B,C,D]) d
def Kv {f:FuncId} {e:Nat->Value} {l:Nat} {pd:Option Code} {k:Option Code×AH->Prop} (o:Hs G h L) [m:tN l L ⟨P,f,p,n,e,d,.done,pd⟩ L'] (j:∀g,Hs G g L'->k (pd,g)):cE (zV h l) k:=
 aHs (P:=P) (f:=f) (p:=p) (n:=n) (e:=e) (d:=d) (st:= .done) (pd:=pd) (k:=fun a b=>k (a,b)) (show Hs G h (pG P f p n e d l (.done,pd)::L') from m.of o) FC j
theorem yy.Nf {xs:List α} {f:α->EU} {g:FuncId} {first captured:EU} (D:yy P K G g first captured A (xs.map f)) {X:List α->HP} {Z:List α->α->HP} {y:Value}
  (d:Hs G h (A::X []::L))
  (step:∀done x h M,done++[x]<+:xs->Hs G h (X done::M)->E5 P K y (f x) h fun v j=>(v= .bool true/\Hs G j (X (done++[x])::M))\/(v= .bool false/\Hs G j (Z done x::M)))
  (sY:∀v j,Hs G j (A::X xs::L)->Q v j) (brk:∀done x v j,done++[x]<+:xs->Hs G j (A::Z done x::L)->Q v j):Cl P K g (first++[y]++captured) h Q:=by
 refine D (fun rest=>A5 fun done:List α=>sp [Dm (∃m,xs=done++m/\rest=m.map f),X done]) (A5 fun o:List α×α=>sp [Dm (o.1++[o.2]<+:xs),Z o.1 o.2]) y L h Q ?_ ?_ ?_ ?_
 .exact Hs.pS (Hs.Cn ([]:List α)<|Ft FB<|Hs.nY d.pS)
 .intro x rest h M d;obtain⟨done,u⟩:=d.Fl;obtain⟨⟨m,t,n⟩,w⟩:=kL u;cases m with
  |nil=>cases n
  |cons z m=>
   simp only[kd,List.cons.injEq] at n
   obtain⟨B,e2⟩:=n
   subst B;subst e2
   have r:done++[z]<+:xs:=⟨m,FB⟩
   refine(step done z h M r w.fQ).mono fun v j C=>C.imp (fun e=>⟨e.1,?_⟩) fun e=>⟨e.1,?_⟩
   .exact Hs.Cn (done++[z]) (Ft ⟨m,FB,rfl⟩<|Hs.nY (A:=[_]) e.2)
   .exact Hs.Cn (done,z) (Ft r<|Hs.nY (A:=[_]) e.2)
 .intro v j d;obtain⟨done,d⟩:=d.pS.Fl;obtain⟨⟨m,t,n⟩,d⟩:=kL d;cases m with
  |cons z m=>cases n
  |nil=>
   rw[g7] at t
   subst t
   exact sY v j<|Hs.pS d.fQ
 .intro v j d;obtain⟨⟨done,x⟩,d⟩:=d.pS.Fl;obtain⟨r,d⟩:=kL d;exact brk done x v j r<|Hs.pS d.fQ
end Go.Ab
variable {cap:Nat}
namespace Go.Ab
variable {K:FuncId->EU->IE} {G:Bg} {h:AH} {M:IB}
theorem aI9 (t:Hs G h L) [m:eB (dY W e a c) L (n,cs) L'] (g:i<n) (w:cs[i*W+j]?=some u) (r:k u):cE (qY W (.slice a n c)<|I i) fun p=>cE (mC j p) fun q=>cE (xE h q) k:=by
 obtain⟨b,o,rfl,d⟩:=(m.of t).jV FA;refine fD g<|aA ?_;rw[show pt b _ _=pt b o (i*W+j) by grind[pt]];exact aE d w r
def aG4 {x:EU} (u:Hs G h L) [m:eB (dY W e a c) L (n,cs) L'] (g:0<W) (j:i<n) (w:(cs.drop<|i*W).take W=x) (t:x.length=W) (r:k (.agg ⟨x⟩)):cE (qY W (.slice a n c)<|I i) fun p=>cE (zJ h W p) k:=by
 obtain⟨b,o,rfl,d⟩:=(m.of u).jV FA;refine fD j ?_;rw[show pt b _ 0=pt b o (i*W) by simp[pt]];exact bB d g w t r
theorem Cz {x:EU} (j:Hs G h (Gc G 1 e v l::L)) (w:l[i]?=some x) (Q:x[0]?=some u) (B:k u):cE (qY 1 v<|I i) fun p=>cE (xE h p) k:=by
 obtain⟨A,E⟩:=eh.1 w;obtain⟨r,n,m⟩:=j.V2;obtain⟨J,N,g,y,z,rfl⟩:=n;obtain⟨C,g⟩:=g;rcases g with⟨D,rfl⟩|⟨a,c,rfl,g⟩;obtain⟨a,c,rfl,t⟩:=D;grind[fD,Gr];have d:Hs G h (dY 1 e a c (l.length,l.flatten)::L):=⟨j.base,j.old,j.wf,j.fr,⟨_,⟨J,N,g,y,z,rfl⟩,m⟩⟩;obtain⟨b,o,rfl,d⟩:=d.jV FA;refine fD A ?_;rw[show pt b _ 0=pt b o i by simp[pt]];refine aE d ?_ B;have O:=(E1 C w).1;grind
theorem aS7 (g:Hs G h (Gc G W e v l::L)) (hW:0<W):nE h W l.length v=some l.flatten:=by
 have Y:=Yk g;obtain⟨r,C,B⟩:=g.V2;obtain⟨r1,r2,t,O,S,rfl⟩:=C;obtain⟨hl,t⟩:=t;rcases t with⟨I,rfl⟩|⟨a,c,rfl,t⟩;obtain⟨a,c,rfl,d⟩:=I;cases l with
 |nil=>cases a<;>simp[nE]
 |cons x l=>
  obtain⟨b,o,cells,rfl,m,Q,E⟩:=d 0 FF;have A:=m.get;obtain⟨J,N,x',A⟩:=A;have V:h.get b=some (.cells cells J N x'):=by rw[g.ve m.lt];exact A
  have w:∀i,i<(x::l).length->(cells.drop<|o+i*W).take W=(x::l).getD i []/\o+i*W<=cells.length:=by
   intro i z;obtain⟨b',o',u,T,n,hc,hle⟩:=d i z;cases T;obtain⟨_,_,_,U⟩:=n.get;grind
  have β:∀(l:List _) (o:Nat),(∀x∈l,x.length=W)->(∀i,i<l.length->(cells.drop<|o+i*W).take W=l.getD i []/\o+i*W<=cells.length)->o<=cells.length->o+l.length*W<=cells.length/\(cells.drop o).take (l.length*W)=l.flatten:=by
   intro l;induction l with
   |nil=>simp_all
   |cons y l ih=>
    intro o Z z I;have D:=z 0 FF;simp only[DP,BE,List.getD_cons_zero] at D;have j:o+W<=cells.length:=by
     have:=l6 List.length D.1;rw[l4,oH,Z y c9] at this;omega
    obtain⟨g1,g2⟩:=ih _ FB (fun i X=>by
     have:=z (i+1) FG;grind) j
    grind[List.length_cons,Nat.succ_mul,Nat.add_comm,List.drop_drop,List.flatten_cons]
  simp only[nE,hK,Nat.add_eq_zero_iff,Nat.succ_ne_zero,and_false,dd,b0,ew];grind[eE]
 exact zd<|⟨g.base,g.old,g.wf,g.fr,⟨_,⟨r1,r2,t,O,S,rfl⟩,B⟩⟩
theorem aBa (d:∀x∈l,x.length=W):l.flatten.length=l.length*W:=by
 induction l with
 |nil=>simp
 |cons x l g=>grind
def aR6 {bytes:Nat} {e2:TypeId} {k:Value×AH->Prop} (t:Hs G h L) [A:eB (dY W e a c) L (n,cs) L'] [C:fU (Gc G W e2 v l) L' M] (u:0<W) (z:l.length=m) (hc:l.flatten.all gM=true) (g:(n+m)*(bytes+1)<=2^46)
  (w:∀j o r,Hs G r (dY W e j o (n+m,cs++l.flatten)::L')->k (.slice j (n+m) o,r)):cE (oL W bytes e h (.slice a n c) v) k:=by
 have d:=(A.of t).tail.bF<|Gc G W e2 v l
 subst z
 refine aPw (k:=fun x y=>k (x,y)) t ?_ (aS7 d u) hc (aBa<|Yk d) g w
 obtain⟨B,c2,rfl⟩:=Dk d
 rfl
def Hs.pQ {d L2 g j:IB} (A B C D:HP) (m:Hs G h L) [k:fU A L d] [o:fU B d L2] [r:fU C L2 g] [n:fU D g j]:Hs G h (A::B::C::D::j):=
 (m.dR A B C).cH (((n.cH.cons C).cons B).cons A)
def Hs.sn {d:IB} {D:HP} (E:HP) (g:Hs G h (A::B::C::D::L)) [k:fU E L d]:Hs G h (A::B::C::D::E::d):=g.cH<|(((k.cH.cons D).cons C).cons B).cons A
def zm (d:a=none->k (.bool true)) (g:a≠none->k (.bool false)):cE (bf .eql (.slice a n c)<|.slice none 0 0) k:=by
 cases a with
 |none=>exact⟨_,rfl,d rfl⟩
 |some a=>exact⟨_,rfl,g FF⟩
theorem zB {bytes:Nat} (d:Hs G h L) [m:eB (dY W e a c) L (n,cs) L'] (A:n*(bytes+1)<=2^46)
  (C:∀r t u,Hs G u (dY W e r t (n,cs)::dY W e a c (n,cs)::L')->Q (.slice r n t) u):
  cE (bf .eql (.slice a n c)<|.slice none 0 0) fun v0=>Br v0 (Q (.slice none 0 0) h) (cE (tQ [] []) fun B=>D9 h W e B 0 0 fun s3 y=>cE (oL W bytes e y s3<|.slice a n c) fun w=>(fun v5 z=>Q v5 z) w.1 w.2):=by
 have d:=m.of d
 refine zm (fun j=>gF ?_) fun _=>cS<|aZ rfl ?_
 .subst j;have E:n=0:=by
   rcases AY n with g|g;exact g;obtain⟨b,o,j,_⟩:=d.uZ g;cases j
  have D:=d.Hk
  simp_all[g6,none,jO]
 grind[dV,tG]
theorem Sb {bytes:Nat} {e2:TypeId} (j:Hs G h (Gc G W e2 v l::L)) (J:0<W) (C:l.length=n) (hc:l.flatten.all gM=true) (O:n*(bytes+1)<=2^46)
  (U:∀z o A,Hs G A (dY W e z o (n,l.flatten)::Gc G W e2 v l::L)->Q (.slice z n o) A):
  cE (bf .eql v<|.slice none 0 0) fun v0=>Br v0 (Q (.slice none 0 0) h) (cE (tQ [] []) fun y=>D9 h W e y 0 0 fun s3 d=>cE (oL W bytes e d s3 v) fun m=>(fun v5 t=>Q v5 t) m.1 m.2):=by
 obtain⟨a,c,D⟩:=Dk j
 have w:a=none->l=[]:=by
  intro g;subst g;refine j.y5 fun r u=>?_;obtain⟨N,⟨⟨a,o,d,B⟩,_⟩|⟨a,o,d,u⟩⟩:=u;grind[Nat.eq_zero_or_pos];rw[D] at d;cases d;rcases AY l.length with I|I;grind;obtain⟨_,_,⟨d,_⟩|⟨d,_⟩|⟨_,b,S,E,ex,g,_⟩⟩:=u;grind;grind;cases g
 have go:cE (tQ [] []) fun y=>D9 h W e y 0 0 fun s3 d=>cE (oL W bytes e d s3 v) fun m=>(fun v5 t=>Q v5 t) m.1 m.2:=by
  refine aZ rfl<|dV j FF rfl rfl ?_;intro T h j;refine aR6 (e2:=e2) j J C hc FB ?_;grind
 subst D
 refine zm (fun g=>gF ?_) fun _=>cS go
 obtain rfl:=w g
 subst C
 simp_all[none,jO]
variable {α:Type}
theorem Hs.aWj {A:Nat->α->HP} (d:α):∀(n:Nat) (L:IB),Hs G h (eP n (fun i=>A5<|A i)::L)->∃f:Nat->α,Hs G h (eP n (fun i=>A i<|f i)::L):=by
 intro n;induction n with
 |zero=>intro L g;exact⟨fun _=>d,g⟩
 |succ n m=>
  intro L g;have g:Hs G h (eP n (fun i=>A5<|A i)::A5 (A n)::L):=by
   have j:=g.fQ;rw[dx,kt,ef] at j;exact Hs.nY j
  obtain⟨f,g⟩:=m _ g;obtain⟨x,g⟩:=g.pS.Fl;refine⟨fun i=>if i=n then x else f i,(Hs.gq ?_)⟩;have e:(List.range n).map (fun i=>A i<|if i=n then x else f i)=(List.range n).map fun i=>A i (f i):=sz FB;grind[eP]
theorem Hs.aVo {f g:Nat->HP}:∀(n:Nat) (L:IB),Hs G h (eP n (fun i=>sp [f i,g i])::L)->Hs G h (eP n f::eP n g::L):=by
 intro n;induction n with
 |zero=>intro L d;exact Hs.jc (Hs.jc d.tail)
 |succ n m=>
  intro L d;have d:Hs G h (eP n (fun i=>sp [f i,g i])::sp [f n,g n]::L):=by
   have j:=d.fQ;rw[dx,kt,ef] at j;exact Hs.nY j
  have d:=m _ d;have d:=(d.bF<|sp [f n,g n]).Fk;have d:Hs G h _:=d.cH<|(List.Perm.swap _ _ _).cons _;exact(Hs.gq<|(Hs.gq d).dC (g n)<|eP n g).pS
theorem Hs.bt {o:Nat} {c:Nat->α->EU} {d:Nat->α->HP} (r:α) (t:∀i x,(c i x).length=W) (hc:∀i x,(c i x).all gM=true) (m:0<W) (j:0<n)
  (g:Hs G h (eP n (fun i=>A5 fun x=>sp [aN b (o+i*W)<|c i x,d i x])::gJ G W e (some ⟨b,o,none⟩) cap n b o::L)):
  ∃f:Nat->α,Hs G h (dY W e (some ⟨b,o,none⟩) cap (n,(List.range n).flatMap fun i=>c i<|f i)::eP n (fun i=>d i<|f i)::L):=by
 obtain⟨f,g⟩:=Hs.aWj r n _ g
 refine⟨f,?_⟩
 have g:=Hs.aVo n _ g
 exact Hs.rQ ((aOg FB m n _ j g).dR (aN b o<|(List.range n).flatMap fun i=>c i<|f i) (gJ G W e (some ⟨b,o,none⟩) cap n b o)<|eP n fun i=>d i<|f i) (xO FB n) FB
def Hs.Yu {c:Nat->EU} (m:∀i,(c i).length=W) (g:0<n) (d:Hs G h (dY W e a cap (n,(List.range n).flatMap c)::L)):
  ∃b o,a=some ⟨b,o,none⟩/\Hs G h (eP n (fun i=>aN b (o+i*W)<|c i)::gJ G W e a cap n b o::L):=by
 obtain⟨b,o,j,d⟩:=d.jV g
 exact⟨b,o,j,yn m n _ d⟩
theorem Hs.vg {o:Nat} {c:Nat->α->EU} {d:Nat->α->HP} (f:Nat->α) (t:∀i x,(c i x).length=W) (j:0<n)
  (g:Hs G h (dY W e (some ⟨b,o,none⟩) cap (n,(List.range n).flatMap fun i=>c i<|f i)::eP n (fun i=>d i<|f i)::L)):
  Hs G h (eP n (fun i=>A5 fun x=>sp [aN b (o+i*W)<|c i x,d i x])::gJ G W e (some ⟨b,o,none⟩) cap n b o::L):=by
 obtain⟨r,u,m,g⟩:=Hs.Yu FB j g
 cases m
 have g:=g.dC (eP n fun i=>aN b (o+i*W)<|c i<|f i)<|eP n fun i=>d i<|f i
 exact Hs.aRo (fun i h L g=>Hs.Cn (f i)<|Hs.nY g) n _ g
end Go.Ab
variable {f:Nat->EY} {cl:Nat}
namespace Go.Ab
variable {K:FuncId->EU->IE} {G:Bg} {h:AH} {M:IB}
abbrev ME:=Nat×Value×Nat
abbrev IK:=List ME
def Ar (es:IK):List (Value×Value×Nat):=es.map fun x=>(I x.1,x.2.1,x.2.2)
def dq (n:Int):IK->Nat->Option (Nat×Value)
 |[],_=>none
 |x::d,i=>if n=(x.1:Int) then some (i,x.2.1) else dq n d (i+1)
theorem I1 (n:Int):∀(es:IK) (i:Nat),Dg .i64 n (Ar es) i=some (dq n es i)
 |[],i=>rfl
 |x::es,i=>by
  show(if IntKind.i64=IntKind.i64 then(if n=(x.1:Int) then some _ else Dg .i64 n (Ar es) _) else none)=_;rw[bA1 rfl,I1 n es _];by_cases e:n=(x.1:Int);simp_all[bA1,dq];simp_all[bA0,dq]
structure MOk (es:IK) (clock:Nat):Prop where
 nd:(es.map (·.1)).Nodup
 st:∀x∈es,x.2.2<clock
 sd:(es.map (·.2.2)).Nodup
 kb:∀x∈es,x.1<16
def qS (es:IK) (k:Nat):EY:=(dq k es 0).map (·.2)
theorem Zv {n:Int}:∀{es:IK} {i j:Nat} {v:Value},dq n es i=some (j,v)->i<=j/\∃x,es[j - i]?=some x/\(x.1:Int)=n/\x.2.1=v
 |[],i,j,v,h=>FH
 |x::es,i,j,v,h=>by
  unfold dq at h;split at h;grind;obtain⟨d,y,g,m,o⟩:=Zv h;grind
def V8 {n:Int}:∀{es:IK} {i:Nat},(dq n es<|i+1).map (·.2)=(dq n es i).map (·.2)
 |[],_=>rfl
 |x::es,i=>by
  unfold dq;split;rfl;exact V8
theorem tA {x:ME} {es:IK} {k:Nat}:qS (x::es) k=if k=x.1 then some x.2.1 else qS es k:=by
 unfold qS;rw[dq];by_cases e:k=x.1;grind;rw[aaa,bA0 e];exact V8
theorem aBn {x:ME} {es:IK} {k:Nat}:qS (es++[x]) k=(qS es k).or (if k=x.1 then some x.2.1 else none):=by
 induction es with
 |nil=>grind[tA,qS,dq]
 |cons y es d=>grind[tA]
theorem E3 {es:IK} {k:Nat}:qS es k=none↔k∉es.map (·.1):=by
 induction es with
 |nil=>simp[qS,dq]
 |cons y es d=>grind[tA]
theorem aCx {es:IK} {x:ME} {k:Nat} (d:es[i]?=some x) (g:(es.map (·.1)).Nodup):qS (es.modify i fun e=>(x.1,v,e.2.2)) k=if k=x.1 then some v else qS es k:=by
 induction es generalizing i with
 |nil=>simp at d
 |cons y es j=>
  cases i with
  |zero=>
   grind[List.getElem?_cons_zero,Option.some.injEq,List.modify_zero_cons,tA]
  |succ i=>
   grind[List.getElem?_cons_succ,List.mem_of_getElem?,List.modify_succ_cons,tA]
theorem aBd {es:IK} {x:ME} {k:Nat} (d:es[i]?=some x) (g:(es.map (·.1)).Nodup):qS (es.eraseIdx i) k=if k=x.1 then none else qS es k:=by
 induction es generalizing i with
 |nil=>simp at d
 |cons y es j=>
  cases i with
  |zero=>
   grind[List.getElem?_cons_zero,Option.some.injEq,List.eraseIdx_cons_zero,tA,E3]
  |succ i=>
   grind[List.getElem?_cons_succ,List.mem_of_getElem?,tA]
def Tm {α:Type} (f:Nat->α) (i:Nat) (v:α):Nat->α:=fun j=>if j=i then v else f j
def qV (b:Nat) (f:Nat->EY):HP:=A5 fun x:IK×Nat=>sp [Dm (MOk x.1 x.2/\∀k,qS x.1 k=f k),ot b<|.map (Ar x.1) x.2]
def Ho (g:Hs G h (qV b f::L)):∃d cl,(MOk d cl/\∀k,qS d k=f k)/\Hs G h (ot b (.map (Ar d) cl)::L):=by
 obtain⟨⟨d,cl⟩,g⟩:=g.Fl;obtain⟨j,g⟩:=(Hs.fQ g).yv;exact⟨d,cl,j,g⟩
def zO {es:IK} (d:MOk es cl) (g:∀k,qS es k=f k) (j:Hs G h (ot b (.map (Ar es) cl)::L)):Hs G h (qV b f::L):=
 Hs.Cn (A:=fun x:IK×Nat=>sp [Dm (MOk x.1 x.2/\∀k,qS x.1 k=f k),ot b<|.map (Ar x.1) x.2]) (es,cl) (Hs.nY (A:=[_,_])<|Hs.bh ⟨d,g⟩ j)
def aGb {k:Nat->AH->Prop} (j:Hs G h L) (g:∀p d,Hs G d (qV p (fun _=>none)::L)->k p d):K1 h (.map [] 0) k:=
 g _ _ (zO (es:=[]) (cl:=0) ⟨FF,FF,FF,FF⟩ (fun _=>rfl)<|j.aRl rfl)
def T7 {o:vQ} (d:Sf o=true) (g:Hs G h (ot b o::L)):h.get b=some o/\h.base<=b:=⟨(Hs.G4 (o':=o) d g).1,(Hs.G4 (o':=o) d g).2.1⟩
theorem aY6 {z:Value} {n:Int} {ok:Bool} (g:Hs G h L) [m:eB (qV b) L f L']
  (j:k (match(if 0<=n then f n.toNat else none) with
   |some v=>if ok then .tuple ⟨[v,.bool true]⟩ else v
   |none=>if ok then .tuple ⟨[z,.bool false]⟩ else z)):cE (lkV z h (lE b) (I n) ok) k:=by
 obtain⟨d,cl,⟨r,t⟩,g⟩:=Ho<|m.of g
 have o:vx h (lE b)=some (Ar d):=by unfold vx lE;simp only[(T7 rfl g).1]
 have e:(dq n d 0).map (·.2)=if 0<=n then f n.toNat else none:=by
  split;grind[qS];cases hx:dq n d 0 with
  |none=>rfl
  |some p=>
   obtain⟨_,x,_,u,_⟩:=Zv hx;omega
 rw[<-e] at j
 unfold lkV
 rw[o]
 simp only[I1]
 cases hx:dq n d 0 with
 |none=>simp_all
 |some p=>simp_all
theorem aSq {es:IK} {x:ME} (d:es[i]?=some x):(es.modify i fun e=>(x.1,v,e.2.2)).map (·.1)=es.map (·.1)/\(es.modify i fun e=>(x.1,v,e.2.2)).map (·.2.2)=es.map (·.2.2):=by
 induction es generalizing i with
 |nil=>simp at d
 |cons y es g=>
  grind
theorem aEx {es:IK} {x:ME} (d:es[i]?=some x):(Ar es).modify i (fun e=>(I x.1,v,e.2.2))=Ar (es.modify i fun e=>(x.1,v,e.2.2)):=by
 unfold Ar;induction es generalizing i with
 |nil=>simp at d
 |cons y es g=>
  grind
def j9:∀{es:IK} {i:Nat},(Ar es).eraseIdx i=Ar (es.eraseIdx i)
 |[],_=>rfl
 |x::es,0=>rfl
 |x::es,i+1=>by
  show(_::(Ar es).eraseIdx i)=(_::Ar _);rw[j9]
theorem Zg {k:AH->Prop} (r:Hs G h L) [m:eB (qV b) L f L'] (U:i<16) (D:∀B,Hs G B (qV b (Tm f i<|some v)::L')->k B):cE (Xz h (lE b) (I i) v) k:=by
 obtain⟨o,cl,⟨g,O⟩,r⟩:=Ho<|m.of r;obtain⟨J,T⟩:=T7 rfl r;unfold Xz lE;simp only[J,bA0<|show ¬b<h.base by omega];unfold aNa;simp only[I1];cases d:dq _ o 0 with
 |none=>
  have V:qS o i=none:=by unfold qS;rw[d];rfl
  refine⟨_,rfl,D _ ?_⟩;have e:Ar o++[(Value.int .i64 (i:Int),v,cl)]=Ar (o++[(i,v,cl)]):=by unfold Ar;grind
  rw[e];refine zO ⟨?_,?_,?_,?_⟩ ?_ (Hs.G4 rfl r).2.2;rw[kt,EC];refine⟨g.nd,FF,?_⟩;grind[E3];intro x d;rcases cj.1 d with d|d;have:=g.st x d;omega;grind;rw[kt,EC];refine⟨g.sd,FF,?_⟩;intro a E c C e;have C:c=cl:=by simpa using C
  obtain⟨x,d,rfl⟩:=eV.1 E;have:=g.st x d;omega;intro x d;rcases cj.1 d with d|d;exact g.kb x d;grind;intro j;rw[aBn];unfold Tm;grind
 |some p=>
  obtain⟨_,x,u,Q,S⟩:=Zv d;rw[EL] at u;have t:x.1=i:=FA
  refine⟨_,rfl,D _ ?_⟩;have:=aEx (v:=v) u;rw[t] at this;rw[this];obtain⟨n1,A⟩:=aSq (v:=v) u;rw[t] at n1 A;refine zO ⟨by rw[n1];exact g.nd,?_,by rw[A];exact g.sd,?_⟩ ?_ (Hs.G4 rfl r).2.2;intro y N;have:y.2.2∈(o.modify p.1 fun e=>(i,v,e.2.2)).map (·.2.2):=FB;rw[A] at this;obtain⟨z,w,n⟩:=eV.1 this;rw[<-n];exact g.st z w;intro y N;have:y.1∈(o.modify p.1 fun e=>(i,v,e.2.2)).map (·.1):=FB;rw[n1] at this;obtain⟨z,w,n⟩:=eV.1 this;rw[<-n];exact g.kb z w;intro j;have:=aCx (v:=v) (k:=j) u g.nd;grind[Tm]
theorem aRp {k:AH->Prop} (n:Hs G h L) [m:eB (qV b) L f L'] (z:∀u,Hs G u (qV b (Tm f i none)::L')->k u):cE (Xd h (lE b)<|I i) k:=by
 obtain⟨o,cl,⟨g,A⟩,n⟩:=Ho<|m.of n;obtain⟨B,E⟩:=T7 rfl n;unfold Xd lE;simp only[B,bA0<|show ¬b<h.base by omega,I1];cases hx:dq _ o 0 with
 |none=>
  have J:qS o i=none:=by unfold qS;rw[hx];rfl
  refine⟨_,rfl,z _<|zO g (fun j=>?_) (Hs.G4 rfl n).2.2⟩;unfold Tm;grind
 |some p=>
  obtain⟨_,x,w,C,D⟩:=Zv hx;rw[EL] at w;have r:x.1=i:=FA
  refine⟨_,rfl,z _ ?_⟩;rw[j9];have d:=List.eraseIdx_sublist o p.1;refine zO ⟨(d.map _).nodup g.nd,fun y t=>g.st y<|d.mem t,(d.map _).nodup g.sd,fun y t=>g.kb y<|d.mem t⟩ (fun j=>?_) (Hs.G4 rfl n).2.2;rw[aBd w g.nd,r,A j];rfl
theorem aS9 (d:Hs G h L) [m:eB (qV b) L f L'] (j:∀n:Nat,k<|I n):cE (aEf h<|lE b) k:=by
 obtain⟨g,cl,_,d⟩:=Ho<|m.of d;obtain⟨o,_⟩:=T7 rfl d;refine⟨I (Ar g).length,?_,j _⟩;grind[aEf,vx,lE]
theorem mo {x y:Int} {l:EV}:y∈Kl x l↔y=x\/y∈l:=by
 induction l with
 |nil=>simp[Kl]
 |cons a l d=>unfold Kl;grind
theorem Xb {y:Int} {l:EV}:y∈Aq l↔y∈l:=by
 induction l with
 |nil=>simp[Aq]
 |cons a l d=>grind[Aq,mo]
theorem pb {x:Int} {l:EV} (h:l.Pairwise (·<·)) (d:x∉l):(Kl x l).Pairwise (·<·):=by
 induction l with
 |nil=>simp[Kl]
 |cons a l g=>
  grind[List.pairwise_cons,Kl,mo]
def Zi {l:EV} (h:l.Nodup):(Aq l).Pairwise (·<·):=by
 induction l with
 |nil=>simp[Aq]
 |cons a l j=>
  obtain⟨d,g⟩:=CB.1 h;exact pb (j g) fun e=>d<|Xb.1 e
theorem uw {l m:EV} (g:l.Pairwise (·<·)) (j:m.Pairwise (·<·)) (h:∀x,x∈l↔x∈m):l=m:=by
 induction l generalizing m with
 |nil=>
  cases m with
  |nil=>rfl
  |cons y m=>exact absurd ((h y).2 FF) FF
 |cons x l u=>
  cases m with
  |nil=>grind
  |cons y m=>
   obtain⟨a1,n⟩:=BU.1 g;obtain⟨o,r⟩:=BU.1 j;have e:x=y:=by
    have d:=(h x).1 FF;have t:=(h y).2 FF;rcases eD.1 d with e|d;exact e;grind
   grind
def Jm (f:Nat->EY):EW:=(List.range 16).filter fun k=>(f k).isSome
theorem qx (es:IK):Kx (Ar es)=some (es.map fun x=>(x.1:Int)):=by
 induction es with
 |nil=>rfl
 |cons x es d=>
  grind[Kx,Ar]
def Y2 (n:Nat):(List.range n).Pairwise (·<·):=List.pairwise_lt_range
theorem O9 {es:IK} (g:MOk es cl) (j:∀k,qS es k=f k):Aq (es.map fun x=>(x.1:Int))=(Jm f).map fun k:Nat=>(k:Int):=by
 refine uw (Zi ?_) ?_ fun x=>?_;have:=g.nd;grind;exact List.Pairwise.map (R:=(·<·)) _ FA<|List.Pairwise.filter _<|Y2 16;rw[Xb];simp only[eV,Jm,BB,z2];constructor;rintro ⟨y,n,rfl⟩;refine⟨y.1,⟨g.kb y n,?_⟩,rfl⟩;rw[<-j];cases hl:qS es y.1 with
 |none=>grind[absurd,E3]
 |some v=>rfl
 rintro ⟨k,⟨_,d⟩,rfl⟩;rw[<-j] at d;have:k∈es.map (·.1):=by
  refine gg fun m=>?_;rw[E3.2 m] at d;cases d
 grind
theorem Sn {cl:Nat}:∀{es:IK},(∀x∈es,x.2.2<cl)->(es.map (·.2.2)).Nodup->H9 cl (Ar es)=true
 |[],_,_=>rfl
 |x::es,h,g=>by
  simp only[kd,CB] at g;show(Nat.blt x.2.2 cl&&((Ar es).all fun y=> !Nat.beq _ x.2.2)&&H9 cl (Ar es))=true;rw[Sn (fun y d=>h y<|ca _ d) g.2,DC,ep];refine⟨m4<|h x FF,?_⟩;rw[ss];intro y d;obtain⟨z,j,rfl⟩:=eV.1 d;have:z.2.2≠x.2.2:=FB;cases hb:Nat.beq _ _ with
  |false=>rfl
  |true=>simp_all
theorem ly:∀{l:EW},(∀x∈l,x<16)->l.Nodup->Xi (l.map fun k:Nat=>(k:Int))=true
 |[],_,_=>rfl
 |x::l,h,g=>by
  obtain⟨j,d⟩:=CB.1 g;show((Lit.int .i64 (x:Int)).wf&&((l.map fun k:Nat=>(k:Int)).all fun y=> !(y==(x:Int)))&&Xi _)=true;rw[ly FB d,DC,ep];refine⟨?_,?_⟩;have:x=0\/x=1\/x=2\/x=3\/x=4\/x=5\/x=6\/x=7\/x=8\/x=9\/x=10\/x=11\/x=12\/x=13\/x=14\/x=15:=by have:=h x FF;omega
  rcases this with rfl|rfl|rfl|rfl|rfl|rfl|rfl|rfl|rfl|rfl|rfl|rfl|rfl|rfl|rfl|rfl<;>rfl;grind
theorem aKp {x:Int} {l:EV}:(Kl x l).length=l.length+1:=by
 induction l with
 |nil=>rfl
 |cons a l d=>grind[Kl]
theorem aDq {l:EV}:(Aq l).length=l.length:=by
 induction l with
 |nil=>rfl
 |cons a l d=>grind[Aq,aKp]
theorem aLu {es:IK} (d:MOk es cl):es.length<=16:=by
 have h:=l6 List.length<|O9 d fun _=>rfl;rw[aDq,js,js] at h;rw[h];have:=qv (fun k=>(qS es k).isSome)<|List.range 16;exact this
theorem aAi {f:FuncId} {args:EU} {F:AH->Option (Value×AH)} {d:AH} (j:K f args=some (.pn F)) (hF:F h=some (v,d)) (g:Q v d):Cl P K f args h Q:=by
 refine⟨1,(⟨.vV,[],[],v⟩,d),?_,g⟩;show sU P K _ f args h=_;grind[sU]
theorem aJp {f:FuncId} {args:EU} {e2:TypeId} {d:Nat->EY} (T:K f args=some (.pn<|Iu e c)) (V:Hs G h (aN c 0 [lE b]::mt c (e2,true,1)::qV b d::L))
  (hk:∀a D J,Hs G J (dY 1 e a D ((Jm d).length,(Jm d).map fun k:Nat=>I k)::qV b d::L)->Q (.slice a (Jm d).length D) J):Cl P K f args h Q:=by
 have n:=V
 obtain⟨o,cl,⟨m,X⟩,C⟩:=Ho<|(V.cH<|(List.Perm.swap _ _ _).cons _).cH<|List.Perm.swap _ _ _
 obtain⟨Z,hb⟩:=T7 rfl C
 have g:∃E,h.get c=some (.cells [lE b] E (0,0) true):=by
  obtain⟨r,r2,hr,w,hd,hi,u⟩:=n.fst;obtain⟨r3,r4,z,β,t,rfl⟩:=w;cases hr;cases z;obtain⟨i1,i2⟩:=(eJ.jC t).1 u;obtain⟨_,c',N,Y⟩:=i1.mt c e2 true 1 FF;obtain⟨_,c2,e3,x3,O,S⟩:=hi.gL c 0 (lE b) (by simp[xD]);rw[N] at O;cases O;refine⟨e2,?_⟩;rw[N];obtain⟨v,rfl⟩:=List.length_eq_one_iff.1 Y;simp only[r5,Option.some.injEq] at S;rw[S]
 obtain⟨E,g⟩:=g
 have hF:Iu e c h=some (xd h e<|Aq<|o.map fun x=>(x.1:Int)):=by
  unfold Iu;simp only[g,lE,Z,qx];rw[bA1];rw[ep,ep];refine⟨⟨?_,Sn m.st m.sd⟩,?_⟩;grind[aLu,List.length_map,Nat.ble_eq_true_of_le];rw[show(o.map fun x=>(x.1:Int))=(o.map (·.1)).map fun k:Nat=>(k:Int) by simp_all];exact ly (fun x hx=>by obtain⟨y,hy,rfl⟩:=eV.1 hx;exact m.kb y hy) m.nd
 rw[O9 m X] at hF
 have B:Hs G h _:=n.tail.tail
 cases hkf:Jm d with
 |nil=>
  rw[hkf] at hF
  refine aAi T hF ?_
  simp_all[none,jO]
 |cons x l=>
  rw[hkf] at hF
  refine aAi T hF ?_
  have j:=hk (some ⟨h.next,0,none⟩) (Jm d).length<|h.alloc<|.cells (((Jm d).map fun k:Nat=>(k:Int)).map<|Value.int .i64) e (0,0) false
  rw[hkf] at j
  simp only[hK,kd,js] at j ⊢
  refine j ?_
  refine Hs.Dl (A:=[_,_]) (B.kD (c:=Value.int .i64 (x:Int)::((l.map fun k:Nat=>(k:Int)).map<|Value.int .i64)) (e:=e) (x:=false)) fun q U=>?_
  have U:=Ae U
  refine⟨FF,?_,.inr<|.inr ⟨b0 _,_,[],[],false,rfl,FF,?_⟩⟩
  .simp[gM]
  grind[List.map_map,Function.comp_def]
class Fx {α:Type} (enc:α->EU) (W:outParam Nat):Prop where
 len:∀x,(enc x).length=W
 cel:∀x,(enc x).all gM=true
def eL {α:Type} (enc:α->EU) (l:List α):EU:=l.flatMap enc
variable {α:Type}
section
variable {enc:α->EU} [F:Fx enc W]
omit F in
@[simp] theorem aRi:eL enc []=[]:=rfl
omit F in
def uV {x:α} {l:List α}:eL enc (x::l)=enc x++eL enc l:=rfl
omit F in
theorem aH9 {l m:List α}:eL enc (l++m)=eL enc l++eL enc m:=by simp[eL]
theorem J1 {l:List α}:(eL enc l).length=l.length*W:=by
 induction l with
 |nil=>simp
 |cons x l d=>rw[uV,cV,F.len,d,hK,ux];omega
include F in
theorem Tz {l:List α}:(eL enc l).all gM=true:=by
 induction l with
 |nil=>rfl
 |cons x l d=>rw[uV,DL,F.cel,d];rfl
def Yy {l:List α}:∀{i:Nat},(eL enc l).drop (i*W)=eL enc (l.drop i):=by
 induction l with
 |nil=>intro i;simp
 |cons x l d=>
  intro i;cases i with
  |zero=>simp
  |succ i=>
   rw[uV,CK,ux,CZ,eg<|by rw[F.len];omega,F.len,show i*W+W - W=i*W by omega,d,gk]
def yf {l:List α}:∀{i:Nat},(eL enc l).take (i*W)=eL enc (l.take i):=by
 induction l with
 |nil=>intro i;simp
 |cons x l d=>
  intro i;cases i with
  |zero=>simp
  |succ i=>
   rw[uV,BK,uV,ux,CX,e6<|by rw[F.len];omega,F.len,show i*W+W - W=i*W by omega,d]
def aGy {l:List α} {x:α} (h:l[i]?=some x):((eL enc l).drop<|i*W).take W=enc x:=by
 obtain⟨g,d⟩:=eh.1 h;rw[Yy,mn g,uV,d];exact List.take_left'<|F.len x
theorem Z8 {l:List α} {x:α} (h:l[i]?=some x) (g:(enc x)[j]?=some v):(eL enc l)[i*W+j]?=some v:=by
 have d:=aGy (enc:=enc) h;grind
def aG0 {l:List α} {y:α} (d:i<l.length):bM (eL enc l) (i*W) (enc y)=eL enc (l.set i y):=by
 rw[<-tS _ _ _ (by rw[J1,F.len,<-ux];exact og _ d)];unfold dU;rw[yf,F.len,<-ux,Yy,List.set_eq_take_append_cons_drop,bA1 d,aH9,uV,ef]
def ls (enc:α->EU) (W:Nat) (e:TypeId) (a:EX) (c:Nat) (l:List α):HP:=dY W e a c (l.length,eL enc l)
omit F in
def wY [Fx enc W] {e:TypeId} (d:Hs G h L):Hs G h (ls enc W e none 0 []::L):=jO d
variable {l:List α}
omit F in
def tB {x:α} (d:Hs G h (dY W e a c (1,enc x)::L)):Hs G h (ls enc W e a c [x]::L):=by
 unfold ls;rw[uV,aRi,g7];exact d
theorem Ac {i:Int} {x:α} (o:Hs G h L) [m:eB (ls enc W e a c) L l L'] (g:0<W) (d:0<=i) (r:l[i.toNat]?=some x) (n:k (.agg ⟨enc x⟩)):cE (qY W (.slice a l.length c)<|I i) fun p=>cE (zJ h W p) k:=by
 obtain⟨j,rfl⟩:=aL d;exact aG4 (e:=e) (show Hs G h (dY W e a c (l.length,eL enc l)::L') from m.of o) g FB (aGy r) (F.len x) n
theorem aIm {i:Int} {x:α} (o:Hs G h L) [m:eB (ls enc W e a c) L l L'] (d:0<=i) (t:l[i.toNat]?=some x) (r:(enc x)[j]?=some u) (g:k u):cE (qY W (.slice a l.length c)<|I i) fun p=>cE (mC j p) fun q=>cE (xE h q) k:=by
 obtain⟨n,rfl⟩:=aL d;exact aI9 (e:=e) (show Hs G h (dY W e a c (l.length,eL enc l)::L') from m.of o) FB (Z8 t r) g
theorem zn {i:Int} {y:α} {k:AH->Prop} (u:Hs G h L) [m:eB (ls enc W e a c) L l L'] (w:0<W) (t:0<=i) (z:i<l.length) (A:∀g,Hs G g (ls enc W e a c (l.set i.toNat y)::L')->k g):cE (qY W (.slice a l.length c)<|I i) fun p=>cE (Ba h W p<|.agg ⟨enc y⟩) k:=by
 obtain⟨n,rfl⟩:=aL t;have j:n<l.length:=FA
 obtain⟨b,o,rfl,r⟩:=(m.of u).jV FA;refine fD j ?_;rw[show pt b _ 0=pt b o (n*W) by simp[pt]];have hle:n*W+W<=(eL enc l).length:=by rw[J1,<-ux];exact og _ j
 refine cF r (F.len y) (m4 hle) (F.cel y) (m4 FA) fun g d=>?_;rw[aG0 j] at d;grind[Int.toNat_natCast,ls,List.length_set,Hs.rQ,J1,Tz]
omit F in
theorem qT [Fx enc W] {bytes c2:Nat} {a2:EX} {l2:List α} {k:Value×AH->Prop} (o:Hs G h L) [m:eB (ls enc W e a c) L l L'] [u:eB (ls enc W e a2 c2) L' l2 M] (t:(l.length+l2.length)*(bytes+1)<=2^46)
  (w:∀g j n,Hs G n (ls enc W e g j (l++l2)::ls enc W e a2 c2 l2::M)->k (.slice g (l++l2).length j,n)):cE (oL W bytes e h (.slice a l.length c)<|.slice a2 l2.length c2) k:=by
 have d:=m.of o
 have r:Hs G h (dY W e a c (l.length,eL enc l)::dY W e a2 c2 (l2.length,eL enc l2)::M):=((d.cH<|(u.cH.cons _).trans<|List.Perm.swap _ _ _)).pS
 grind[tG,ls,List.length_append,aH9]
end
def aTw {a b:Int} (d:k (I<|if b<a then b else a)):cE (Hj (I a)<|I b) k:=⟨_,rfl,d⟩
theorem aO9 {enc:α->EU} {l:List α} (z:Hs G h L) [m:eB (ls enc W e a c) L l L'] (E:i<l.length) (u:i<=j) (J:j<=l.length)
  (w:∀b o,a=some ⟨b,o,none⟩->k (.slice (some ⟨b,o+i*W,none⟩) (j - i)<|c - i)):cE (Fs W h (.slice a l.length c) (some<|I i) (some<|I j) none) k:=by
 have A:l.length<=c/\∃b o,a=some ⟨b,o,none⟩:=(m.of z).y5 fun r y=>by
  obtain⟨_,_,⟨d,_⟩|⟨d,_⟩|⟨d,b,B,g,ex,C,_⟩⟩:=y;grind;grind;grind
 obtain⟨D,b,o,rfl⟩:=A
 refine⟨_,?_,w b o rfl⟩
 have n:sW none c c=some c:=by simp[sW]
 have e2:sW (some<|I j) l.length c=some j:=by simp[sW];omega
 have t:sW (some<|I i) 0 j=some i:=by simp[sW];omega
 unfold Fs
 simp only[n,e2,t,AZ,sr,aO,dd,dn]
 rw[aac,aaa,fA]
def aT5 {enc:α->EU} [F:Fx enc W] {o:Nat} {l:List α} {x:α} (u:Hs G h L) [m:eB (ls enc W e (some ⟨b,o,none⟩) c) L l L'] (j:0<W) (g:l[n]?=some x) (t:k (.agg ⟨enc x⟩)):cE (zJ h W<|pt b (o+n*W) 0) k:=by
 have y:=(eh.1 g).1;obtain⟨w,z,r,d⟩:=(m.of u).jV FA;cases r;rw[show pt b _ 0=pt b o (n*W) by simp[pt]];exact bB d j (aGy g) (F.len x) t
theorem aWi {k:Value->AH->Prop} (V:0<W) (B:∀m,(iE z m).length=m*W/\(iE z m).all gM=true) (hi:i<n) (g:Hs G h L) [m:eB (dY W e a c) L (n,cs) L']
  (Z:∀D,Hs G D (dY W e a c (i,cs.take<|i*W)::L')->k (.slice a i c) D):
  cE (Fs W h (.slice a n c) (some<|I i) none none) fun v0=>cE (nR z h v0) fun O=>(fun _ E=>cE (Fs W E (.slice a n c) none (some<|I i) none) fun v4=>k v4 E) O.1 O.2:=by
 have g:=m.of g
 have hl:=g.Hk
 have X:=g.Gv
 simp only at hl X
 have d:n<=c:=by
  obtain⟨r,r2,⟨_,_,hr⟩,_⟩:=g.fst;rcases hr with⟨B,_⟩|⟨B,_⟩|⟨d,_⟩;grind;grind;exact d
 obtain⟨b,o,rfl,H,w,close⟩:=g.uZ FA
 have J:0<n*W:=Nat.mul_pos FA V
 have C:sW none c c=some c:=rfl
 have Q:sW (some<|I i) n c=some i:=FQ
 have S:sW none 0 i=some 0:=rfl
 have T:sW none n c=some n:=rfl
 have U:sW (some<|I i) 0 n=some i:=FQ
 have Y:i*W<=n*W:=og W FA
 have N:(n - i)*W=n*W - i*W:=FB
 refine⟨.slice (some ⟨b,o+i*W,none⟩) (n - i)<|c - i,?_,?_⟩
 .simp only[Fs,C,T,U,AA,dn,p9,aO,dd,fA,FA];grind
 obtain⟨u,A,t⟩:=w.iS (j:=i*W) (vs:=iE z<|n - i) FB (B _).2 FA
 refine⟨(.tuple #[],u),?_,?_⟩
 .simp only[nR,bA0<|show ¬n - i=0 by omega,A,rk]
 refine⟨_,?_,Z u ?_⟩
 .simp only[Fs,C,Q,S,AZ,sr,dn,aO,dd,FA,fA];grind
 have y:dU cs (i*W) (iE z<|n - i)=cs.take (i*W)++iE z (n - i):=by
  unfold dU;rw[AT FB,g7]
 rw[y] at t
 refine Sa FA FA HC<|close u _ _ ?_ ?_ t
 .grind
 grind
instance {p:Nat}:Cv (lE p) [lE p]:=⟨rfl⟩
def aX0 {k:Nat->AH->Prop} (j:Hs G h L) [m:Cv v cs] (g:∀p d,Hs G d (aN p 0 cs::mt p (e,true,cs.length)::L)->k p d):cE (rE e v) fun b=>K1 h b k:=
 ⟨.cells cs e (0,0) true,by simp[rE,m.eq],g _ _ j.kD⟩
theorem Hs.aQt {r:Nat} {D:EW} {o:vQ} (ho:Sf o=true) (w:Hs G h (frs r n D::L)) (Z:i<n) (hD:i∉D):
  Hs G (h.set (r+i)<|some o) (ot (r+i) o::frs r n (i::D)::L):=by
 obtain⟨q,⟨r1,Q,T,U,B,V⟩,X⟩:=w.V2
 cases T
 subst V
 obtain⟨i1,i2⟩:=(eJ.jC B).1 X
 obtain⟨q1,q2,I,⟨q3,q4,J,N,β,z⟩,Y,O⟩:=dv (r:=r) Z hD
 cases I;cases N
 rw[eJ.add_comm FA,eJ.kE] at z
 subst z
 cases J
 rw[O] at i1 B
 obtain⟨i3,i4⟩:=(eJ.jC Y).1 i1
 obtain⟨fb,fn,fg⟩:=i3.kW (r+i) FF
 obtain⟨d1,d2⟩:=eJ.mN.1 B.symm
 have d:∀j,(h.set _ _).get j=if j=r+i then some o else h.get j:=fun j=>AH.oF<|cO w.le fb
 have t:=(eJ.jC d2.symm).2 ⟨i4,i2⟩
 have E:((⟨fun _ _=>none,fun b=>if r<=b/\b<r+n/\(b - r)∉(i::D) then some .kW else none⟩:eJ).add Q).A2 (r+i)=none:=by
  simp only[eJ.add];rw[bA0 FB];rcases d1.A2 (r+i) with h|h;grind;simp at h
 have y:(⟨fun _ _=>none,fun S=>if S=r+i then some (.Ni o) else none⟩:eJ).A8 ((⟨fun _ _=>none,fun b=>if r<=b/\b<r+n/\(b - r)∉(i::D) then some .kW else none⟩:eJ).add Q):=by
  refine⟨FB,fun b=>?_⟩;by_cases u:b=r+i;grind;grind
 refine⟨by simp;exact w.base,fun j A=>by rw[d,aaa];exact w.old j A,by simp;exact w.wf,fun j A=>by simp at A;rw[d,aaa];exact w.fr j A,
    _,⟨_,_,rfl,⟨_,Q,rfl,U,d2.symm,rfl⟩,y,rfl⟩,(eJ.jC y).2 ⟨?_,?_⟩⟩
 .refine⟨FB,fun b m=>?_,fun b e' x' n m=>?_,fun b o' m=>?_⟩
  .simp only at m;split at m<;>cases m
  .simp only at m;split at m<;>cases m
  .simp only at m;split at m
   .rename_i u;subst u;cases m;exact⟨fb,by rw[d,bA1 rfl],ho⟩
   .cases m
 .refine t.of FF FF fun b u=>?_;rw[d,bA0];intro C;subst C;rcases u with u|⟨o,u⟩
  .exact u E
  .apply u;cases hc:eJ.gL _ _ o with
   |none=>rfl
   |some v=>obtain⟨_,_,_,_,g,_⟩:=t.gL _ o v hc;grind
theorem th {r:Nat} {D:EW} {k:Nat->AH->Prop} (j:Hs G h L) [m:eB (xr r) L (n,D) L'] (t:Nat.blt i n=true) (hD:D.contains i=false)
  (g:∀p d,Hs G d (qV p (fun _=>none)::xr r (n,i::D)::L')->k p d):sO h (r+i) (.map [] 0) k:=
 g _ _ (zO (es:=[]) (cl:=0) ⟨FF,FF,FF,FF⟩ (fun _=>rfl)<|Hs.aQt (o:= .map [] 0) rfl (show Hs G h (frs r n D::L') from m.of j) GK FB)
def pE (p:Nat):EU:=[IV p]
instance:Fx pE 1 where
 len _:=rfl
 cel _:=rfl
def aEz {l:EW} (r:Hs G h L) [m:eB (ls pE 1 e a c) L l L'] (g:i<l.length) (n:k (IV<|l.getD i 0)):cE (qY 1 (.slice a l.length c)<|I i) fun p=>cE (xE h p) k:=by
 obtain⟨b,o,rfl,d⟩:=(m.of r).jV FA;refine fD g ?_;rw[show pt b _ 0=pt b o (i*1) by simp[pt]];exact aE d (Z8 (W:=1) (j:=0) (by rw[aP,bj g];rfl) rfl) n
theorem aJq {q:Nat} {l:EW} {k:AH->Prop} (u:Hs G h L) [m:eB (ls pE 1 e a c) L l L'] (j:i<l.length) (t:∀d,Hs G d (ls pE 1 e a c (l.set i q)::L')->k d):cE (qY 1 (.slice a l.length c)<|I i) fun p=>cE (Ba h 1 p<|IV q) k:=by
 obtain⟨b,o,rfl,g⟩:=(m.of u).jV FA;refine fD j ?_;rw[show pt b _ 0=pt b o (i*1) by simp[pt]];have n:(eL pE l).length=l.length*1:=J1;refine cF g rfl (m4 FA) rfl (m4 FA) fun d r=>t d ?_;have w:bM (eL pE l) _ [IV q]=eL pE _:=aG0 j;grind[ls,List.length_set,Hs.rQ,J1,Tz]
def wF {α:Type} (R:Nat->Nat->α->HP) (l:EW) (s:Nat->α):HP:=eP l.length fun k=>R k (l.getD k 0)<|s k
def Mk {α:Type} (R:Nat->Nat->α->HP) (l:EW) (s:Nat->α) (i:Nat):HP:=sp<|((List.range l.length).erase i).map fun k=>R k (l.getD k 0)<|s k
variable {R:Nat->Nat->α->HP} {l:EW} {s:Nat->α} {q:Nat} {x:α}
def kT (d:i<l.length) (g:Hs G h L) [m:eB (wF R l) L s L']:Hs G h (R i (l.getD i 0) (s i)::Mk R l s i::L'):=(show Hs G h (eP l.length (fun k=>R k (l.getD k 0)<|s k)::L') from m.of g).oI i d
def aF5 (d:i<l.length) (m:Hs G h (R i q x::Mk R l s i::L)):Hs G h (wF R (l.set i q) (fun j=>if j=i then x else s j)::L):=by
 unfold wF;rw[p7];refine Hs.aFm (f:=fun k=>R k (l.getD k 0)<|s k) d (fun j g=>?_) ?_;simp only[bA0 g,aP,CF];rw[bA0 fun e=>g e.symm];simp only[ew,aP,CF,d,p4];exact m
theorem Hx (d:i<l.length) (g:Hs G h (R i (l.getD i 0) x::Mk R l s i::L)):Hs G h (wF R l (fun j=>if j=i then x else s j)::L):=by
 have:=aF5 d g;simp_all
def Rg (d:Hs G h L):Hs G h (wF R [] s::L):=Hs.jc d
def Qt (g:Hs G h (R l.length q (s l.length)::wF R l s::L)):Hs G h (wF R (l++[q]) s::L):=by
 unfold wF;rw[cV,tb];refine Hs.gq ?_;have e:(l++[q]).getD l.length 0=q:=by simp[aP]
 rw[e];refine(wI (fun j d=>?_)<|g.cH<|List.Perm.swap _ _ _).cH (List.Perm.swap _ _ _);simp only[aP,q5 d]
end Go.Ab
variable {r:List (Option IntKind)}
namespace Go.Ab
open Go.RowKit Go.ChangeShapes Go.WideShapes Go.ChangeAt
variable {fs:Array Field}
section
variable {H:Type} {enc:TypeId×Value->H}
def aGz {W:World} {base:Nat} (g:P.underlying t=some (.struct fs)) (d:Value.okWide P W .any base t v):∃l,v= .agg ⟨l⟩/\l.length=P.cellsOf t:=by
 simp only[Value.okWide,g] at d;obtain⟨⟨l⟩,rfl,h,_⟩:=d;exact⟨l,rfl,h⟩
def Ck {W:World} {f:Field} {l:EU} {d:DataW H} {p:List MemPlace} (I:P.underlying t=some (.struct fs)) (y:fs[i]?=some f)
  (J:P.underlying f.type=some (.slice e)) (C:P.cellsOf f.type=1) (D:yY P n e=some r) (hc:P.cellsOf e=r.length) (B:0<r.length)
  (h:DataW.Trod enc P W 0 (fun _=>true) true t (.agg ⟨l⟩) d p):∃a len g,l[f.offset]?=some (.slice a len g)/\oD r W a len g:=by
 obtain⟨fuel,u⟩:=h
 obtain⟨O,m,_,_,S,N,j⟩:=CE I u
 have A:=j i f y
 have w:i<O.length:=by rw[N];exact(hY.1 y).1
 rw[bj w] at A
 obtain⟨a,len,g,o,E⟩:=N3 J D hc B A
 refine⟨a,len,g,?_,E⟩
 rw[C] at o
 have Q:(Value.cells<|.agg ⟨l⟩).toList=l:=by simp[Value.cells]
 have:=l6 (fun z=>z[0]?) o
 simpa [Value.cells] using this
end
def Js {α:Type} {f:α->EU} {R:α->Prop} {at':Nat->EU} (hex:∀i,i<n->∃x,at' i=f x/\R x):
  ∃l:List α,l.length=n/\(∀x∈l,R x)/\∀(G:Bg) (v:Value),zE G W v n at'->zE G W v (l.map f).length (fun i=>(l.map f).getD i []):=by
 let l:List α:=(List.finRange n).map fun i=>(hex i.1 i.2).choose
 have j:l.length=n:=by simp[l]
 have w:∀i,(d:i<n)->l[i]?=some (hex i d).choose:=fun i d=>by
  simp[l,km,bj<|show i<(List.finRange n).length by simp;exact d]
 refine⟨l,j,fun x z=>?_,fun G v y=>?_⟩
 .obtain⟨i,_,rfl⟩:=eV.1 z;exact(hex i.1 i.2).choose_spec.2
 .obtain⟨a,c,rfl,g⟩:=y;rw[js,j];refine⟨a,c,rfl,fun i d=>?_⟩;obtain⟨b,o,cells,m,r,t,u⟩:=g i d;refine⟨b,o,cells,m,r,?_,u⟩;rw[t,(hex i d).choose_spec.1];show f _=(l.map f).getD i [];rw[aP,km,w i d];rfl
def aGe (G:Bg) (v:Value) (n:Nat):Prop:=(v= .slice none 0 0/\n=0)\/(v= .slice (some ⟨0,0,some 0⟩) 0 0/\n=0)\/
 ∃k o c cells e d,v= .slice (some ⟨k,o,none⟩) n c/\0<n/\n<=c/\k<G.base/\G.old k=some (.cells cells e d false)
def C0 {w:World} (P:Program) {d:List (Option IntKind)} {len:Nat} (h:oD d w a len cap):∃(r:OB) (t:Nat->Value),aBk P w r/\
  (∀ρ k,ρ k=r.2->aR ρ (t k) (.slice a len cap))/\∃at':Nat->EU,(∀i,i<len->rL d (at' i))/\∀(G:Bg) k,k<G.base->G.old k=r.1->zE G d.length (t k) len at'/\aGe G (t k) len:=by
 rcases h with⟨rfl,rfl,rfl⟩|⟨x,rfl,rfl⟩|⟨x,cc,e,m,rfl,A,C,B,n,D,u⟩
 .refine⟨(none,none),fun _=> .slice none 0 0,⟨fun o h=>by(cases h),fun b s h=>FH⟩,fun ρ k _=>HD,fun _=>[],fun i g=>FA,fun G k _ _=>⟨⟨none,0,rfl,fun i g=>FA⟩,.inl ⟨rfl,rfl⟩⟩⟩
 .refine⟨(none,none),fun _=> .slice (some ⟨0,0,some 0⟩) 0 0,⟨fun o h=>by(cases h),fun b s h=>FH⟩,fun ρ k _=>?_,fun _=>[],fun i g=>FA,fun G k _ _=>⟨⟨some ⟨0,0,some 0⟩,0,rfl,fun i g=>FA⟩,.inr<|.inl ⟨rfl,rfl⟩⟩⟩;simp only[aR];exact⟨trivial,trivial,x,cap,fun h=>FA,fun h=>FA,rfl⟩
 .refine⟨(some<|.cells (cc.toList.map san) e m false,some (x.block,(0,0))),fun k=> .slice (some ⟨k,x.off,none⟩) len cap,⟨fun o h b s j=>?_,fun b s j=>?_⟩,fun ρ k j=>?_,fun i=>(cc.toList.drop<|x.off+i*d.length).take d.length,u,fun G k z y=>?_⟩
  .cases h;cases j;refine⟨_,n,fun ρ=>⟨cc,rfl,?_,FF,fun h=>FH⟩⟩;rw[js,l5,e6 FF];exact y9 _
  .cases j;exact(hY.1 n).1
  .exact⟨x.block,(0,0),cap,j,b0 _,FF,by cases x;subst C;rfl⟩
  .refine⟨⟨_,_,rfl,fun i g=>⟨k,x.off,_,rfl,⟨z,e,m,false,y⟩,?_,?_⟩⟩,.inr<|.inr ⟨k,x.off,cap,_,e,m,rfl,A,B,z,y⟩⟩
   .rw[<-List.map_drop,<-List.map_take];exact S3<|u i g
   .have:i*d.length<=len*d.length:=og _ FA;simp;omega
variable {G:Bg} {h:AH}
end Go.Ab
