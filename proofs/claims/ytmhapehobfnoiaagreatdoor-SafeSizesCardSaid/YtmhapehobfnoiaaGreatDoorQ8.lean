/- A part of the proof. -/
import Derived.Test.YtmhapehobfnoiaaGreatDoorQ6
import Derived.Test.YtmhapehobfnoiaaGreatDoorQ7
import Derived.Test.YtmhapehobfnoiaaGreatDoorQ5
section
namespace Go.Ab
noncomputable section
variable {P:Program} {K:FuncId->List Value->Option iL}
def hA:Unit:=Function.const _ () @Cl
def hB:Unit:=Function.const _ () hA
def hC:Unit:=Function.const _ () hB
def hD:Unit:=Function.const _ () hC
def hE:Unit:=Function.const _ () hD
def hG:Unit:=Function.const _ () hE
def hP (p:Prop):Prop:=(fun _:Unit=>p) hG
def hF:Prop:=hP False
inductive Kn where
 |un|ex|b (x:Bool)|sk|no
abbrev Ek:=List (Nat×Value×Kn)
def Ek.lk:Ek->Nat->Option (Value×Kn)
 |[],_=>none
 |(b,v,k)::a,t=>match Nat.beq b t with
  |true=>(match k with
   |.no=>none
   |k=>some (v,k))
  |false=>Ek.lk a t
def fF (a:Ek) (env:List Value):Prop:=∀t v k,a.lk t=some (v,k)->env[t]?=some v/\(∀x,k= .b x->v= .bool x)/\(k= .sk->v=undef)
def aIg (v:Value) (k:Value->Prop):Prop:=match v with
 |.int .i64 n=>k (I n)
 |v=>hP (k v)
def uD (P:Program) (a:Ek) (x:Operand) (k:Value->Prop):Prop:=match x with
 |.tmp t=>(match a.lk t with
  |some (v,_)=>k v
  |none=>hF)
 |.const v=>(match dQ v with
  |true=>aIg v k
  |false=>k top)
 |.global g=>(match Nat.blt g P.globals.size with
  |true=>k (.pointer (some ⟨g,0,none⟩))
  |false=>k top)
 |.func f=>k (.func (.func f) #[] #[])
theorem fA {a:Ek} {env:List Value} (i:fF a env) {x:Operand} {k:Value->Prop} (h:uD P a x k):k (cZ P env x):=by
 unfold uD at h;split at h;split at h;rename_i d;have:=(i _ _ _ d).1;simpa only[cZ,List.getD_eq_getElem?_getD,this,Option.getD_some] using h;cases h;split at h;rename_i f;simp only[cZ,f,if_true];unfold aIg at h;split at h<;>exact h;rename_i f;simpa only[cZ,f,Bool.false_eq_true,if_false] using h;split at h;rename_i g _ b;have:g<P.globals.size:=Nat.le_of_ble_eq_true b;simpa only[cZ,this,if_true] using h;rename_i g _ b;have:¬g<P.globals.size:=fun d=>by rw[show Nat.blt g P.globals.size=true from Nat.ble_eq_true_of_le d] at b;cases b
 simpa only[cZ,this,if_false] using h;exact h
def aB2 (P:Program) (a:Ek) (x:Option Operand) (k:Option Value->Prop):Prop:=match x with
 |none=>k none
 |some x=>uD P a x fun v=>k (some v)
theorem Y2 {a:Ek} {env:List Value} (b:fF a env) {x:Option Operand} {k:Option Value->Prop} (h:aB2 P a x k):k (x.map (cZ P env)):=by
 cases x with
 |none=>exact h
 |some x=>exact fA b h
def Ur (P:Program) (a:Ek):List Operand->(List Value->Prop)->Prop
 |[],k=>k []
 |x::l,k=>uD P a x fun v=>Ur P a l fun b=>k (v::b)
theorem Co {a:Ek} {env:List Value} (b:fF a env):∀{l:List Operand} {k:List Value->Prop},Ur P a l k->k (l.map (cZ P env))
 |[],_,h=>h
 |_::l,k,h=>by
  have d:=fA b h;have f:=Co b (l:=l) d;exact f
def fcL {α:Type}:List α->(List α->Prop)->Prop
 |[],k=>hP (k [])
 |v::l,k=>fcL l fun l=>k (v::l)
theorem Jt {α:Type}:∀{l:List α} {k:List α->Prop},fcL l k->k l
 |[],_,h=>h
 |_::l,_k,h=>Jt (l:=l) h
def Tq (P:Program) (t:TypeId) (k:Nat->Prop):Prop:=match P.info? t with
 |some ⟨_,_,n,_,_,_,_,_,_,_⟩=>k n
 |none=>hF
theorem rF {t:TypeId} {k:Nat->Prop} (h:Tq P t k):(P.info? t).isSome=true/\k (P.cellsOf t):=by
 unfold Tq at h;split at h;rename_i b;exact⟨by rw[b];rfl,by unfold Program.cellsOf;rw[b];exact h⟩;cases h
def Mn (P:Program) (a:Ek) (place:Nat->(Nat->Nat->Prop)->Prop):List (Nat×Operand)->(List (Nat×Nat×Value)->Prop)->Prop
 |[],k=>k []
 |(i,x)::rest,k=>place i fun b size=>uD P a x fun v=>Mn P a place rest fun l=>k ((b,size,v)::l)
theorem E0 {a:Ek} {env:List Value} (b:fF a env) {place:Nat->(Nat->Nat->Prop)->Prop} {pl:Nat->Option (Nat×Nat)} (d:∀i k,place i k->∃o s,pl i=some (o,s)/\k o s):
  ∀{l:List (Nat×Operand)} {k:List (Nat×Nat×Value)->Prop},Mn P a place l k->∃r,wX pl (cZ P env) l=some r/\k r
 |[],_,h=>⟨_,rfl,h⟩
 |(i,x)::rest,_,h=>by
  obtain⟨o,s,f,g⟩:=d _ _ h;obtain⟨r,j,m⟩:=E0 b d (fA b g);exact⟨_,by simp only[wX,f,j],m⟩
def plS (P:Program) (fs:Array Field) (i:Nat) (k:Nat->Nat->Prop):Prop:=match fs[i]? with
 |some ⟨_,t,b,_,_,_,_⟩=>Tq P t fun n=>k b n
 |none=>hF
theorem aHr {fs:Array Field} (i:Nat) (k:Nat->Nat->Prop) (h:plS P fs i k):∃o s,((fs[i]?).map fun f=>(f.offset,P.cellsOf f.type))=some (o,s)/\k o s:=by
 unfold plS at h;split at h;rename_i b;exact⟨_,_,by rw[b];rfl,(rF h).2⟩;cases h
def plA (n:Nat) (i:Nat) (k:Nat->Nat->Prop):Prop:=hP (k (i*n) n)
def wZ (P:Program) (t:TypeId) (k:List Value->Prop):Prop:=match zeroOf P t with
 |some z=>fcL z k
 |none=>hF
theorem lx {t:TypeId} {k:List Value->Prop} (h:wZ P t k):∃z,zeroOf P t=some z/\k z:=by
 unfold wZ at h;split at h;exact⟨_,by assumption,Jt h⟩;cases h
def aIn (l:List Nat):Nat->List Nat->List Nat
 |0,acc=>acc
 |n+1,acc=>aIn l n (l++acc)
def kF (P:Program):Nat->TypeId->Option (List Nat)
 |0,_=>none
 |d+1,t=>match P.underlying t with
  |some .bool=>some [1]
  |some (.int _)=>some [0]
  |some .string=>some [2]
  |some (.array n e)=>(match kF P d e with
   |some l=>some (aIn l n [])
   |none=>none)
  |some (.struct g)=>g.toList.foldr (fun f r=>match kF P d f.type,r with
   |some a,some b=>some (a++b)
   |_,_=>none) (some [])
  |_=>none
def kEq:Option (List Nat)->List Nat->Bool
 |some l,m=>l==m
 |none,_=>false
theorem aDa {o:Option (List Nat)} {l:List Nat} (h:kEq o l=true):o=some l:=by
 unfold kEq at h;grind
def wB (P:Program) (op:BinOp) (t:TypeId) (x y:Operand) (a b:Value) (q:Value->Prop):Prop:=
 match P.underlying t with
 |some (.int _)=>bA (sY op a b) q
 |some .string=>bA (Ts op a b) q
 |some .bool=>bA (Pe op a b) q
 |some (.pointer _)=>bA (No op a b) q
 |some (.slice _)=>bA (M5 op a b) q
 |some (.func _ _ _)=>bA (Qt op a b) q
 |some (.interface _)=>(match isConst x||isConst y with
  |true=>bA (Ns true op a b) q
  |false=>bA (Ns false op a b) q)
 |some (.struct _)|some (.array _ _)=>(match kF P 20 t with
  |some d=>fcL d fun d=>Gm (kEq (Ie P t) d) d op a b q
  |none=>hF)
 |_=>hF
theorem aKk {op:BinOp} {t:TypeId} {x y:Operand} {a b:Value} {q:Value->Prop} (h:wB P op t x y a b q):Xg P op t x y a b q bA:=by
 unfold wB at h;unfold Xg;split at h;case h_7=>
  grind
 case h_8=>
  rename_i d;rw[d];split at h;obtain⟨f,h⟩:=Jt h;simp only[aDa f];exact h;cases h
 case h_9=>
  rename_i d;rw[d];split at h;obtain⟨f,h⟩:=Jt h;simp only[aDa f];exact h;cases h
 all_goals first|(rename_i d;rw[d];exact h)|cases h
def wL (P:Program) (a:Ek) (h:AH) (q:Value->Prop):Op->Prop
 |.move x=>uD P a x q
 |.assign x=>uD P a x q
 |.pick c x y=>uD P a c fun c=>uD P a x fun x=>uD P a y fun y=>bA (qR c x y) q
 |.build t g=>wZ P t fun z=>(match P.underlying t with
  |some (.struct o)=>(match o.toList.all (fun f=>(P.info? f.type).isSome) with
   |true=>Mn P a (plS P o) g.toList fun l=>bA (nY z l) fun c=>q (.agg ⟨c⟩)
   |false=>hF)
  |some (.array _ e)=>Tq P e fun n=>Mn P a (plA n) g.toList fun l=>bA (nY z l) fun c=>q (.agg ⟨c⟩)
  |_=>hF)
 |.load t x=>uD P a x fun x=>(match jD P t with
  |some true=>Tq P t fun n=>bA (rT h n x) q
  |some false=>bA (ld1 h x) q
  |none=>hF)
 |.nilCheck x=>uD P a x fun x=>bA (lT x) q
 |.binOp op t x y _=>uD P a x fun u=>uD P a y fun v=>wB P op t x y u v q
 |.unOp op _ x=>uD P a x fun x=>bA (Sb op x) q
 |.convert s d x=>uD P a x fun x=>(match P.underlying s with
  |some .string=>(match P.underlying d with
   |some (.int k)=>bA (mL k x) q
   |some .string=>bA (pD x) q
   |_=>hF)
  |some (.slice e)=>(match P.underlying d with
   |some .string=>(match P.underlying e with
    |some (.int .u8)=>bA (strOf h x) q
    |_=>hF)
   |_=>hF)
  |some _=>(match P.underlying d with
   |some (.int k)=>bA (mL k x) q
   |_=>hF)
  |none=>hF)
 |.makeInterface t x=>uD P a x fun x=>(match P.underlying t with
  |some (.interface _)=>hF
  |some _=>q (.iface t x)
  |none=>hF)
 |.makeFunc A first b=>(match A with
  |.func f=>Ur P a first.toList fun x=>Ur P a b.toList fun y=>q (.func (.func f) ⟨x⟩ ⟨y⟩)
  |_=>hF)
 |.slice t x r p w=>uD P a x fun x=>aB2 P a r fun r=>aB2 P a p fun p=>aB2 P a w fun w=>(match P.underlying t with
  |some (.slice e)=>Tq P e fun n=>bA (vD n h x r p w) q
  |some (.array n e)=>Tq P e fun m=>bA (Tg n m x r p w) q
  |some .string=>(match w with
   |none=>bA (Tm x r p) q
   |some _=>hF)
  |_=>hF)
 |.fieldAddr s x f=>uD P a x fun x=>(match P.underlying s with
  |some (.struct o)=>(match o[f]? with
   |some ⟨_,t,j,_,_,_,_⟩=>Tq P t fun n=>(match Nat.beq n 0 with
    |true=>hF
    |false=>bA (fZ j x) q)
   |none=>hF)
  |_=>hF)
 |.field t x f=>uD P a x fun x=>(match P.underlying t with
  |some (.struct o)=>(match o[f]? with
   |some ⟨_,t,j,_,_,_,_⟩=>(match jD P t with
    |some true=>Tq P t fun n=>bA (nW j n x) q
    |some false=>bA (oU j x) q
    |none=>hF)
   |none=>hF)
  |_=>hF)
 |.indexAddr t x i=>uD P a x fun x=>uD P a i fun i=>(match P.underlying t with
  |some (.array n e)=>Tq P e fun m=>bA (nR n m x i) q
  |some (.slice e)=>Tq P e fun m=>bA (jV m x i) q
  |_=>hF)
 |.index t x i=>uD P a x fun x=>uD P a i fun i=>(match P.underlying t with
  |some (.array n e)=>Tq P e fun m=>(match jD P e with
   |some true=>bA (Pq n m x i) q
   |some false=>bA (Kb n m x i) q
   |none=>hF)
  |some .string=>bA (Tl x i) q
  |_=>hF)
 |.extract t i=>uD P a t fun t=>bA (oX i t) q
 |.lookup t x ix ok=>uD P a x fun x=>uD P a ix fun ix=>(match F5 P t with
  |some e=>(match zeroV P e with
   |some z=>bA (lkV z h x ix ok) q
   |none=>hF)
  |none=>hF)
 |_=>hF
theorem aHh {a:Ek} {env:List Value} (d:fF a env) {h:AH} {q:Value->Prop} {op:Op} (b:wL P a h q op):jK P (cZ P env) h q op:=by
 unfold wL at b;split at b;case h_1=>exact fA d b
 case h_2=>exact fA d b
 case h_3=>exact fA d (fA d (fA d b))
 case h_4=>
  obtain⟨z,x,b⟩:=lx b;unfold jK;simp only[x];split at b;rename_i p;simp only[p];split at b;rename_i j;rw[Array.all_toList] at j;simp only[j,if_true];obtain⟨r,g,o⟩:=E0 d aHr b;grind;cases b;rename_i e p;simp only[p];obtain⟨v,b⟩:=rF b;simp only[v,if_true];obtain⟨r,g,o⟩:=E0 (pl:=fun i=>some (i*P.cellsOf e,P.cellsOf e)) d (fun i k w=>⟨_,_,rfl,w⟩) b;grind;cases b
 case h_5=>
  have b:=fA d b;unfold jK;split at b;rename_i p;simp only[p];exact(rF b).2;grind;cases b
 case h_6=>exact fA d b
 case h_7=>exact aKk (fA d (fA d b))
 case h_8=>exact fA d b
 case h_9=>
  have b:=fA d b;unfold jK;split at b;rename_i f;simp only[f];split at b<;>first|(rename_i m;simp only[m];exact b)|cases b
  rename_i f;simp only[f];split at b;rename_i m;simp only[m];split at b<;>first|(rename_i m;simp only[m];exact b)|cases b
  cases b;rename_i g o f;simp only[f];split at b<;>first|(rename_i m;simp only[m];exact b)|cases b
  cases b
 case h_10=>
  have b:=fA d b;unfold jK;split at b;cases b;grind;cases b
 case h_11=>
  unfold jK;split at b;have b:=Co d (Co d b);simpa only[List.map_toArray,<-Array.toList_map] using b;cases b
 case h_12=>
  have b:=Y2 d (Y2 d (Y2 d (fA d b)));unfold jK;split at b;rename_i f;simp only[f];obtain⟨g,o⟩:=rF b;grind;rename_i f;simp only[f];obtain⟨g,o⟩:=rF b;grind;rename_i f;simp only[f];split;exact b;exact b.elim;cases b
 case h_13=>
  have b:=fA d b;unfold jK;split at b;rename_i f;simp only[f];split at b;rename_i s;simp only[s];obtain⟨_,b⟩:=rF b;split at b;cases b;rename_i t;rw[aLx (fun e=>by rw[e] at t;cases t)];exact b;cases b;cases b
 case h_14=>
  have b:=fA d b;unfold jK;split at b;rename_i f;simp only[f];split at b;rename_i s;simp only[s];split at b;rename_i u;simp only[u];exact(rF b).2;grind;cases b;cases b;cases b
 case h_15=>
  have b:=fA d (fA d b);unfold jK;split at b;rename_i f;simp only[f];obtain⟨g,o⟩:=rF b;grind;rename_i f;simp only[f];obtain⟨g,o⟩:=rF b;grind;cases b
 case h_16=>
  have b:=fA d (fA d b);unfold jK;split at b;rename_i f;simp only[f];obtain⟨g,b⟩:=rF b;simp only[g,if_true];split at b;grind;grind;cases b;grind;cases b
 case h_17=>exact fA d b
 case h_18=>
  have b:=fA d (fA d b);unfold jK;split at b;rename_i f;simp only[f];split at b;grind;cases b;cases b
 case h_19=>cases b
end
end Go.Ab
end
section
namespace Go.Ab
noncomputable section
variable {P:Program} {K:FuncId->List Value->Option iL}
def isI (v:Value) (p:Prop):Prop:=∃k n,v= .int k n/\p
theorem aIk {n:Int} {p:Prop} (b:p):isI (I n) p:=⟨_,n,rfl,b⟩
def lits:List Nat:=[0,1,2,3,4,5,6,7,8,9,10,11,12,13,14,15,16,17,18,19,20,21,22,23,24,25,26,27,28,29,30,31,32,33,34,35,36,37,38,39,40,41,42,43,44,45,46,47,48,49,50,51,52,53,54,55,56,57,58,59,60,61,62,63,64,65,66,67,68,69,70,71,72,73,74,75,76,77,78,79,80,81,82,83,84,85,86,87,88,89,90,91,92,93,94,95,96,97,98,99]
def nK (n:Nat) (k:Nat->Prop):Prop:=match lits[n]? with
 |some m=>(match Nat.beq m n with
  |true=>k m
  |false=>hF)
 |none=>k n
theorem qy {n:Nat} {k:Nat->Prop} (h:nK n k):k n:=by
 unfold nK at h;split at h;split at h;simp_all;cases h;exact h
def bzW (P:Program) (t:TypeId) (k:Nat->Prop):Prop:=match P.info? t with
 |some ⟨_,_,_,n,_,_,_,_,_,_⟩=>k n
 |none=>hF
theorem aD7 {t:TypeId} {k:Nat->Prop} (h:bzW P t k):k (P.bytesOf t):=by
 unfold bzW at h;split at h;rename_i b;unfold Program.bytesOf;rw[b];exact h;cases h
def wBI (P:Program) (h:AH) (q:Value->AH->Prop) (f:Array TypeId):Builtin->List Value->Prop
 |.len,[x]=>match(f[0]?).bind P.underlying with
  |some .string=>bA (xH x) fun v=>q v h
  |some (.slice _)=>bA (kS x) fun v=>q v h
  |some (.array n _)=>q (I n) h
  |some (.pointer e)=>(match P.underlying e with
   |some (.array n _)=>q (I n) h
   |_=>hF)
  |some (.map _ _)=>bA (o9 h x) fun v=>q v h
  |_=>hF
 |.append,[s,x]=>match(f[0]?).bind P.underlying with
  |some (.slice e)=>(match Ia P f with
   |true=>wZ P e fun _=>Tq P e fun n=>bzW P e fun m=>bA (iK n m e h s x) fun r=>(match r with|(v,b)=>q v b)
   |false=>hF)
  |_=>hF
 |.copy,[d,x]=>match(f[0]?).bind P.underlying with
  |some (.slice e)=>Tq P e fun n=>bA (copyV n h d x) fun r=>(match r with|(v,b)=>q v b)
  |_=>hF
 |.clear,[x]=>match(f[0]?).bind P.underlying with
  |some (.slice e)=>wZ P e fun z=>bA (gZ z h x) fun r=>(match r with|(v,b)=>q v b)
  |_=>hF
 |.min,[x,y]=>bA (uW x y) fun v=>q v h
 |.max,[x,y]=>bA (vP x y) fun v=>q v h
 |.delete,[m,k]=>(match f[0]? with
  |some t=>(match F5 P t with
   |some _=>bA (P4 h m k) fun b=>q (.tuple #[]) b
   |none=>hF)
  |none=>hF)
 |.cap,[x]=>match(f[0]?).bind P.underlying with
  |some (.slice _)=>bA (aDx x) fun v=>q v h
  |_=>hF
 |_,_=>hF
theorem aDc {h:AH} {q:Value->AH->Prop} {i:Array TypeId} {b:Builtin} {l:List Value} (d:wBI P h q i b l):uR P h q i b l:=by
 unfold wBI at d;unfold uR;split at d;split at d<;>(rename_i f;simp only[f];exact d);split at d;rename_i f;simp only[f];split at d;rename_i j;obtain⟨z,g,d⟩:=lx d;obtain⟨_,d⟩:=rF d;rw[aLy ⟨j,by rw[g];rfl⟩];exact aD7 d;cases d;cases d;split at d;rename_i f;simp only[f];obtain⟨k,d⟩:=rF d;grind;cases d;split at d;rename_i f;simp only[f];obtain⟨z,g,d⟩:=lx d;grind;cases d;exact d;exact d;split at d;rename_i f;simp only[f];split at d;grind;cases d;cases d;split at d;rename_i f;simp only[f];exact d;cases d;cases d
def wH (P:Program) (K:FuncId->List Value->Option iL) (a:Ek) (h:AH) (q:Value->AH->Prop):Op->Prop
 |.store t p x=>Tq P t fun n=>uD P a p fun p=>uD P a x fun x=>bA (sH h n p x) fun d=>q undef d
 |.call c=>(match c.callee with
  |.builtin b=>Ur P a c.args.toList fun l=>wBI P h q c.argTypes b l
  |.value (.func g)=>(match fY P g with
   |true=>Ur P a c.args.toList fun l=>Cl P K g l h q
   |false=>hF)
  |.value f=>uD P a f fun f=>Ur P a c.args.toList fun l=>xS P K f l h q
  |.invoke _ _=>hF)
 |.mapUpdate t m k x=>(match F5 P t with
  |some _=>uD P a m fun m=>uD P a k fun k=>uD P a x fun x=>bA (Pg h m k x) fun d=>q undef d
  |none=>hF)
 |_=>hF
theorem aGk {a:Ek} {env:List Value} (d:fF a env) {h:AH} {q:Value->AH->Prop} {op:Op} (b:wH P K a h q op):Ae P K (cZ P env) h q op:=by
 unfold wH at b;unfold Ae;split at b;obtain⟨g,b⟩:=rF b;simp only[g,if_true];exact fA d (fA d b);split at b;rename_i f;simp only[f];exact aDc (Co d b);rename_i f;simp only[f];split at b;rename_i i;simp only[i,if_true];exact Co d b;cases b;rename_i f;simp only[f];exact Co d (fA d b);cases b;split at b;rename_i j;simp only[j];exact fA d (fA d (fA d b));cases b;cases b
def wA (P:Program) (a:Ek) (mk:mW->(Nat->AH->Prop)->Prop) (E6:Nat->TypeId->List Value->Nat->Nat->(Value->AH->Prop)->Prop) (q:Value->AH->Prop):Op->Prop
 |.alloc e=>wZ P e fun z=>mk (.cells z e (0,0) true) fun p d=>q (pt p 0 0) d
 |.box e x=>uD P a x fun x=>bA (jX e x) fun b=>mk b fun p d=>q (pt p 0 0) d
 |.buildSlice t len f=>match P.underlying t with
  |some (.slice e)=>wZ P e fun z=>Tq P e fun n=>(match Nat.ble (len*n) 16777216 with
   |true=>Mn P a (plA n) f.toList fun g=>fcL (eB z len) fun i=>bA (nY i g) fun l=>E6 n e l len len q
   |false=>hF)
  |_=>hF
 |.makeSlice t l c=>match P.underlying t with
  |some (.slice e)=>wZ P e fun z=>Tq P e fun n=>bzW P e fun m=>uD P a l fun l=>uD P a c fun c=>bA (aKt m l c) fun r=>E6 n e (eB z r.2) r.1 r.2 q
  |_=>hF
 |.makeMap _ none=>mk (.map [] 0) fun p d=>q (fS p) d
 |.makeMap t (some x)=>match P.underlying t with
  |some (.map _ _)=>uD P a x fun x=>isI x (mk (.map [] 0) fun p d=>q (fS p) d)
  |_=>hF
 |_=>hF
where aKt:=Go.Ab.E6
theorem aIr {a:Ek} {env:List Value} (g:fF a env) {mk:mW->(Nat->AH->Prop)->Prop} {E6:Nat->TypeId->List Value->Nat->Nat->(Value->AH->Prop)->Prop}
  (u:∀W e l n c k,E6 W e l n c k->mk (.cells l e (0,0) true) fun p o=>k (uf n c p) o) {q:Value->AH->Prop} {op:Op} (d:wA P a mk E6 q op):
  Az P (cZ P env) (fun b f=>mk b fun i o=>q (f i) o) op:=by
 unfold wA at d
 unfold Az
 split at d
 .obtain⟨z,m,d⟩:=lx d;simp only[m];exact d
 .exact fA g d
 .split at d
  .rename_i j;simp only[j];obtain⟨z,m,d⟩:=lx d;obtain⟨_,d⟩:=rF d;simp only[m];split at d
   .rename_i w;rw[aLy (Nat.le_of_ble_eq_true w)];obtain⟨r,t,d⟩:=E0 (pl:=fun i=>some (i*P.cellsOf _,P.cellsOf _)) g (fun i k x=>⟨_,_,rfl,x⟩) d;simp only[t];exact(Jt d).mono fun v s=>u _ _ _ _ _ _ s
   .cases d
  .cases d
 .split at d
  .rename_i j;simp only[j];obtain⟨z,m,d⟩:=lx d;obtain⟨_,d⟩:=rF d;simp only[m];exact(fA g (fA g (aD7 d))).mono fun v s=>u _ _ _ _ _ _ s
  .cases d
 .exact d
 .split at d
  .rename_i j;simp only[j];obtain⟨k,n,t,d⟩:=fA g d;grind
  .cases d
 .cases d
end
end Go.Ab
end
section
namespace Go.Ab
variable {P:Program} {K:FuncId->List Value->Option iL} {G:Bg} {h:AH} {L L' M:List HP}
abbrev ME:=Nat×Value×Nat
def rE (es:List ME):List (Value×Value×Nat):=es.map fun x=>(I x.1,x.2.1,x.2.2)
def Tn (n:Int):List ME->Nat->Option (Nat×Value)
 |[],_=>none
 |x::b,i=>if n=(x.1:Int) then some (i,x.2.1) else Tn n b (i+1)
theorem Ap (n:Int):∀(es:List ME) (i:Nat),uI .i64 n (rE es) i=some (Tn n es i)
 |[],i=>rfl
 |x::es,i=>by
  show(if IntKind.i64=IntKind.i64 then(if n=(x.1:Int) then some (some (i,x.2.1)) else uI .i64 n (rE es) (i+1)) else none)=_;rw[aLy rfl,Ap n es (i+1)];by_cases e:n=(x.1:Int);rw[aLy e,Tn,aLy e];rw[aLx e,Tn,aLx e]
structure MOk (es:List ME) (clock:Nat):Prop where
 nd:(es.map (·.1)).Nodup
 st:∀x∈es,x.2.2<clock
 sd:(es.map (·.2.2)).Nodup
 kb:∀x∈es,x.1<16
def kO (es:List ME) (k:Nat):Option Value:=(Tn k es 0).map (·.2)
theorem Td {n:Int}:∀{es:List ME} {i j:Nat} {v:Value},Tn n es i=some (j,v)->i<=j/\∃x,es[j - i]?=some x/\(x.1:Int)=n/\x.2.1=v
 |[],i,j,v,h=>by cases h
 |x::es,i,j,v,h=>by
  unfold Tn at h;split at h;grind;obtain⟨b,y,d,f,g⟩:=Td h;grind
theorem Pk {n:Int}:∀{es:List ME} {i:Nat},(Tn n es (i+1)).map (·.2)=(Tn n es i).map (·.2)
 |[],_=>rfl
 |x::es,i=>by
  unfold Tn;split;rfl;exact Pk
theorem iG {x:ME} {es:List ME} {k:Nat}:kO (x::es) k=if k=x.1 then some x.2.1 else kO es k:=by
 unfold kO;rw[Tn];by_cases e:k=x.1;grind;rw[aab,aLx e];exact Pk
theorem lu {x:ME} {es:List ME} {k:Nat}:kO (es++[x]) k=(kO es k).or (if k=x.1 then some x.2.1 else none):=by
 induction es with
 |nil=>rw[List.nil_append,iG];simp[kO,Tn]
 |cons y es b=>rw[List.cons_append,iG,iG,b];split<;>simp
theorem vY {es:List ME} {k:Nat}:kO es k=none↔k∉es.map (·.1):=by
 induction es with
 |nil=>simp[kO,Tn]
 |cons y es b=>rw[iG];split<;>simp_all
theorem oh {es:List ME} {i:Nat} {x:ME} {v:Value} {k:Nat} (b:es[i]?=some x) (d:(es.map (·.1)).Nodup):kO (es.modify i fun e=>(x.1,v,e.2.2)) k=if k=x.1 then some v else kO es k:=by
 induction es generalizing i with
 |nil=>simp at b
 |cons y es f=>
  simp only[List.map_cons,List.nodup_cons] at d;cases i with
  |zero=>
   simp only[List.getElem?_cons_zero,Option.some.injEq] at b;subst b;rw[List.modify_zero_cons,iG,iG];split<;>rfl
  |succ i=>
   simp only[List.getElem?_cons_succ] at b;have g:x.1≠y.1:=fun e=>d.1 (e▸List.mem_map.2 ⟨x,List.mem_of_getElem? b,rfl⟩);rw[List.modify_succ_cons,iG,iG,f b d.2];grind
theorem ka {es:List ME} {i:Nat} {x:ME} {k:Nat} (b:es[i]?=some x) (d:(es.map (·.1)).Nodup):kO (es.eraseIdx i) k=if k=x.1 then none else kO es k:=by
 induction es generalizing i with
 |nil=>simp at b
 |cons y es f=>
  simp only[List.map_cons,List.nodup_cons] at d;cases i with
  |zero=>
   simp only[List.getElem?_cons_zero,Option.some.injEq] at b;subst b;rw[List.eraseIdx_cons_zero,iG];split;rename_i e;subst e;exact vY.2 d.1;rfl
  |succ i=>
   simp only[List.getElem?_cons_succ] at b;have g:x.1≠y.1:=fun e=>d.1 (e▸List.mem_map.2 ⟨x,List.mem_of_getElem? b,rfl⟩);rw[List.eraseIdx_cons_succ,iG,iG,f b d.2];grind
def Ja {α:Type} (f:Nat->α) (i:Nat) (v:α):Nat->α:=fun j=>if j=i then v else f j
def iA (b:Nat) (f:Nat->Option Value):HP:=qV fun x:List ME×Nat=>sp [rN (MOk x.1 x.2/\∀k,kO x.1 k=f k),ot b (.map (rE x.1) x.2)]
theorem Aa {b:Nat} {f:Nat->Option Value} (g:Hs G h (iA b f::L)):∃d cl,(MOk d cl/\∀k,kO d k=f k)/\Hs G h (ot b (.map (rE d) cl)::L):=by
 obtain⟨⟨d,cl⟩,g⟩:=g.rS;obtain⟨i,g⟩:=(Hs.unpack g).To;exact⟨d,cl,i,g⟩
theorem sA {b:Nat} {f:Nat->Option Value} {es:List ME} {cl:Nat} (d:MOk es cl) (g:∀k,kO es k=f k) (i:Hs G h (ot b (.map (rE es) cl)::L)):Hs G h (iA b f::L):=
 Hs.oZ (A:=fun x:List ME×Nat=>sp [rN (MOk x.1 x.2/\∀k,kO x.1 k=f k),ot b (.map (rE x.1) x.2)]) (es,cl) (Hs.pack (A:=[_,_]) (Hs.Wm ⟨d,g⟩ i))
theorem uo {k:Nat->AH->Prop} (f:Hs G h L) (d:∀p b,Hs G b (iA p (fun _=>none)::L)->k p b):A2 h (.map [] 0) k:=
 d _ _ (sA (es:=[]) (cl:=0) ⟨by simp,by simp,by simp,by simp⟩ (fun _=>rfl) (f.aGc rfl))
theorem Kf {b:Nat} {o:mW} (d:I6 o=true) (f:Hs G h (ot b o::L)):h.get b=some o/\h.base<=b:=⟨(Hs.D4 (o':=o) d f).1,(Hs.D4 (o':=o) d f).2.1⟩
theorem aJw {b:Nat} {f:Nat->Option Value} {z:Value} {n:Int} {ok:Bool} {k:Value->Prop} (g:Hs G h L) [m:Has (iA b) L f L']
  (q:k (match(if 0<=n then f n.toNat else none) with
   |some v=>if ok then .tuple ⟨[v,.bool true]⟩ else v
   |none=>if ok then .tuple ⟨[z,.bool false]⟩ else z)):bA (lkV z h (fS b) (I n) ok) k:=by
 obtain⟨d,cl,⟨t,i⟩,g⟩:=Aa (m.of g)
 obtain⟨o,_⟩:=Kf rfl g
 have r:cn h (fS b)=some (rE d):=by unfold cn fS;simp only[o]
 have e:(Tn n d 0).map (·.2)=if 0<=n then f n.toNat else none:=by
  split;rename_i s;have:=i n.toNat;unfold kO at this;grind;cases hx:Tn n d 0 with
  |none=>rfl
  |some p=>
   obtain⟨_,x,_,u,_⟩:=Td (j:=p.1) (v:=p.2) hx;omega
 rw[<-e] at q
 unfold lkV
 rw[r]
 simp only[Ap]
 cases hx:Tn n d 0 with
 |none=>simp_all
 |some p=>simp_all
theorem aG7 {es:List ME} {i:Nat} {x:ME} {v:Value} (b:es[i]?=some x):(es.modify i fun e=>(x.1,v,e.2.2)).map (·.1)=es.map (·.1)/\(es.modify i fun e=>(x.1,v,e.2.2)).map (·.2.2)=es.map (·.2.2):=by
 induction es generalizing i with
 |nil=>simp at b
 |cons y es d=>
  grind
theorem tu {es:List ME} {i:Nat} {x:ME} {v:Value} (b:es[i]?=some x):(rE es).modify i (fun e=>(I x.1,v,e.2.2))=rE (es.modify i fun e=>(x.1,v,e.2.2)):=by
 unfold rE;induction es generalizing i with
 |nil=>simp at b
 |cons y es d=>
  grind
theorem W0:∀{es:List ME} {i:Nat},(rE es).eraseIdx i=rE (es.eraseIdx i)
 |[],_=>rfl
 |x::es,0=>rfl
 |x::es,i+1=>by
  show(_::(rE es).eraseIdx i)=(_::rE (es.eraseIdx i));rw[W0]
theorem S1 {b:Nat} {f:Nat->Option Value} {i:Nat} {v:Value} {k:AH->Prop} (s:Hs G h L) [m:Has (iA b) L f L'] (T:i<16) (H:∀E,Hs G E (iA b (Ja f i (some v))::L')->k E):bA (Pg h (fS b) (I i) v) k:=by
 obtain⟨r,cl,⟨g,J⟩,s⟩:=Aa (m.of s);obtain⟨N,S⟩:=Kf rfl s;unfold Pg fS;simp only[N,aLx (show ¬b<h.base by omega)];unfold zt;simp only[Ap];cases d:Tn (i:Int) r 0 with
 |none=>
  have O:kO r i=none:=by unfold kO;rw[d];rfl
  refine⟨_,rfl,H _ ?_⟩;have e:rE r++[(Value.int .i64 (i:Int),v,cl)]=rE (r++[(i,v,cl)]):=by unfold rE;grind
  rw[e];refine sA ⟨?_,?_,?_,?_⟩ ?_ (Hs.D4 rfl s).2.2;rw[List.map_append,List.nodup_append];refine⟨g.nd,by simp,?_⟩;intro a w c u e;have:c=i:=by simpa using u
  subst e;subst this;exact vY.1 O w;intro x d;rcases List.mem_append.1 d with d|d;have:=g.st x d;omega;grind;rw[List.map_append,List.nodup_append];refine⟨g.sd,by simp,?_⟩;intro a w c u e;have u:c=cl:=by simpa using u
  obtain⟨x,d,rfl⟩:=List.mem_map.1 w;have:=g.st x d;omega;intro x d;rcases List.mem_append.1 d with d|d;exact g.kb x d;grind;intro j;rw[lu];unfold Ja;grind
 |some p=>
  obtain⟨_,x,t,Q,R⟩:=Td (j:=p.1) (v:=p.2) d;rw[Nat.sub_zero] at t;have o:x.1=i:=by omega
  refine⟨_,rfl,H _ ?_⟩;have:=tu (v:=v) t;rw[o] at this;rw[this];obtain⟨C,D⟩:=aG7 (v:=v) t;rw[o] at C D;refine sA ⟨by rw[C];exact g.nd,?_,by rw[D];exact g.sd,?_⟩ ?_ (Hs.D4 rfl s).2.2;intro y A;have:y.2.2∈(r.modify p.1 fun e=>(i,v,e.2.2)).map (·.2.2):=List.mem_map.2 ⟨y,A,rfl⟩;rw[D] at this;obtain⟨z,B,q⟩:=List.mem_map.1 this;rw[<-q];exact g.st z B;intro y A;have:y.1∈(r.modify p.1 fun e=>(i,v,e.2.2)).map (·.1):=List.mem_map.2 ⟨y,A,rfl⟩;rw[C] at this;obtain⟨z,B,q⟩:=List.mem_map.1 this;rw[<-q];exact g.kb z B;intro j;have:=oh (v:=v) (k:=j) t g.nd;rw[o] at this;rw[this];unfold Ja;rw[J j]
theorem aDy {b:Nat} {f:Nat->Option Value} {i:Nat} {k:AH->Prop} (q:Hs G h L) [m:Has (iA b) L f L'] (w:∀t,Hs G t (iA b (Ja f i none)::L')->k t):bA (P4 h (fS b) (I i)) k:=by
 obtain⟨o,cl,⟨g,z⟩,q⟩:=Aa (m.of q);obtain⟨A,D⟩:=Kf rfl q;unfold P4 fS;simp only[A,aLx (show ¬b<h.base by omega),Ap];cases hx:Tn (i:Int) o 0 with
 |none=>
  have E:kO o i=none:=by unfold kO;rw[hx];rfl
  refine⟨_,rfl,w _ (sA g (fun j=>?_) (Hs.D4 rfl q).2.2)⟩;unfold Ja;grind
 |some p=>
  obtain⟨_,x,u,B,C⟩:=Td (j:=p.1) (v:=p.2) hx;rw[Nat.sub_zero] at u;have r:x.1=i:=by omega
  have e:(rE o).eraseIdx p.1=rE (o.eraseIdx p.1):=W0;refine⟨_,rfl,w _ ?_⟩;rw[e];have d:=List.eraseIdx_sublist o p.1;refine sA ⟨(d.map _).nodup g.nd,fun y s=>g.st y (d.mem s),(d.map _).nodup g.sd,fun y s=>g.kb y (d.mem s)⟩ (fun j=>?_) (Hs.D4 rfl q).2.2;rw[ka u g.nd,r,z j];rfl
theorem aEf {b:Nat} {f:Nat->Option Value} {k:Value->Prop} (d:Hs G h L) [m:Has (iA b) L f L'] (j:∀n:Nat,k (I n)):bA (o9 h (fS b)) k:=by
 obtain⟨g,cl,_,d⟩:=Aa (m.of d);obtain⟨i,_⟩:=Kf rfl d;refine⟨I (rE g).length,?_,j _⟩;unfold o9 cn fS;simp only[i];rfl
theorem U3 {x y:Int} {l:List Int}:y∈Bv x l↔y=x\/y∈l:=by
 induction l with
 |nil=>simp[Bv]
 |cons a l b=>unfold Bv;grind
theorem P3 {y:Int} {l:List Int}:y∈qQ l↔y∈l:=by
 induction l with
 |nil=>simp[qQ]
 |cons a l b=>simp only[qQ,U3,b,List.mem_cons]
theorem Vk {x:Int} {l:List Int} (h:l.Pairwise (·<·)) (d:x∉l):(Bv x l).Pairwise (·<·):=by
 induction l with
 |nil=>simp[Bv]
 |cons a l i=>
  simp only[List.mem_cons,not_or] at d;obtain⟨f,g⟩:=List.pairwise_cons.1 h;unfold Bv;split;refine List.pairwise_cons.2 ⟨fun y b=>?_,h⟩;grind;refine List.pairwise_cons.2 ⟨fun y b=>?_,i g d.2⟩;rcases U3.1 b with rfl|b;omega;exact f y b
theorem Q8 {l:List Int} (h:l.Nodup):(qQ l).Pairwise (·<·):=by
 induction l with
 |nil=>simp[qQ]
 |cons a l f=>
  obtain⟨b,d⟩:=List.nodup_cons.1 h;exact Vk (f d) fun e=>b (P3.1 e)
theorem Xs {l m:List Int} (g:l.Pairwise (·<·)) (i:m.Pairwise (·<·)) (h:∀x,x∈l↔x∈m):l=m:=by
 induction l generalizing m with
 |nil=>
  cases m with
  |nil=>rfl
  |cons y m=>exact absurd ((h y).2 (by simp)) (by simp)
 |cons x l o=>
  cases m with
  |nil=>exact absurd ((h x).1 (by simp)) (by simp)
  |cons y m=>
   obtain⟨a1,j⟩:=List.pairwise_cons.1 g;obtain⟨f,k⟩:=List.pairwise_cons.1 i;have e:x=y:=by
    have b:=(h x).1 (by simp);have d:=(h y).2 (by simp);rcases List.mem_cons.1 b with e|b;exact e;rcases List.mem_cons.1 d with e|d;exact e.symm;have:=f x b;have:=a1 y d;omega
   grind
def Bl (f:Nat->Option Value):List Nat:=(List.range 16).filter fun k=>(f k).isSome
theorem Za (es:List ME):keysOf (rE es)=some (es.map fun x=>(x.1:Int)):=by
 induction es with
 |nil=>rfl
 |cons x es b=>
  show(keysOf (rE es)).map (fun l=>(x.1:Int)::l)=_;rw[b];rfl
theorem Q1 (n:Nat):(List.range n).Pairwise (·<·):=List.pairwise_lt_range
theorem Hn {es:List ME} {cl:Nat} {f:Nat->Option Value} (i:MOk es cl) (j:∀k,kO es k=f k):qQ (es.map fun x=>(x.1:Int))=(Bl f).map fun k:Nat=>(k:Int):=by
 refine Xs (Q8 ?_) ?_ fun x=>?_;have:=i.nd;rw[show(es.map fun x=>(x.1:Int))=(es.map (·.1)).map fun k:Nat=>(k:Int) by rw[List.map_map];rfl];exact List.Pairwise.map _ (fun a b d=>by omega) this;refine List.Pairwise.map (R:=(·<·)) _ (fun a b d=>by omega) ?_;exact List.Pairwise.filter _ (Q1 16);rw[P3];simp only[List.mem_map,Bl,List.mem_filter,List.mem_range];constructor;rintro ⟨y,m,rfl⟩;refine⟨y.1,⟨i.kb y m,?_⟩,rfl⟩;rw[<-j];cases hl:kO es y.1 with
 |none=>exact absurd (List.mem_map.2 ⟨y,m,rfl⟩) (vY.1 hl)
 |some v=>rfl
 rintro ⟨k,⟨_,g⟩,rfl⟩;rw[<-j] at g;have:k∈es.map (·.1):=by
  refine Classical.byContradiction fun o=>?_;rw[vY.2 o] at g;cases g
 grind
theorem Jq {cl:Nat}:∀{es:List ME},(∀x∈es,x.2.2<cl)->(es.map (·.2.2)).Nodup->Ak cl (rE es)=true
 |[],_,_=>rfl
 |x::es,h,b=>by
  simp only[List.map_cons,List.nodup_cons] at b;have g:=Jq (fun y d=>h y (List.mem_cons_of_mem _ d)) b.2;show(Nat.blt x.2.2 cl&&((rE es).all fun y=> !Nat.beq y.2.2 x.2.2)&&Ak cl (rE es))=true;rw[g,Bool.and_true,Bool.and_eq_true];refine⟨Nat.ble_eq_true_of_le (h x (by simp)),?_⟩;rw[List.all_eq_true];intro y d;obtain⟨z,f,rfl⟩:=List.mem_map.1 d;have:z.2.2≠x.2.2:=fun e=>b.1 (e▸List.mem_map.2 ⟨z,f,rfl⟩);cases hb:Nat.beq z.2.2 x.2.2 with
  |false=>rfl
  |true=>simp_all
theorem Xo:∀{l:List Nat},(∀x∈l,x<16)->l.Nodup->O8 (l.map fun k:Nat=>(k:Int))=true
 |[],_,_=>rfl
 |x::l,h,d=>by
  obtain⟨i,b⟩:=List.nodup_cons.1 d;have g:=Xo (fun y f=>h y (List.mem_cons_of_mem _ f)) b;show((Lit.int .i64 (x:Int)).wf&&((l.map fun k:Nat=>(k:Int)).all fun y=> !(y==(x:Int)))&&O8 (l.map fun k:Nat=>(k:Int)))=true;rw[g,Bool.and_true,Bool.and_eq_true];refine⟨?_,?_⟩;have:x=0\/x=1\/x=2\/x=3\/x=4\/x=5\/x=6\/x=7\/x=8\/x=9\/x=10\/x=11\/x=12\/x=13\/x=14\/x=15:=by have:=h x (by simp);omega
  rcases this with rfl|rfl|rfl|rfl|rfl|rfl|rfl|rfl|rfl|rfl|rfl|rfl|rfl|rfl|rfl|rfl<;>rfl;grind
theorem ua {x:Int} {l:List Int}:(Bv x l).length=l.length+1:=by
 induction l with
 |nil=>rfl
 |cons a l b=>unfold Bv;split<;>simp[b]
theorem mo {l:List Int}:(qQ l).length=l.length:=by
 induction l with
 |nil=>rfl
 |cons a l b=>rw[qQ,ua,b];rfl
theorem zr {es:List ME} {cl:Nat} (b:MOk es cl):es.length<=16:=by
 have h:=congrArg List.length (Hn (f:=kO es) b fun _=>rfl);rw[mo,List.length_map,List.length_map] at h;rw[h];have:=List.length_filter_le (fun k=>(kO es k).isSome) (List.range 16);rw[List.length_range] at this;exact this
theorem Au {f:FuncId} {args:List Value} {F:AH->Option (Value×AH)} {v:Value} {h':AH} {Q:Value->AH->Prop} (b:K f args=some (.host F)) (hF:F h=some (v,h')) (d:Q v h'):Cl P K f args h Q:=by
 refine⟨1,(⟨.jF,[],[],v⟩,h'),?_,d⟩;show jG P K (fun t h=>run P K 0 t h) f args h=_;unfold jG;rw[b];simp only[hF,Option.map_some]
theorem vr {f:FuncId} {args:List Value} {b c:Nat} {e e2:TypeId} {d:Nat->Option Value} {Q:Value->AH->Prop} (R:K f args=some (.host (Af e c))) (T:Hs G h (aE c 0 [fS b]::mt c (e2,true,1)::iA b d::L))
  (S:∀a D H,Hs G H (dI 1 e a D ((Bl d).length,(Bl d).map fun k:Nat=>I k)::iA b d::L)->Q (.slice a (Bl d).length D) H):Cl P K f args h Q:=by
 have m:=T
 obtain⟨p,cl,⟨j,U⟩,C⟩:=Aa ((T.perm ((List.Perm.swap _ _ _).cons _)).perm (List.Perm.swap _ _ _))
 obtain⟨X,hb⟩:=Kf rfl C
 have g:∃E,h.get c=some (.cells [fS b] E (0,0) true):=by
  obtain⟨r,r2,hr,z,hd,Y,t⟩:=m.fst;obtain⟨r3,r4,B,β,s,rfl⟩:=z;cases hr;cases B;obtain⟨i1,i2⟩:=(cT.fJ s).1 t;obtain⟨_,c',J,V⟩:=i1.mt c e2 true 1 (by simp);obtain⟨_,c2,e3,x3,N,O⟩:=Y.cell c 0 (fS b) (by simp[pG]);rw[J] at N;cases N;refine⟨e2,?_⟩;rw[J];obtain⟨v,rfl⟩:=List.length_eq_one_iff.1 V;simp only[List.getElem?_cons_zero,Option.some.injEq] at O;rw[O]
 obtain⟨E,g⟩:=g
 have u:=Hn j U
 have hF:Af e c h=some (K7 h e (qQ (p.map fun x=>(x.1:Int)))):=by
  unfold Af;simp only[g,fS,X,Za];rw[aLy];rw[Bool.and_eq_true,Bool.and_eq_true];refine⟨⟨?_,Jq j.st j.sd⟩,?_⟩;have:=zr j;rw[List.length_map];exact Nat.ble_eq_true_of_le (by omega);rw[show(p.map fun x=>(x.1:Int))=(p.map (·.1)).map fun k:Nat=>(k:Int) by rw[List.map_map];rfl];exact Xo (fun x hx=>by obtain⟨y,hy,rfl⟩:=List.mem_map.1 hx;exact j.kb y hy) j.nd
 rw[u] at hF
 have o:Hs G h (iA b d::L):=m.tail.tail
 unfold K7 at hF
 cases hkf:Bl d with
 |nil=>
  rw[hkf] at hF
  refine Au R hF ?_
  have:=S none 0 h
  rw[hkf] at this
  exact this (gG o)
 |cons x l=>
  rw[hkf] at hF
  simp only[List.map_cons,List.isEmpty_cons,Bool.false_eq_true,if_false] at hF
  refine Au R hF ?_
  have i:=S (some ⟨h.next,0,none⟩) (Bl d).length (h.alloc (.cells (((Bl d).map fun k:Nat=>(k:Int)).map (Value.int .i64)) e (0,0) false))
  rw[hkf] at i
  simp only[List.length_cons,List.map_cons,List.length_map] at i ⊢
  refine i ?_
  have Z:=o.new (c:=Value.int .i64 (x:Int)::((l.map fun k:Nat=>(k:Int)).map (Value.int .i64))) (e:=e) (x:=false)
  refine Hs.join (A:=[_,_]) Z fun q w=>?_
  have w:=qO w
  refine⟨by simp,?_,.inr (.inr ⟨Nat.le_refl _,h.next,[],[],false,rfl,by simp,?_⟩)⟩
  .simp[eK]
  .rw[w];simp[List.map_map,Function.comp_def]
end Go.Ab
end
section
namespace Go.Ab
variable {P:Program} {K:FuncId->List Value->Option iL} {G:Bg} {h:AH} {L L' M:List HP}
class Fx {α:Type} (enc:α->List Value) (W:outParam Nat):Prop where
 len:∀x,(enc x).length=W
 cel:∀x,(enc x).all eK=true
def eL {α:Type} (enc:α->List Value) (l:List α):List Value:=l.flatMap enc
section
variable {α:Type} {enc:α->List Value} {W:Nat} [F:Fx enc W]
omit F in
@[simp] theorem aG4:eL enc []=[]:=rfl
omit F in
theorem oJ {x:α} {l:List α}:eL enc (x::l)=enc x++eL enc l:=rfl
omit F in
theorem wm {l m:List α}:eL enc (l++m)=eL enc l++eL enc m:=by simp[eL]
theorem yW {l:List α}:(eL enc l).length=l.length*W:=by
 induction l with
 |nil=>simp
 |cons x l b=>rw[oJ,List.length_append,F.len,b,List.length_cons,Nat.succ_mul];omega
include F in
theorem Gg {l:List α}:(eL enc l).all eK=true:=by
 induction l with
 |nil=>rfl
 |cons x l b=>rw[oJ,List.all_append,F.cel,b];rfl
theorem Qu {l:List α}:∀{i:Nat},(eL enc l).drop (i*W)=eL enc (l.drop i):=by
 induction l with
 |nil=>intro i;simp
 |cons x l b=>
  intro i;cases i with
  |zero=>simp
  |succ i=>
   rw[oJ,List.drop_succ_cons,Nat.succ_mul,List.drop_append,List.drop_of_length_le (by rw[F.len];omega),F.len,show i*W+W - W=i*W by omega,b,List.nil_append]
theorem ft {l:List α}:∀{i:Nat},(eL enc l).take (i*W)=eL enc (l.take i):=by
 induction l with
 |nil=>intro i;simp
 |cons x l b=>
  intro i;cases i with
  |zero=>simp
  |succ i=>
   rw[oJ,List.take_succ_cons,oJ,Nat.succ_mul,List.take_append,List.take_of_length_le (by rw[F.len];omega),F.len,show i*W+W - W=i*W by omega,b]
theorem zd {l:List α} {i:Nat} {x:α} (h:l[i]?=some x):((eL enc l).drop (i*W)).take W=enc x:=by
 obtain⟨d,b⟩:=List.getElem?_eq_some_iff.1 h;rw[Qu,List.drop_eq_getElem_cons d,oJ,b];exact List.take_left' (F.len x)
theorem Ir {l:List α} {i j:Nat} {x:α} {v:Value} (h:l[i]?=some x) (d:(enc x)[j]?=some v):(eL enc l)[i*W+j]?=some v:=by
 have b:=zd (enc:=enc) h;grind
theorem zc {l:List α} {i:Nat} {y:α} (b:i<l.length):dT (eL enc l) (i*W) (enc y)=eL enc (l.set i y):=by
 rw[<-qU _ _ _ (by rw[yW,F.len,<-Nat.succ_mul];exact Nat.mul_le_mul_right _ b)];unfold cG;rw[ft,F.len,<-Nat.succ_mul,Qu,List.set_eq_take_append_cons_drop,aLy b,wm,oJ,List.append_assoc]
def ls (enc:α->List Value) (W:Nat) (e:TypeId) (a:Option Addr) (c:Nat) (l:List α):HP:=dI W e a c (l.length,eL enc l)
omit F in
theorem jB [Fx enc W] {e:TypeId} (b:Hs G h L):Hs G h (ls enc W e none 0 []::L):=gG b
variable {e:TypeId} {a:Option Addr} {c:Nat} {l:List α}
omit F in
theorem mR {x:α} (b:Hs G h (dI W e a c (1,enc x)::L)):Hs G h (ls enc W e a c [x]::L):=by
 unfold ls;rw[oJ,aG4,List.append_nil];exact b
theorem jM {i:Int} {x:α} {k:Value->Prop} (o:Hs G h L) [m:Has (ls enc W e a c) L l L'] (f:0<W) (d:0<=i) (b:l[i.toNat]?=some x) (g:k (.agg ⟨enc x⟩)):bA (jV W (.slice a l.length c) (I i)) fun p=>bA (rT h W p) k:=by
 obtain⟨j,rfl⟩:=Int.eq_ofNat_of_zero_le d;rw[Int.toNat_natCast] at b;exact aE7 (e:=e) (cs:=eL enc l) (show Hs G h (dI W e a c (l.length,eL enc l)::L') from m.of o) f (List.getElem?_eq_some_iff.1 b).1 (zd b) (F.len x) g
theorem W5 {i:Int} {j:Nat} {x:α} {u:Value} {k:Value->Prop} (g:Hs G h L) [m:Has (ls enc W e a c) L l L'] (d:0<=i) (b:l[i.toNat]?=some x) (o:(enc x)[j]?=some u) (f:k u):bA (jV W (.slice a l.length c) (I i)) fun p=>bA (fZ j p) fun q=>bA (ld1 h q) k:=by
 obtain⟨n,rfl⟩:=Int.eq_ofNat_of_zero_le d;rw[Int.toNat_natCast] at b;exact xg (e:=e) (cs:=eL enc l) (show Hs G h (dI W e a c (l.length,eL enc l)::L') from m.of g) (List.getElem?_eq_some_iff.1 b).1 (Ir b o) f
theorem Q3 {i:Int} {y:α} {k:AH->Prop} (j:Hs G h L) [m:Has (ls enc W e a c) L l L'] (t:0<W) (r:0<=i) (u:i<l.length) (s:∀f,Hs G f (ls enc W e a c (l.set i.toNat y)::L')->k f):bA (jV W (.slice a l.length c) (I i)) fun p=>bA (sH h W p (.agg ⟨enc y⟩)) k:=by
 obtain⟨n,rfl⟩:=Int.eq_ofNat_of_zero_le r;have g:n<l.length:=by omega
 have j:Hs G h (dI W e a c (l.length,eL enc l)::L'):=m.of j;obtain⟨b,o,rfl,q⟩:=j.fN (by omega);refine dO g ?_;rw[show pt b (o+n*W) 0=pt b o (n*W) by simp[pt]];have hle:n*W+W<=(eL enc l).length:=by rw[yW,<-Nat.succ_mul];exact Nat.mul_le_mul_right _ g
 refine bK q (F.len y) (Nat.ble_eq_true_of_le hle) (F.cel y) (Nat.ble_eq_true_of_le (by omega)) fun f d=>?_;rw[zc g] at d;have:=s f;rw[Int.toNat_natCast] at this;refine this ?_;unfold ls;rw[List.length_set];exact Hs.mC d (by rw[yW,List.length_set]) Gg
omit F in
theorem kL [Fx enc W] {bytes c2:Nat} {a2:Option Addr} {l2:List α} {k:Value×AH->Prop} (r:Hs G h L) [m:Has (ls enc W e a c) L l L'] [m2:Has (ls enc W e a2 c2) L' l2 M] (p:(l.length+l2.length)*(bytes+1)<=2^46)
  (q:∀b d f,Hs G f (ls enc W e b d (l++l2)::ls enc W e a2 c2 l2::M)->k (.slice b (l++l2).length d,f)):bA (iK W bytes e h (.slice a l.length c) (.slice a2 l2.length c2)) k:=by
 have i:=m.of r
 have j:Hs G h (ls enc W e a2 c2 l2::ls enc W e a c l::M):=(i.perm ((m2.perm.cons _).trans (List.Perm.swap _ _ _)))
 have o:Hs G h (dI W e a c (l.length,eL enc l)::dI W e a2 c2 (l2.length,eL enc l2)::M):=j.lJ
 refine rD o p fun b d f g=>?_
 have:=q b d f
 unfold ls at this
 rw[List.length_append,wm] at this
 exact this g
end
theorem aFt {a b:Int} {k:Value->Prop} (d:k (I (if b<a then b else a))):bA (uW (I a) (I b)) k:=⟨_,rfl,d⟩
theorem aCi {α:Type} {enc:α->List Value} {W:Nat} {e:TypeId} {a:Option Addr} {c i j:Nat} {l:List α} {k:Value->Prop} (d:Hs G h L) [m:Has (ls enc W e a c) L l L'] (A:i<l.length) (t:i<=j) (B:j<=l.length)
  (u:∀b o,a=some ⟨b,o,none⟩->k (.slice (some ⟨b,o+i*W,none⟩) (j - i) (c - i))):bA (vD W h (.slice a l.length c) (some (I i)) (some (I j)) none) k:=by
 have d:Hs G h (dI W e a c (l.length,eL enc l)::L'):=m.of d
 have w:l.length<=c/\∃b o,a=some ⟨b,o,none⟩:=d.cz fun r v=>by
  obtain⟨_,_,⟨f,_⟩|⟨f,_⟩|⟨f,b,x,g,ex,y,_⟩⟩:=v;grind;grind;grind
 obtain⟨z,b,o,rfl⟩:=w
 refine⟨_,?_,u b o rfl⟩
 have p:lF none c c=some c:=by simp[lF]
 have q:lF (some (I j)) l.length c=some j:=by simp[lF];omega
 have s:lF (some (I i)) 0 j=some i:=by simp[lF];omega
 unfold vD
 simp only[p,q,s,Option.isNone_some,Bool.false_and,Bool.false_eq_true,if_false,Option.isSome_none]
 rw[aae,aab,dB]
theorem aF7 {α:Type} {enc:α->List Value} {W:Nat} [F:Fx enc W] {e:TypeId} {b o c n:Nat} {l:List α} {x:α} {k:Value->Prop} (d:Hs G h L) [m:Has (ls enc W e (some ⟨b,o,none⟩) c) L l L'] (i:0<W) (g:l[n]?=some x) (p:k (.agg ⟨enc x⟩)):bA (rT h W (pt b (o+n*W) 0)) k:=by
 have d:Hs G h (dI W e (some ⟨b,o,none⟩) c (l.length,eL enc l)::L'):=m.of d;have r:=(List.getElem?_eq_some_iff.1 g).1;obtain⟨q,s,j,f⟩:=d.fN (by omega);cases j;rw[show pt b (o+n*W) 0=pt b o (n*W) by simp[pt]];exact aN f i (zd g) (F.len x) p
end Go.Ab
end
namespace Go.Hm
open Go Go.Ab
section
structure bQ where
 aD:Int
 bM:Int
 bC:Int
 ways:Int
 depth:Int
 entries:Int
 aK:Int
 deriving DecidableEq
def bQ.list (C:bQ):List Int:=[C.aD,C.bM,C.bC,C.ways,C.depth,C.entries,C.aK]
def bQ.enc (C:bQ):List Value:=[I C.aD,I C.bM,I C.bC,I C.ways,I C.depth,I C.entries,I C.aK]
def aFa:List Int:=[4,16,8,4,16,8,4]
def eY:List Value:=[I 4,I 16,I 8,I 4,I 16,I 8,I 4]
def bQ.qj (C:bQ):Nat->Nat->Int
 |0,_=>0
 |f+1,i=>if C.list.getD i 0<1\/aFa.getD i 0<C.list.getD i 0 then 10 else C.qj f (i+1)
def bQ.Ok (C:bQ):Prop:=(1<=C.aD/\C.aD<=4)/\(1<=C.bM/\C.bM<=16)/\(1<=C.bC/\C.bC<=8)/\(1<=C.ways/\C.ways<=4)/\(1<=C.depth/\C.depth<=16)/\(1<=C.entries/\C.entries<=8)/\(1<=C.aK/\C.aK<=4)
instance (C:bQ):Decidable C.Ok:=by unfold bQ.Ok;infer_instance
theorem bQ.aIx (C:bQ):C.qj 7 0=if C.Ok then 0 else 10:=by
 simp only[bQ.qj,bQ.list,aFa,List.getD_cons_zero,List.getD_cons_succ];by_cases h:C.Ok;rw[aLy h];unfold bQ.Ok at h;repeat rw[aab]
 .rw[aLx h];unfold bQ.Ok at h;repeat' split
  all_goals first|rfl|(exfalso;omega)
def bQ.lines (C:bQ):Nat:=(C.bM*2).toNat
theorem bQ.eP {C:bQ} (h:C.Ok):(C.lines:Int)=C.bM*2/\2<=C.lines/\C.lines<=32:=by
 unfold bQ.Ok at h;unfold bQ.lines;omega
end
section
abbrev Ln:=Int×Int
def mO (l:Ln):List Value:=[I l.1,I l.2]
def gO (n B i:Nat):Nat:=(n+B - 1 - i)/B
theorem px {B i:Nat} (b:i<B):gO 0 B i=0:=Nat.div_eq_of_lt (by omega)
theorem Py {n B i:Nat} (f:i<B):gO (n+1) B i=if i=n % B then gO n B i+1 else gO n B i:=by
 have b:=Nat.div_add_mod n B;have d:=Nat.mod_lt n (show 0<B by omega);unfold gO;generalize n/B=q at b;generalize n % B=r at b d ⊢;subst b;split;rename_i h;subst h;rw[show B*q+i+1+B - 1 - i=B*q+B by omega,show B*q+i+B - 1 - i=B*q+(B - 1) by omega];rw[Nat.mul_add_div (by omega),Nat.mul_add_div (by omega),Nat.div_self (by omega),Nat.div_eq_of_lt (show B - 1<B by omega)];rename_i h;rcases Nat.lt_or_ge i r with h1|h1;rw[show B*q+r+1+B - 1 - i=B*q+(B+(r - i)) by omega,show B*q+r+B - 1 - i=B*q+(B+(r - i - 1)) by omega];rw[Nat.mul_add_div (by omega),Nat.mul_add_div (by omega),Nat.add_div_left _ (by omega),Nat.add_div_left _ (by omega),Nat.div_eq_of_lt (show r - i<B by omega),Nat.div_eq_of_lt (show r - i - 1<B by omega)];rw[show B*q+r+1+B - 1 - i=B*q+(B+r - i) by omega,show B*q+r+B - 1 - i=B*q+(B+r - i - 1) by omega];rw[Nat.mul_add_div (by omega),Nat.mul_add_div (by omega),Nat.div_eq_of_lt (show B+r - i<B by omega),Nat.div_eq_of_lt (show B+r - i - 1<B by omega)]
theorem D1 {n B l:Nat} (hB:0<B) (d:l<n):l/B<gO n B (l % B):=by
 unfold gO;have b:=Nat.div_add_mod l B;have f:=Nat.mod_lt l hB;rw[Nat.lt_div_iff_mul_lt hB];rw[Nat.mul_comm];generalize B*(l/B)=q at b ⊢;omega
theorem S9 {B l k i:Nat} (b:i<B):k*B+i=l↔k=l/B/\i=l % B:=by
 constructor;intro h;subst h;rw[Nat.mul_comm,Nat.mul_add_div (by omega),Nat.mul_add_mod,Nat.div_eq_of_lt b,Nat.mod_eq_of_lt b];simp;rintro ⟨rfl,rfl⟩;have:=Nat.div_add_mod l B;rw[Nat.mul_comm];exact this
theorem bQ.bk {C:bQ} (h:C.Ok):(C.aK.toNat:Int)=C.aK/\0<C.aK.toNat/\C.aK.toNat<=4:=by unfold bQ.Ok at h;omega
def Mb (B i:Nat) (mem:Nat->Ln):Nat->List Value:=fun k=>mO (mem (k*B+i))
theorem Iv {B i:Nat} {mem:Nat->Ln} (k:Nat):(Mb B i mem k).length=2:=rfl
theorem rV {α:Type} {f:Nat->α} {i:Nat}:cB f i (f i)=f:=by
 funext j;unfold cB;split;rename_i h;rw[h];rfl
theorem ct {B l:Nat} {mem:Nat->Ln} (hB:0<B):Mb B (l % B) mem (l/B)=mO (mem l):=by
 unfold Mb;rw[(S9 (Nat.mod_lt l hB)).2 ⟨rfl,rfl⟩]
theorem H7 {B l:Nat} {mem:Nat->Ln} {v:Ln} (hB:0<B):cB (Mb B (l % B) mem) (l/B) (mO v)=Mb B (l % B) (cB mem l v):=by
 funext k;unfold Mb cB;have:=(S9 (l:=l) (k:=k) (Nat.mod_lt l hB));by_cases h:k=l/B;rw[aLy h,aLy (this.2 ⟨h,rfl⟩)];rw[aLx h,aLx (fun e=>h (this.1 e).1)]
theorem wj {B l i:Nat} {mem:Nat->Ln} {v:Ln} (b:i<B) (h:i≠l % B):Mb B i (cB mem l v)=Mb B i mem:=by
 funext k;unfold Mb cB;rw[aLx (fun e=>h ((S9 b).1 e).2)]
theorem dz {n B i:Nat} (hB:0<B):gO n B i<=n:=by
 unfold gO;refine Nat.le_of_lt_succ (Nat.div_lt_of_lt_mul ?_);rw[Nat.mul_succ];have:n<=B*n:=Nat.le_mul_of_pos_left _ hB;omega
def oY:Nat->Ln:=fun _=>(0,0)
end
section
structure aQ where
 kind:Int
 core:Int
 line:Int
 world:Int
 state:Int
 d0:Int
 d1:Int
 Dx:Bool
 no:Int
 deriving DecidableEq
def aQ.enc (n:aQ):List Value:=[I n.kind,I n.core,I n.line,I n.world,I n.state,I n.d0,I n.d1,.bool n.Dx,I n.no]
def aQ.zero:aQ:=⟨0,0,0,0,0,0,0,false,0⟩
def eJ (l:List aQ):List Value:=l.flatMap aQ.enc
theorem xJ (l m:List aQ):eJ (l++m)=eJ l++eJ m:=by simp[eJ]
@[simp] theorem Mx (n:aQ) (l:List aQ):eJ (n::l)=n.enc++eJ l:=rfl
@[simp] theorem Pp:eJ []=[]:=rfl
structure Row where
 owner:Int
 sh:Nat->Bool
 waits:List aQ
 busy:Bool
 served:aQ
 world:Int
 asked:Nat->Bool
 granted:Bool
 told:Bool
 d0:Int
 d1:Int
def Row.enc (r:Row) (a:Option Addr) (c:Nat):List Value:=
 [I r.owner,.bool (r.sh 0),.bool (r.sh 1),.bool (r.sh 2),.bool (r.sh 3),.slice a r.waits.length c,.bool r.busy,I r.served.kind,I r.served.core,I r.served.line,I r.served.world,I r.served.state,I r.served.d0,I r.served.d1,.bool r.served.Dx,I r.served.no,
   I r.world,.bool (r.asked 0),.bool (r.asked 1),.bool (r.asked 2),.bool (r.asked 3),.bool r.granted,.bool r.told,I r.d0,I r.d1]
def Row.Z1 (r:Row):List Value:=[I r.owner,.bool (r.sh 0),.bool (r.sh 1),.bool (r.sh 2),.bool (r.sh 3)]
def Row.Lp (r:Row) (a:Option Addr) (c:Nat):List Value:=
 [.slice a r.waits.length c,.bool r.busy,I r.served.kind,I r.served.core,I r.served.line,I r.served.world,I r.served.state,I r.served.d0,I r.served.d1,.bool r.served.Dx,I r.served.no,
   I r.world,.bool (r.asked 0),.bool (r.asked 1),.bool (r.asked 2),.bool (r.asked 3),.bool r.granted,.bool r.told,I r.d0,I r.d1]
theorem Row.jb (r:Row) (a:Option Addr) (c:Nat):r.enc a c=r.Z1++r.Lp a c:=rfl
def wS (f:Nat->Bool) (i:Int) (v:Bool):Nat->Bool:=fun j=>if(j:Int)=i then v else f j
def Row.free (r:Row):Row:={r with busy:=false,granted:=false,told:=false,served:=aQ.zero,world:=0,d0:=0,d1:=0}
def Row.leave (r:Row) (core:Int):Row:={r with sh:=wS r.sh core false,owner:=if r.owner=core then -1 else r.owner}
def Row.holds (r:Row) (but:Int) (i:Nat):Bool:=decide ((i:Int)≠but)&&(r.sh i||decide ((i:Int)=r.owner))
theorem ui {r:Row} {x:Int} {i:Nat} (h:(i:Int)≠x) (b:r.sh i=true):r.holds x i=true:=by simp[Row.holds,h,b]
theorem u9 {r:Row} {x:Int} {i:Nat} (h:(i:Int)≠x) (b:(i:Int)=r.owner):r.holds x i=true:=by
 unfold Row.holds;rw[decide_eq_true h,decide_eq_true b];simp
theorem et {r:Row} {x:Int} {i:Nat} (h:(i:Int)=x):r.holds x i=false:=by
 unfold Row.holds;rw[decide_eq_false (by simpa using h)];rfl
theorem fc {r:Row} {x:Int} {i:Nat} (h:r.sh i=false) (b:(i:Int)≠r.owner):r.holds x i=false:=by
 unfold Row.holds;rw[h,decide_eq_false b];simp
def Row.zW (r:Row) (but:Int):Nat->Nat->Int
 |0,_=> -1
 |f+1,i=>if r.holds but i then i else r.zW but f (i+1)
def Row.first (r:Row) (but:Int):Int:=r.zW but 4 0
def Row.gI (r:Row) (but:Int):Nat->Nat->List Nat
 |0,_=>[]
 |f+1,i=>if r.holds but i then i::r.gI but f (i+1) else r.gI but f (i+1)
def Row.kD (r:Row) (but:Int):List Nat:=r.gI but 4 0
def Row.gR (r:Row) (l:List Nat):Row:={r with asked:=fun j=>r.asked j||l.contains j}
def hQ (line state:Int) (l:List Nat):List aQ:=l.map fun(i:Nat)=>{aQ.zero with kind:=11,core:=(i:Int),line:=line,state:=state}
def Row.quiet (r:Row):Bool:= !(r.asked 0||r.asked 1||r.asked 2||r.asked 3)
abbrev sQ:=Row×Ln
def Row.mj (r:Row) (m:Ln):Ln:=if r.told then(r.d0,r.d1) else m
def Row.rB (r:Row) (line st:Int) (d:Ln):aQ:=⟨8,r.served.core,line,r.world,st,d.1,d.2,false,0⟩
def Row.hU (r:Row) (line:Int) (d:Ln):Row×List aQ:=
 if r.served.kind=2 then({r with owner:=r.served.core,sh:=fun _=>false,granted:=true},[r.rB line 4 d])
 else if r.first r.served.core= -1 then({r with owner:=r.served.core,sh:=wS r.sh r.served.core false,granted:=true},[r.rB line 2 d])
 else({r with sh:=wS r.sh r.served.core true,granted:=true},[r.rB line 1 d])
def valid (s:Int):Bool:=decide (0<=s/\s<5)&&decide (s≠0)
def Row.mN (r:Row) (n:aQ):Row:={r with asked:=wS r.asked n.core false}
def Row.Gp (r:Row) (n:aQ):Row:={r with owner:= -1,sh:=wS r.sh n.core (valid n.state)}
def Row.qY (r:Row) (n:aQ):Row:={r with told:=true,d0:=n.d0,d1:=n.d1}
def Row.heard (r:Row) (n:aQ):Row:=
 if r.served.kind≠1 then(r.mN n).leave n.core
 else if n.state≠3 then(if n.Dx then((r.mN n).Gp n).qY n else(r.mN n).Gp n)
 else if n.Dx then(r.mN n).qY n else r.mN n
def Row.Rz (r:Row) (m:Ln) (n:aQ):Ln:=if r.served.kind≠1/\n.Dx=true then(n.d0,n.d1) else m
def Row.rest (r:Row) (line:Int) (m:Ln):Row×List aQ:=
 if r.quiet then(if r.served.kind=0 then(r.free,[]) else r.hU line (r.mj m)) else(r,[])
def sQ.P6 (x:sQ) (line:Int) (n:aQ):sQ×List aQ:=
 let m:=x.1.Rz x.2 n
 let g:=(x.1.heard n).rest line m
 ((g.1,m),g.2)
def Row.serve (r:Row) (n:aQ) (world:Int):Row:={r with busy:=true,served:=n,world:=world}
def Row.getM (r:Row) (line:Int) (m:Ln):Row×List aQ:=
 if r.first r.served.core≠ -1 then(r.gR (r.kD r.served.core),hQ line 0 (r.kD r.served.core)) else r.hU line (r.mj m)
def Row.j1 (r:Row) (line:Int) (m:Ln):Row×List aQ:=
 if r.owner≠ -1 then(r.gR [r.owner.toNat],hQ line 1 [r.owner.toNat]) else r.hU line (r.mj m)
def Row.tG (r:Row):Row:=if r.owner=r.served.core then {r with owner:= -1} else r
def Row.get (r:Row) (line:Int) (m:Ln) (n:aQ) (world:Int):Row×List aQ:=
 let r:=r.serve n world
 if n.kind=2 then r.getM line m else r.tG.j1 line m
def Row.wait (r:Row) (n:aQ):Row:={r with waits:=r.waits++[n]}
def Row.next (r:Row) (w:List aQ):Row:={r with waits:=w}
def Row.Jr (r:Row) (n:aQ):Row:={r with busy:=true,served:=n}
def sQ.take (x:sQ) (line:Int) (n:aQ):sQ×List aQ×Int:=
 if n.kind=4 then(if x.1.granted=false\/x.1.served.core≠n.core then(x,[],16) else((x.1.free,x.2),[],0))
 else if n.kind=5 then(if x.1.asked n.core.toNat=false then(x,[],16) else let g:=sQ.P6 x line n;(g.1,g.2,0))
 else((x.1.wait n,x.2),[],0)
def Cr (line:Int):aQ:={aQ.zero with line:=line}
def sQ.aD0 (x:sQ) (line:Int):sQ:=(x.1.wait (Cr line),x.2)
def C5 (kind core line:Int):aQ:={aQ.zero with kind:=kind,core:=core,line:=line}
def Row.begun (r:Row) (line:Int) (m:Ln) (n:aQ) (j:Int->Int×Bool):sQ×List aQ:=
 if n.kind=3 then((r.leave n.core,if r.owner=n.core/\n.Dx=true then(n.d0,n.d1) else m),[C5 10 n.core line])
 else if n.kind=1\/n.kind=2 then(if(j n.world).2=true then let g:=r.get line m n (j n.world).1;((g.1,m),g.2) else((r,m),[C5 9 n.core line]))
 else if r.first (-1)= -1 then((r,m),[])
 else(((r.Jr n).gR (r.kD (-1)),m),hQ line 0 (r.kD (-1)))
def sQ.begin (x:sQ) (line:Int) (j:Int->Int×Bool):sQ×List aQ×Int:=
 if x.1.busy=true then(x,[],16)
 else match x.1.waits with
  |[]=>(x,[],12)
  |n::w=>let g:=Row.begun (x.1.next w) line x.2 n j;(g.1,g.2,0)
abbrev lB:=Nat->sQ
def Dq:Row:=⟨-1,fun _=>false,[],false,aQ.zero,0,fun _=>false,false,false,0,0⟩
theorem G8 {r:Row} {x:Int}:∀(f i:Nat),i+f=4->(∀c∈r.gI x f i,c<4)/\(r.gI x f i).length<=f:=by
 intro f;induction f with
 |zero=>intro i g;simp[Row.gI]
 |succ f j=>
  intro i g;obtain⟨d,k⟩:=j (i+1) (by omega);unfold Row.gI;split;refine⟨fun c b=>?_,by simp;omega⟩;rcases List.mem_cons.1 b with rfl|b;omega;exact d c b;exact⟨d,by omega⟩
theorem Yf {r:Row} {x:Int}:∀c∈r.kD x,c<4:=(G8 4 0 rfl).1
theorem tH {r:Row} {x:Int}:(r.kD x).length<=4:=(G8 4 0 rfl).2
def bQ.has (C:bQ) (l:Int):Prop:=0<=l/\l<C.lines
instance (C:bQ) (l:Int):Decidable (C.has l):=by unfold bQ.has;infer_instance
def fT (k:Int):Prop:=k=1\/k=2\/k=3\/k=4\/k=5
instance (k:Int):Decidable (fT k):=by unfold fT;infer_instance
def lB.at (H:lB) (l:Int):sQ:=H l.toNat
def gQ (C:bQ) (H:lB) (n:aQ):lB×List aQ×Int:=
 if ¬fT n.kind then(H,[],15)
 else if(0<=n.core/\n.core<C.aD)/\C.has n.line then(cB H n.line.toNat (sQ.take (H n.line.toNat) n.line n).1,(sQ.take (H n.line.toNat) n.line n).2)
 else(H,[],10)
def lX (C:bQ) (H:lB) (l:Int):lB×Int:=if C.has l then(cB H l.toNat (sQ.aD0 (H l.toNat) l),0) else(H,10)
def kR (C:bQ) (H:lB) (l:Int) (j:Int->Int×Bool):lB×List aQ×Int:=
 if C.has l then(cB H l.toNat (sQ.begin (H l.toNat) l j).1,(sQ.begin (H l.toNat) l j).2) else(H,[],10)
structure Row.Inv (r:Row):Prop where
 core:0<=r.served.core/\r.served.core<4
 owner: -1<=r.owner/\r.owner<4
 waits:∀n∈r.waits,0<=n.core/\n.core<4
def vF (C:bQ) (H:lB) (N:Nat):Prop:=∀l,l<C.lines->(H l).1.Inv/\(H l).1.waits.length<=N
def D5 (C:bQ) (H:lB) (l:Int):Int:=if C.has l then((H l.toNat).1.waits.length:Int) else 0
def sU (n:Nat):lB:=fun i=>if i<n then(Dq,(0,0)) else({Dq with owner:=0},(0,0))
theorem mw {n:Nat}:cB (sU n) n (Dq,(0,0))=sU (n+1):=by
 funext i;unfold cB sU;by_cases h:i=n;rw[aLy h,aae];rw[aLx h];by_cases b:i<n;rw[aLy b,aae];rw[aLx b,aab]
def aQ.fits (n r:aQ) (len:Nat):Prop:=
 n.line=r.line/\n.no=0/\((n.kind=8/\n.core=r.core/\len=1/\(r.kind=1\/r.kind=2))\/(n.kind=9/\n.world=0/\n.core=r.core/\len=1/\(r.kind=1\/r.kind=2))\/
  (n.kind=10/\n.world=0/\n.core=r.core/\len=1/\r.kind=3)\/(n.kind=11/\n.world=0/\n.core≠r.core/\(r.kind=1\/r.kind=2\/(r.kind=0/\n.state=0))))
end
end Go.Hm
namespace Go.Ct
open Go Go.Ab Go.Hm
section
def V2 (s:Int):Bool:=decide (1<=s/\s<=4)
def vV (s:Int):Bool:=decide (s=2\/s=4)
def mM (s:Int):Bool:=decide (s=3\/s=4)
def F2 (s:Int):Bool:=decide (2<=s/\s<=4)
def isS (s:Int):Bool:=decide (0<=s/\s<5)
def Qz (s:Int):Int:=if s=2 then 1 else if s=4 then 3 else s
def rP (s:Int) (w:Bool):Bool:=if w then vV s else V2 s
structure qC where
 st:Int
 w:Int
 d:Ln
 deriving DecidableEq
def qC.enc (x:qC):List Value:=[I x.st,I x.w,I x.d.1,I x.d.2]
def qC.zero:qC:=⟨0,0,(0,0)⟩
abbrev Th:=Int×qC
def vJ (t:Th):List Value:=I t.1::t.2.enc
def cY (l:List Th):List Value:=l.flatMap vJ
theorem jS (l:List Th):(cY l).length=l.length*5:=by
 induction l with
 |nil=>rfl
 |cons a t b=>simp only[cY,List.flatMap_cons,List.length_append] at b ⊢;rw[b];simp[vJ,qC.enc];omega
theorem pR (l:List Th):(cY l).all eK=true:=by
 induction l with
 |nil=>rfl
 |cons a t b=>simp only[cY,List.flatMap_cons,List.all_append,Bool.and_eq_true] at b ⊢;exact⟨rfl,b⟩
theorem kl (l m:List Th):cY (l++m)=cY l++cY m:=by simp[cY]
theorem X2 (l:List Th) (i:Nat):(cY l).take (i*5)=cY (l.take i):=by
 induction l generalizing i with
 |nil=>simp[cY]
 |cons a t b=>
  cases i with
  |zero=>simp[cY]
  |succ i=>
   have:(i+1)*5=5+i*5:=by omega
   simp only[cY,List.flatMap_cons,List.take_succ_cons] at b ⊢;rw[this,List.take_append,List.take_of_length_le (by simp[vJ,qC.enc])];have d:(vJ a).length=5:=rfl;rw[d,show 5+i*5 - 5=i*5 by omega,b]
theorem La (l:List Th) (i:Nat):(cY l).drop (i*5)=cY (l.drop i):=by
 induction l generalizing i with
 |nil=>simp[cY]
 |cons a t d=>
  cases i with
  |zero=>simp[cY]
  |succ i=>
   have:(i+1)*5=5+i*5:=by omega
   simp only[cY,List.flatMap_cons,List.drop_succ_cons] at d ⊢;have b:(vJ a).length=5:=rfl;rw[this,List.drop_append,List.drop_of_length_le (by rw[b];omega),b,show 5+i*5 - 5=i*5 by omega,d,List.nil_append]
theorem Uf {l:List Th} {i:Nat} {t:Th} (h:l[i]?=some t):((cY l).drop (i*5)).take 5=vJ t:=by
 rw[La];have b:=(List.getElem?_eq_some_iff.1 h);rw[List.drop_eq_getElem_cons b.1,b.2];simp only[cY,List.flatMap_cons];exact List.take_left' rfl
def ix (no:Int):List Th->Option Nat
 |[]=>none
 |t::l=>if t.1=no then some 0 else(ix no l).map (·+1)
def qk (no:Int) (l:List Th):Int:=match ix no l with|some i=>i|none=> -1
def get (no:Int) (l:List Th):Option qC:=(l.find? fun t=>decide (t.1=no)).map (·.2)
def rem (no:Int):List Th->List Th
 |[]=>[]
 |t::l=>if t.1=no then l else t::rem no l
theorem xD {no:Int} {l:List Th} {i:Nat} (h:ix no l=some i):∃x,l[i]?=some (no,x)/\get no l=some x/\rem no l=l.take i++l.drop (i+1)/\i<l.length:=by
 induction l generalizing i with
 |nil=>cases h
 |cons t l k=>
  simp only[ix] at h;by_cases b:t.1=no;rw[aLy b] at h;cases h;exact⟨t.2,by simp[<-b],by simp[get,b],by simp[rem,b],by simp⟩;rw[aLx b] at h;cases hx:ix no l with
  |none=>rw[hx] at h;cases h
  |some j=>
   rw[hx] at h;cases h;obtain⟨x,f,d,g,m⟩:=k hx;refine⟨x,by simpa using f,?_,?_,by simp;omega⟩;simp only[get,List.find?_cons,decide_eq_false b] at d ⊢;exact d;simp[rem,b,g]
theorem Al {no:Int} {l:List Th} (h:ix no l=none):get no l=none/\rem no l=l:=by
 induction l with
 |nil=>exact⟨rfl,rfl⟩
 |cons t l g=>
  simp only[ix] at h;by_cases b:t.1=no;rw[aLy b] at h;cases h;rw[aLx b] at h;obtain⟨d,f⟩:=g (by simpa using h);refine⟨?_,by simp[rem,b,f]⟩;simp only[get,List.find?_cons,decide_eq_false b] at d ⊢;exact d
theorem Ic {no:Int} {l:List Th}:(rem no l).length=if(get no l).isSome then l.length - 1 else l.length:=by
 cases h:ix no l with
 |none=>obtain⟨d,b⟩:=Al h;rw[d,b];rfl
 |some i=>
  obtain⟨x,d,b,f,g⟩:=xD h;rw[b,f];simp;omega
structure jJ where
 S:Nat->List Th
 al:Int
 aw:Bool
 U1:Bool
 gl:Int
 gc:qC
 Hz:Bool
def jJ.new:jJ:=⟨fun _=>[],0,false,false,0,qC.zero,false⟩
def jJ.tail (c:jJ):List Value:=[I c.al,.bool c.aw,.bool c.U1,I c.gl]++c.gc.enc++[.bool c.Hz]
variable (n:Nat) (ways:Nat) (lines:Int) (core:Int)
def setOf (l:Int):Nat:=(l % (n:Int)).toNat
def jJ.aGe (c:jJ) (l:Int):Option qC:=if l<0 then none else get l (c.S (setOf n l))
def jJ.may (c:jJ) (l b:Int) (w:Bool):Bool:=match c.aGe n l with
 |some x=>decide (x.w=b)&&rP x.st w
 |none=>false
def jJ.set (c:jJ) (l:Int) (s:List Th):jJ:={c with S:=cB c.S (setOf n l) s}
def jJ.drop (c:jJ) (l:Int):jJ:=c.set n l (rem l (c.S (setOf n l)))
def jJ.put (c:jJ) (l:Int) (x:qC):jJ:=c.set n l (if(rem l (c.S (setOf n l))).length>=ways then rem l (c.S (setOf n l)) else rem l (c.S (setOf n l))++[(l,x)])
end
end Go.Ct
namespace Go.Ab
open Go.Ct Go.Hm
section
noncomputable section
def cm (x:Th):List Th->List Th
 |[]=>[x]
 |y::l=>if x.1<=y.1 then x::y::l else y::cm x l
def nA:List Th->List Th
 |[]=>[]
 |x::l=>cm x (nA l)
def Hb:List Th->Bool
 |[]=>true
 |x::l=>(l.all fun y=> !(y.1==x.1))&&Hb l
def Hg:Nat->List Value->Option (List Th)
 |0,[]=>some []
 |n+1,.int .i64 a:: .int .i64 s:: .int .i64 w:: .int .i64 d:: .int .i64 e::l=>(Hg n l).map fun r=>(a,⟨s,w,(d,e)⟩)::r
 |_,_=>none
def Df (b o n:Nat):AH->Option (Value×AH):=fun h=>
 match cJ h ⟨b,o,none⟩ (n*5) with
 |some d=>match Hg n d with
  |some l=>if Nat.ble l.length 1000&&Hb l then(dK h ⟨b,o,none⟩ (cY (nA l))).map fun f=>(.tuple ⟨[]⟩,f) else none
  |none=>none
 |none=>none
def He (e:TypeId) (n:Int):AH->Option (Value×AH):=fun h=>
 if n=0 then some (.slice none 0 0,h) else if 0<n/\n<=1000 then some (.slice (some ⟨h.next,0,some 2⟩) 0 0,h.alloc (.cells [] e (0,0) false)) else none
end
theorem Oi:∀l:List Th,Hg l.length (cY l)=some l
 |[]=>rfl
 |x::l=>by
  show(Hg l.length (cY l)).map _=_;rw[Oi l];rfl
theorem Jw:∀{n:Nat} {cs:List Value} {l:List Th},Hg n cs=some l->cs=cY l/\l.length=n
 |0,[],l,h=>by simp[Hg] at h;subst h;exact⟨rfl,rfl⟩
 |0,_::_,l,h=>by simp[Hg] at h
 |n+1,cs,l,h=>by
  unfold Hg at h;split at h;rename_i b;omega;rename_i m a s w d e r b;obtain rfl:n=m:=by omega
  simp only[Option.map_eq_some_iff] at h;obtain⟨i,g,rfl⟩:=h;obtain⟨rfl,f⟩:=Jw g;exact⟨rfl,by simp[f]⟩;cases h
theorem Fg (x:Th):∀l:List Th,(cm x l).Perm (x::l)
 |[]=>List.Perm.refl _
 |y::l=>by
  unfold cm;split;exact List.Perm.refl _;exact((Fg x l).cons y).trans (List.Perm.swap x y l)
theorem iE:∀l:List Th,(nA l).Perm l
 |[]=>List.Perm.refl _
 |x::l=>(Fg x (nA l)).trans ((iE l).cons x)
theorem Ho (x:Th):∀l:List Th,l.Pairwise (fun a b=>a.1<=b.1)->(cm x l).Pairwise (fun a b=>a.1<=b.1)
 |[],_=>by simp[cm]
 |y::l,h=>by
  unfold cm;split;rename_i f;refine List.Pairwise.cons (fun z d=>?_) h;rcases List.mem_cons.1 d with rfl|d;exact f;exact Int.le_trans f (List.rel_of_pairwise_cons h d);rename_i f;refine List.Pairwise.cons (fun z d=>?_) (Ho x l h.of_cons);rcases List.mem_cons.1 ((Fg x l).mem_iff.1 d) with rfl|d;omega;exact List.rel_of_pairwise_cons h d
theorem Dv:∀l:List Th,(nA l).Pairwise (fun a b=>a.1<=b.1)
 |[]=>List.Pairwise.nil
 |x::l=>Ho x _ (Dv l)
theorem Vj:∀{l:List Th},Hb l=true->∀a∈l,∀b∈l,a.1=b.1->a=b
 |[],_,a,g,_,_,_=>by cases g
 |x::l,h,a,g,b,o,e=>by
  simp only[Hb,Bool.and_eq_true,List.all_eq_true,Bool.not_eq_true',beq_eq_false_iff_ne] at h;obtain⟨k,m⟩:=h;rcases List.mem_cons.1 g with i|d<;>rcases List.mem_cons.1 o with j|f;rw[i,j];subst i;exact absurd e.symm (k b f);subst j;exact absurd e (k a d);exact Vj m a d b f e
abbrev ltT (x y:Th):Bool:=decide (x.1<y.1)
end
end Go.Ab
