/- A part of the proof. -/
import Derived.Test.YtmhapehobfnoiaaGreatDoorS6
import Derived.Test.YtmhapehobfnoiaaGreatDoorS7
import Derived.Test.YtmhapehobfnoiaaGreatDoorS5
section
namespace Go.Ab
noncomputable section
variable {P:Program} {K:FuncId->List Value->Option kA}
def hA:Unit:=Function.const _ () @Cl
def hB:Unit:=Function.const _ () hA
def hC:Unit:=Function.const _ () hB
def hD:Unit:=Function.const _ () hC
def hE:Unit:=Function.const _ () hD
def hG:Unit:=Function.const _ () hE
def hP (p:Prop):Prop:=(fun _:Unit=>p) hG
def hF:Prop:=hP False
inductive Kn where
 |un|ex|b (x:Bool)|sk|no
abbrev Ek:=List (Nat×Value×Kn)
def Ek.lk:Ek->Nat->Option (Value×Kn)
 |[],_=>none
 |(b,v,k)::a,t=>match Nat.beq b t with
  |true=>(match k with
   |.no=>none
   |k=>some (v,k))
  |false=>Ek.lk a t
def fI (a:Ek) (env:List Value):Prop:=∀t v k,a.lk t=some (v,k)->env[t]?=some v/\(∀x,k= .b x->v= .bool x)/\(k= .sk->v=undef)
def aHb (v:Value) (k:Value->Prop):Prop:=match v with
 |.int .i64 n=>k (I n)
 |v=>hP (k v)
def vK (P:Program) (a:Ek) (x:Operand) (k:Value->Prop):Prop:=match x with
 |.tmp t=>(match a.lk t with
  |some (v,_)=>k v
  |none=>hF)
 |.const v=>(match dZ v with
  |true=>aHb v k
  |false=>k top)
 |.global g=>(match Nat.blt g P.globals.size with
  |true=>k (.pointer (some ⟨g,0,none⟩))
  |false=>k top)
 |.func f=>k (.func (.func f) #[] #[])
theorem fD {a:Ek} {env:List Value} (i:fI a env) {x:Operand} {k:Value->Prop} (h:vK P a x k):k (dC P env x):=by
 unfold vK at h;split at h;split at h;rename_i d;have:=(i _ _ _ d).1;simpa only[dC,List.getD_eq_getElem?_getD,this,Option.getD_some] using h;cases h;split at h;rename_i f;simp only[dC,f,if_true];unfold aHb at h;split at h<;>exact h;rename_i f;simpa only[dC,f,Bool.false_eq_true,if_false] using h;split at h;rename_i g _ b;have:g<P.globals.size:=Nat.le_of_ble_eq_true b;simpa only[dC,this,if_true] using h;rename_i g _ b;have:¬g<P.globals.size:=fun d=>by rw[show Nat.blt g P.globals.size=true from Nat.ble_eq_true_of_le d] at b;cases b
 simpa only[dC,this,if_false] using h;exact h
def yl (P:Program) (a:Ek) (x:Option Operand) (k:Option Value->Prop):Prop:=match x with
 |none=>k none
 |some x=>vK P a x fun v=>k (some v)
theorem V9 {a:Ek} {env:List Value} (b:fI a env) {x:Option Operand} {k:Option Value->Prop} (h:yl P a x k):k (x.map (dC P env)):=by
 cases x with
 |none=>exact h
 |some x=>exact fD b h
def U2 (P:Program) (a:Ek):List Operand->(List Value->Prop)->Prop
 |[],k=>k []
 |x::l,k=>vK P a x fun v=>U2 P a l fun b=>k (v::b)
theorem C2 {a:Ek} {env:List Value} (b:fI a env):∀{l:List Operand} {k:List Value->Prop},U2 P a l k->k (l.map (dC P env))
 |[],_,h=>h
 |_::l,k,h=>by
  have d:=fD b h;have f:=C2 b (l:=l) d;exact f
def fcL {α:Type}:List α->(List α->Prop)->Prop
 |[],k=>hP (k [])
 |v::l,k=>fcL l fun l=>k (v::l)
theorem Ir {α:Type}:∀{l:List α} {k:List α->Prop},fcL l k->k l
 |[],_,h=>h
 |_::l,_k,h=>Ir (l:=l) h
def Rm (P:Program) (t:TypeId) (k:Nat->Prop):Prop:=match P.info? t with
 |some ⟨_,_,n,_,_,_,_,_,_,_⟩=>k n
 |none=>hF
theorem sE {t:TypeId} {k:Nat->Prop} (h:Rm P t k):(P.info? t).isSome=true/\k (P.cellsOf t):=by
 unfold Rm at h;split at h;rename_i b;exact⟨by rw[b];rfl,by unfold Program.cellsOf;rw[b];exact h⟩;cases h
def Iy (P:Program) (a:Ek) (place:Nat->(Nat->Nat->Prop)->Prop):List (Nat×Operand)->(List (Nat×Nat×Value)->Prop)->Prop
 |[],k=>k []
 |(i,x)::rest,k=>place i fun b size=>vK P a x fun v=>Iy P a place rest fun l=>k ((b,size,v)::l)
theorem D6 {a:Ek} {env:List Value} (b:fI a env) {place:Nat->(Nat->Nat->Prop)->Prop} {pl:Nat->Option (Nat×Nat)} (d:∀i k,place i k->∃o s,pl i=some (o,s)/\k o s):
  ∀{l:List (Nat×Operand)} {k:List (Nat×Nat×Value)->Prop},Iy P a place l k->∃r,xT pl (dC P env) l=some r/\k r
 |[],_,h=>⟨_,rfl,h⟩
 |(i,x)::rest,_,h=>by
  obtain⟨o,s,f,g⟩:=d _ _ h;obtain⟨r,j,m⟩:=D6 b d (fD b g);exact⟨_,by simp only[xT,f,j],m⟩
def plS (P:Program) (fs:Array Field) (i:Nat) (k:Nat->Nat->Prop):Prop:=match fs[i]? with
 |some ⟨_,t,b,_,_,_,_⟩=>Rm P t fun n=>k b n
 |none=>hF
theorem aGd {fs:Array Field} (i:Nat) (k:Nat->Nat->Prop) (h:plS P fs i k):∃o s,((fs[i]?).map fun f=>(f.offset,P.cellsOf f.type))=some (o,s)/\k o s:=by
 unfold plS at h;split at h;rename_i b;exact⟨_,_,by rw[b];rfl,(sE h).2⟩;cases h
def plA (n:Nat) (i:Nat) (k:Nat->Nat->Prop):Prop:=hP (k (i*n) n)
def wZ (P:Program) (t:TypeId) (k:List Value->Prop):Prop:=match zeroOf P t with
 |some z=>fcL z k
 |none=>hF
theorem dm {t:TypeId} {k:List Value->Prop} (h:wZ P t k):∃z,zeroOf P t=some z/\k z:=by
 unfold wZ at h;split at h;exact⟨_,by assumption,Ir h⟩;cases h
def aGq (l:List Nat):Nat->List Nat->List Nat
 |0,acc=>acc
 |n+1,acc=>aGq l n (l++acc)
def kF (P:Program):Nat->TypeId->Option (List Nat)
 |0,_=>none
 |d+1,t=>match P.underlying t with
  |some .bool=>some [1]
  |some (.int _)=>some [0]
  |some .string=>some [2]
  |some (.array n e)=>(match kF P d e with
   |some l=>some (aGq l n [])
   |none=>none)
  |some (.struct g)=>g.toList.foldr (fun f r=>match kF P d f.type,r with
   |some a,some b=>some (a++b)
   |_,_=>none) (some [])
  |_=>none
def kEq:Option (List Nat)->List Nat->Bool
 |some l,m=>l==m
 |none,_=>false
theorem aB9 {o:Option (List Nat)} {l:List Nat} (h:kEq o l=true):o=some l:=by
 unfold kEq at h;grind
def wB (P:Program) (op:BinOp) (t:TypeId) (x y:Operand) (a b:Value) (q:Value->Prop):Prop:=
 match P.underlying t with
 |some (.int _)=>bG (uE op a b) q
 |some .string=>bG (Uh op a b) q
 |some .bool=>bG (Ty op a b) q
 |some (.pointer _)=>bG (Oa op a b) q
 |some (.slice _)=>bG (Mr op a b) q
 |some (.func _ _ _)=>bG (Rk op a b) q
 |some (.interface _)=>(match isConst x||isConst y with
  |true=>bG (Ol true op a b) q
  |false=>bG (Ol false op a b) q)
 |some (.struct _)|some (.array _ _)=>(match kF P 20 t with
  |some d=>fcL d fun d=>Ny (kEq (Ic P t) d) d op a b q
  |none=>hF)
 |_=>hF
theorem aIx {op:BinOp} {t:TypeId} {x y:Operand} {a b:Value} {q:Value->Prop} (h:wB P op t x y a b q):Ud P op t x y a b q bG:=by
 unfold wB at h;unfold Ud;split at h;case h_7=>
  grind
 case h_8=>
  rename_i d;rw[d];split at h;obtain⟨f,h⟩:=Ir h;simp only[aB9 f];exact h;cases h
 case h_9=>
  rename_i d;rw[d];split at h;obtain⟨f,h⟩:=Ir h;simp only[aB9 f];exact h;cases h
 all_goals first|(rename_i d;rw[d];exact h)|cases h
def wL (P:Program) (a:Ek) (h:AH) (q:Value->Prop):Op->Prop
 |.move x=>vK P a x q
 |.assign x=>vK P a x q
 |.pick c x y=>vK P a c fun c=>vK P a x fun x=>vK P a y fun y=>bG (sF c x y) q
 |.build t g=>wZ P t fun z=>(match P.underlying t with
  |some (.struct o)=>(match o.toList.all (fun f=>(P.info? f.type).isSome) with
   |true=>Iy P a (plS P o) g.toList fun l=>bG (pJ z l) fun c=>q (.agg ⟨c⟩)
   |false=>hF)
  |some (.array _ e)=>Rm P e fun n=>Iy P a (plA n) g.toList fun l=>bG (pJ z l) fun c=>q (.agg ⟨c⟩)
  |_=>hF)
 |.load t x=>vK P a x fun x=>(match jM P t with
  |some true=>Rm P t fun n=>bG (uF h n x) q
  |some false=>bG (ld1 h x) q
  |none=>hF)
 |.nilCheck x=>vK P a x fun x=>bG (mY x) q
 |.binOp op t x y _=>vK P a x fun u=>vK P a y fun v=>wB P op t x y u v q
 |.unOp op _ x=>vK P a x fun x=>bG (Rn op x) q
 |.convert s d x=>vK P a x fun x=>(match P.underlying s with
  |some .string=>(match P.underlying d with
   |some (.int k)=>bG (nL k x) q
   |some .string=>bG (rR x) q
   |_=>hF)
  |some (.slice e)=>(match P.underlying d with
   |some .string=>(match P.underlying e with
    |some (.int .u8)=>bG (strOf h x) q
    |_=>hF)
   |_=>hF)
  |some _=>(match P.underlying d with
   |some (.int k)=>bG (nL k x) q
   |_=>hF)
  |none=>hF)
 |.makeInterface t x=>vK P a x fun x=>(match P.underlying t with
  |some (.interface _)=>hF
  |some _=>q (.iface t x)
  |none=>hF)
 |.makeFunc A first b=>(match A with
  |.func f=>U2 P a first.toList fun x=>U2 P a b.toList fun y=>q (.func (.func f) ⟨x⟩ ⟨y⟩)
  |_=>hF)
 |.slice t x r p w=>vK P a x fun x=>yl P a r fun r=>yl P a p fun p=>yl P a w fun w=>(match P.underlying t with
  |some (.slice e)=>Rm P e fun n=>bG (wV n h x r p w) q
  |some (.array n e)=>Rm P e fun m=>bG (Tu n m x r p w) q
  |some .string=>(match w with
   |none=>bG (U3 x r p) q
   |some _=>hF)
  |_=>hF)
 |.fieldAddr s x f=>vK P a x fun x=>(match P.underlying s with
  |some (.struct o)=>(match o[f]? with
   |some ⟨_,t,j,_,_,_,_⟩=>Rm P t fun n=>(match Nat.beq n 0 with
    |true=>hF
    |false=>bG (hQ j x) q)
   |none=>hF)
  |_=>hF)
 |.field t x f=>vK P a x fun x=>(match P.underlying t with
  |some (.struct o)=>(match o[f]? with
   |some ⟨_,t,j,_,_,_,_⟩=>(match jM P t with
    |some true=>Rm P t fun n=>bG (pS j n x) q
    |some false=>bG (pZ j x) q
    |none=>hF)
   |none=>hF)
  |_=>hF)
 |.indexAddr t x i=>vK P a x fun x=>vK P a i fun i=>(match P.underlying t with
  |some (.array n e)=>Rm P e fun m=>bG (oT n m x i) q
  |some (.slice e)=>Rm P e fun m=>bG (lN m x i) q
  |_=>hF)
 |.index t x i=>vK P a x fun x=>vK P a i fun i=>(match P.underlying t with
  |some (.array n e)=>Rm P e fun m=>(match jM P e with
   |some true=>bG (Qq n m x i) q
   |some false=>bG (Mb n m x i) q
   |none=>hF)
  |some .string=>bG (Sb x i) q
  |_=>hF)
 |.extract t i=>vK P a t fun t=>bG (qG i t) q
 |.lookup t x ix ok=>vK P a x fun x=>vK P a ix fun ix=>(match Ge P t with
  |some e=>(match zeroV P e with
   |some z=>bG (lkV z h x ix ok) q
   |none=>hF)
  |none=>hF)
 |_=>hF
theorem aH4 {a:Ek} {env:List Value} (d:fI a env) {h:AH} {q:Value->Prop} {op:Op} (b:wL P a h q op):jO P (dC P env) h q op:=by
 unfold wL at b;split at b;case h_1=>exact fD d b
 case h_2=>exact fD d b
 case h_3=>exact fD d (fD d (fD d b))
 case h_4=>
  obtain⟨z,x,b⟩:=dm b;unfold jO;simp only[x];split at b;rename_i p;simp only[p];split at b;rename_i j;rw[Array.all_toList] at j;simp only[j,if_true];obtain⟨r,g,o⟩:=D6 d aGd b;grind;cases b;rename_i e p;simp only[p];obtain⟨v,b⟩:=sE b;simp only[v,if_true];obtain⟨r,g,o⟩:=D6 (pl:=fun i=>some (i*P.cellsOf e,P.cellsOf e)) d (fun i k w=>⟨_,_,rfl,w⟩) b;grind;cases b
 case h_5=>
  have b:=fD d b;unfold jO;split at b;rename_i p;simp only[p];exact(sE b).2;grind;cases b
 case h_6=>exact fD d b
 case h_7=>exact aIx (fD d (fD d b))
 case h_8=>exact fD d b
 case h_9=>
  have b:=fD d b;unfold jO;split at b;rename_i f;simp only[f];split at b<;>first|(rename_i m;simp only[m];exact b)|cases b
  rename_i f;simp only[f];split at b;rename_i m;simp only[m];split at b<;>first|(rename_i m;simp only[m];exact b)|cases b
  cases b;rename_i g o f;simp only[f];split at b<;>first|(rename_i m;simp only[m];exact b)|cases b
  cases b
 case h_10=>
  have b:=fD d b;unfold jO;split at b;cases b;grind;cases b
 case h_11=>
  unfold jO;split at b;have b:=C2 d (C2 d b);simpa only[List.map_toArray,<-Array.toList_map] using b;cases b
 case h_12=>
  have b:=V9 d (V9 d (V9 d (fD d b)));unfold jO;split at b;rename_i f;simp only[f];obtain⟨g,o⟩:=sE b;grind;rename_i f;simp only[f];obtain⟨g,o⟩:=sE b;grind;rename_i f;simp only[f];split;exact b;exact b.elim;cases b
 case h_13=>
  have b:=fD d b;unfold jO;split at b;rename_i f;simp only[f];split at b;rename_i s;simp only[s];obtain⟨_,b⟩:=sE b;split at b;cases b;rename_i t;rw[aKi (fun e=>by rw[e] at t;cases t)];exact b;cases b;cases b
 case h_14=>
  have b:=fD d b;unfold jO;split at b;rename_i f;simp only[f];split at b;rename_i s;simp only[s];split at b;rename_i u;simp only[u];exact(sE b).2;grind;cases b;cases b;cases b
 case h_15=>
  have b:=fD d (fD d b);unfold jO;split at b;rename_i f;simp only[f];obtain⟨g,o⟩:=sE b;grind;rename_i f;simp only[f];obtain⟨g,o⟩:=sE b;grind;cases b
 case h_16=>
  have b:=fD d (fD d b);unfold jO;split at b;rename_i f;simp only[f];obtain⟨g,b⟩:=sE b;simp only[g,if_true];split at b;grind;grind;cases b;grind;cases b
 case h_17=>exact fD d b
 case h_18=>
  have b:=fD d (fD d b);unfold jO;split at b;rename_i f;simp only[f];split at b;grind;cases b;cases b
 case h_19=>cases b
end
end Go.Ab
end
section
namespace Go.Ab
noncomputable section
variable {P:Program} {K:FuncId->List Value->Option kA}
def isI (v:Value) (p:Prop):Prop:=∃k n,v= .int k n/\p
theorem aG0 {n:Int} {p:Prop} (b:p):isI (I n) p:=⟨_,n,rfl,b⟩
def lits:List Nat:=[0,1,2,3,4,5,6,7,8,9,10,11,12,13,14,15,16,17,18,19,20,21,22,23,24,25,26,27,28,29,30,31,32,33,34,35,36,37,38,39,40,41,42,43,44,45,46,47,48,49,50,51,52,53,54,55,56,57,58,59,60,61,62,63,64,65,66,67,68,69,70,71,72,73,74,75,76,77,78,79,80,81,82,83,84,85,86,87,88,89,90,91,92,93,94,95,96,97,98,99]
def nK (n:Nat) (k:Nat->Prop):Prop:=match lits[n]? with
 |some m=>(match Nat.beq m n with
  |true=>k m
  |false=>hF)
 |none=>k n
theorem qy {n:Nat} {k:Nat->Prop} (h:nK n k):k n:=by
 unfold nK at h;split at h;split at h;simp_all;cases h;exact h
def bzW (P:Program) (t:TypeId) (k:Nat->Prop):Prop:=match P.info? t with
 |some ⟨_,_,_,n,_,_,_,_,_,_⟩=>k n
 |none=>hF
theorem aBr {t:TypeId} {k:Nat->Prop} (h:bzW P t k):k (P.bytesOf t):=by
 unfold bzW at h;split at h;rename_i b;unfold Program.bytesOf;rw[b];exact h;cases h
def wBI (P:Program) (h:AH) (q:Value->AH->Prop) (f:Array TypeId):Builtin->List Value->Prop
 |.len,[x]=>match(f[0]?).bind P.underlying with
  |some .string=>bG (zE x) fun v=>q v h
  |some (.slice _)=>bG (lH x) fun v=>q v h
  |some (.array n _)=>q (I n) h
  |some (.pointer e)=>(match P.underlying e with
   |some (.array n _)=>q (I n) h
   |_=>hF)
  |some (.map _ _)=>bG (j3 h x) fun v=>q v h
  |_=>hF
 |.append,[s,x]=>match(f[0]?).bind P.underlying with
  |some (.slice e)=>(match Ij P f with
   |true=>wZ P e fun _=>Rm P e fun n=>bzW P e fun m=>bG (iV n m e h s x) fun r=>(match r with|(v,b)=>q v b)
   |false=>hF)
  |_=>hF
 |.copy,[d,x]=>match(f[0]?).bind P.underlying with
  |some (.slice e)=>Rm P e fun n=>bG (copyV n h d x) fun r=>(match r with|(v,b)=>q v b)
  |_=>hF
 |.clear,[x]=>match(f[0]?).bind P.underlying with
  |some (.slice e)=>wZ P e fun z=>bG (iJ z h x) fun r=>(match r with|(v,b)=>q v b)
  |_=>hF
 |.min,[x,y]=>bG (xM x y) fun v=>q v h
 |.max,[x,y]=>bG (zA x y) fun v=>q v h
 |.delete,[m,k]=>(match f[0]? with
  |some t=>(match Ge P t with
   |some _=>bG (Nc h m k) fun b=>q (.tuple #[]) b
   |none=>hF)
  |none=>hF)
 |.cap,[x]=>match(f[0]?).bind P.underlying with
  |some (.slice _)=>bG (aEh x) fun v=>q v h
  |_=>hF
 |_,_=>hF
theorem aB7 {h:AH} {q:Value->AH->Prop} {i:Array TypeId} {b:Builtin} {l:List Value} (d:wBI P h q i b l):vW P h q i b l:=by
 unfold wBI at d;unfold vW;split at d;split at d<;>(rename_i f;simp only[f];exact d);split at d;rename_i f;simp only[f];split at d;rename_i j;obtain⟨z,g,d⟩:=dm d;obtain⟨_,d⟩:=sE d;rw[aKj ⟨j,by rw[g];rfl⟩];exact aBr d;cases d;cases d;split at d;rename_i f;simp only[f];obtain⟨k,d⟩:=sE d;grind;cases d;split at d;rename_i f;simp only[f];obtain⟨z,g,d⟩:=dm d;grind;cases d;exact d;exact d;split at d;rename_i f;simp only[f];split at d;grind;cases d;cases d;split at d;rename_i f;simp only[f];exact d;cases d;cases d
def wH (P:Program) (K:FuncId->List Value->Option kA) (a:Ek) (h:AH) (q:Value->AH->Prop):Op->Prop
 |.store t p x=>Rm P t fun n=>vK P a p fun p=>vK P a x fun x=>bG (uG h n p x) fun d=>q undef d
 |.call c=>(match c.callee with
  |.builtin b=>U2 P a c.args.toList fun l=>wBI P h q c.argTypes b l
  |.value (.func g)=>(match callable P g with
   |true=>U2 P a c.args.toList fun l=>Cl P K g l h q
   |false=>hF)
  |.value f=>vK P a f fun f=>U2 P a c.args.toList fun l=>zB P K f l h q
  |.invoke _ _=>hF)
 |.mapUpdate t m k x=>(match Ge P t with
  |some _=>vK P a m fun m=>vK P a k fun k=>vK P a x fun x=>bG (Nj h m k x) fun d=>q undef d
  |none=>hF)
 |_=>hF
theorem aBx {a:Ek} {env:List Value} (d:fI a env) {h:AH} {q:Value->AH->Prop} {op:Op} (b:wH P K a h q op):A5 P K (dC P env) h q op:=by
 unfold wH at b;unfold A5;split at b;obtain⟨g,b⟩:=sE b;simp only[g,if_true];exact fD d (fD d b);split at b;rename_i f;simp only[f];exact aB7 (C2 d b);rename_i f;simp only[f];split at b;rename_i i;simp only[i,if_true];exact C2 d b;cases b;rename_i f;simp only[f];exact C2 d (fD d b);cases b;split at b;rename_i j;simp only[j];exact fD d (fD d (fD d b));cases b;cases b
def wA (P:Program) (a:Ek) (mk:oS->(Nat->AH->Prop)->Prop) (Gk:Nat->TypeId->List Value->Nat->Nat->(Value->AH->Prop)->Prop) (q:Value->AH->Prop):Op->Prop
 |.alloc e=>wZ P e fun z=>mk (.cells z e (0,0) true) fun p d=>q (pt p 0 0) d
 |.box e x=>vK P a x fun x=>bG (kX e x) fun b=>mk b fun p d=>q (pt p 0 0) d
 |.buildSlice t len f=>match P.underlying t with
  |some (.slice e)=>wZ P e fun z=>Rm P e fun n=>(match Nat.ble (len*n) 16777216 with
   |true=>Iy P a (plA n) f.toList fun g=>fcL (dY z len) fun i=>bG (pJ i g) fun l=>Gk n e l len len q
   |false=>hF)
  |_=>hF
 |.makeSlice t l c=>match P.underlying t with
  |some (.slice e)=>wZ P e fun z=>Rm P e fun n=>bzW P e fun m=>vK P a l fun l=>vK P a c fun c=>bG (aIf m l c) fun r=>Gk n e (dY z r.2) r.1 r.2 q
  |_=>hF
 |.makeMap _ none=>mk (.map [] 0) fun p d=>q (gA p) d
 |.makeMap t (some x)=>match P.underlying t with
  |some (.map _ _)=>vK P a x fun x=>isI x (mk (.map [] 0) fun p d=>q (gA p) d)
  |_=>hF
 |_=>hF
where aIf:=Go.Ab.Gk
theorem aGo {a:Ek} {env:List Value} (g:fI a env) {mk:oS->(Nat->AH->Prop)->Prop} {Gk:Nat->TypeId->List Value->Nat->Nat->(Value->AH->Prop)->Prop}
  (u:∀W e l n c k,Gk W e l n c k->mk (.cells l e (0,0) true) fun p o=>k (sv n c p) o) {q:Value->AH->Prop} {op:Op} (d:wA P a mk Gk q op):
  Bt P (dC P env) (fun b f=>mk b fun i o=>q (f i) o) op:=by
 unfold wA at d
 unfold Bt
 split at d
 .obtain⟨z,m,d⟩:=dm d;simp only[m];exact d
 .exact fD g d
 .split at d
  .rename_i j;simp only[j];obtain⟨z,m,d⟩:=dm d;obtain⟨_,d⟩:=sE d;simp only[m];split at d
   .rename_i w;rw[aKj (Nat.le_of_ble_eq_true w)];obtain⟨r,t,d⟩:=D6 (pl:=fun i=>some (i*P.cellsOf _,P.cellsOf _)) g (fun i k x=>⟨_,_,rfl,x⟩) d;simp only[t];exact(Ir d).mono fun v s=>u _ _ _ _ _ _ s
   .cases d
  .cases d
 .split at d
  .rename_i j;simp only[j];obtain⟨z,m,d⟩:=dm d;obtain⟨_,d⟩:=sE d;simp only[m];exact(fD g (fD g (aBr d))).mono fun v s=>u _ _ _ _ _ _ s
  .cases d
 .exact d
 .split at d
  .rename_i j;simp only[j];obtain⟨k,n,t,d⟩:=fD g d;grind
  .cases d
 .cases d
end
end Go.Ab
end
section
namespace Go.Ab
variable {P:Program} {K:FuncId->List Value->Option kA} {G:Bg} {h:AH} {L L' M:List HP}
abbrev ME:=Nat×Value×Nat
def rZ (es:List ME):List (Value×Value×Nat):=es.map fun x=>(I x.1,x.2.1,x.2.2)
def Rt (n:Int):List ME->Nat->Option (Nat×Value)
 |[],_=>none
 |x::b,i=>if n=(x.1:Int) then some (i,x.2.1) else Rt n b (i+1)
theorem A7 (n:Int):∀(es:List ME) (i:Nat),wP .i64 n (rZ es) i=some (Rt n es i)
 |[],i=>rfl
 |x::es,i=>by
  show(if IntKind.i64=IntKind.i64 then(if n=(x.1:Int) then some (some (i,x.2.1)) else wP .i64 n (rZ es) (i+1)) else none)=_;rw[aKj rfl,A7 n es (i+1)];by_cases e:n=(x.1:Int);rw[aKj e,Rt,aKj e];rw[aKi e,Rt,aKi e]
structure MOk (es:List ME) (clock:Nat):Prop where
 nd:(es.map (·.1)).Nodup
 st:∀x∈es,x.2.2<clock
 sd:(es.map (·.2.2)).Nodup
 kb:∀x∈es,x.1<16
def kW (es:List ME) (k:Nat):Option Value:=(Rt k es 0).map (·.2)
theorem Qi {n:Int}:∀{es:List ME} {i j:Nat} {v:Value},Rt n es i=some (j,v)->i<=j/\∃x,es[j - i]?=some x/\(x.1:Int)=n/\x.2.1=v
 |[],i,j,v,h=>by cases h
 |x::es,i,j,v,h=>by
  unfold Rt at h;split at h;grind;obtain⟨b,y,d,f,g⟩:=Qi h;grind
theorem Nb {n:Int}:∀{es:List ME} {i:Nat},(Rt n es (i+1)).map (·.2)=(Rt n es i).map (·.2)
 |[],_=>rfl
 |x::es,i=>by
  unfold Rt;split;rfl;exact Nb
theorem iM {x:ME} {es:List ME} {k:Nat}:kW (x::es) k=if k=x.1 then some x.2.1 else kW es k:=by
 unfold kW;rw[Rt];by_cases e:k=x.1;grind;rw[aab,aKi e];exact Nb
theorem au {x:ME} {es:List ME} {k:Nat}:kW (es++[x]) k=(kW es k).or (if k=x.1 then some x.2.1 else none):=by
 induction es with
 |nil=>rw[List.nil_append,iM];simp[kW,Rt]
 |cons y es b=>rw[List.cons_append,iM,iM,b];split<;>simp
theorem xX {es:List ME} {k:Nat}:kW es k=none↔k∉es.map (·.1):=by
 induction es with
 |nil=>simp[kW,Rt]
 |cons y es b=>rw[iM];split<;>simp_all
theorem dq {es:List ME} {i:Nat} {x:ME} {v:Value} {k:Nat} (b:es[i]?=some x) (d:(es.map (·.1)).Nodup):kW (es.modify i fun e=>(x.1,v,e.2.2)) k=if k=x.1 then some v else kW es k:=by
 induction es generalizing i with
 |nil=>simp at b
 |cons y es f=>
  simp only[List.map_cons,List.nodup_cons] at d;cases i with
  |zero=>
   simp only[List.getElem?_cons_zero,Option.some.injEq] at b;subst b;rw[List.modify_zero_cons,iM,iM];split<;>rfl
  |succ i=>
   simp only[List.getElem?_cons_succ] at b;have g:x.1≠y.1:=fun e=>d.1 (e▸List.mem_map.2 ⟨x,List.mem_of_getElem? b,rfl⟩);rw[List.modify_succ_cons,iM,iM,f b d.2];grind
theorem dz {es:List ME} {i:Nat} {x:ME} {k:Nat} (b:es[i]?=some x) (d:(es.map (·.1)).Nodup):kW (es.eraseIdx i) k=if k=x.1 then none else kW es k:=by
 induction es generalizing i with
 |nil=>simp at b
 |cons y es f=>
  simp only[List.map_cons,List.nodup_cons] at d;cases i with
  |zero=>
   simp only[List.getElem?_cons_zero,Option.some.injEq] at b;subst b;rw[List.eraseIdx_cons_zero,iM];split;rename_i e;subst e;exact xX.2 d.1;rfl
  |succ i=>
   simp only[List.getElem?_cons_succ] at b;have g:x.1≠y.1:=fun e=>d.1 (e▸List.mem_map.2 ⟨x,List.mem_of_getElem? b,rfl⟩);rw[List.eraseIdx_cons_succ,iM,iM,f b d.2];grind
def Jq {α:Type} (f:Nat->α) (i:Nat) (v:α):Nat->α:=fun j=>if j=i then v else f j
def iG (b:Nat) (f:Nat->Option Value):HP:=sB fun x:List ME×Nat=>sp [tX (MOk x.1 x.2/\∀k,kW x.1 k=f k),ot b (.map (rZ x.1) x.2)]
theorem zZ {b:Nat} {f:Nat->Option Value} (g:Hs G h (iG b f::L)):∃d cl,(MOk d cl/\∀k,kW d k=f k)/\Hs G h (ot b (.map (rZ d) cl)::L):=by
 obtain⟨⟨d,cl⟩,g⟩:=g.tW;obtain⟨i,g⟩:=(Hs.unpack g).Vd;exact⟨d,cl,i,g⟩
theorem sX {b:Nat} {f:Nat->Option Value} {es:List ME} {cl:Nat} (d:MOk es cl) (g:∀k,kW es k=f k) (i:Hs G h (ot b (.map (rZ es) cl)::L)):Hs G h (iG b f::L):=
 Hs.qU (A:=fun x:List ME×Nat=>sp [tX (MOk x.1 x.2/\∀k,kW x.1 k=f k),ot b (.map (rZ x.1) x.2)]) (es,cl) (Hs.pack (A:=[_,_]) (Hs.U5 ⟨d,g⟩ i))
theorem s9 {k:Nat->AH->Prop} (f:Hs G h L) (d:∀p b,Hs G b (iG p (fun _=>none)::L)->k p b):B4 h (.map [] 0) k:=
 d _ _ (sX (es:=[]) (cl:=0) ⟨by simp,by simp,by simp,by simp⟩ (fun _=>rfl) (f.aEe rfl))
theorem K5 {b:Nat} {o:oS} (d:K2 o=true) (f:Hs G h (ot b o::L)):h.get b=some o/\h.base<=b:=⟨(Hs.Hl (o':=o) d f).1,(Hs.Hl (o':=o) d f).2.1⟩
theorem aIc {b:Nat} {f:Nat->Option Value} {z:Value} {n:Int} {ok:Bool} {k:Value->Prop} (g:Hs G h L) [m:Has (iG b) L f L']
  (q:k (match(if 0<=n then f n.toNat else none) with
   |some v=>if ok then .tuple ⟨[v,.bool true]⟩ else v
   |none=>if ok then .tuple ⟨[z,.bool false]⟩ else z)):bG (lkV z h (gA b) (I n) ok) k:=by
 obtain⟨d,cl,⟨t,i⟩,g⟩:=zZ (m.of g)
 obtain⟨o,_⟩:=K5 rfl g
 have r:X9 h (gA b)=some (rZ d):=by unfold X9 gA;simp only[o]
 have e:(Rt n d 0).map (·.2)=if 0<=n then f n.toNat else none:=by
  split;rename_i s;have:=i n.toNat;unfold kW at this;grind;cases hx:Rt n d 0 with
  |none=>rfl
  |some p=>
   obtain⟨_,x,_,u,_⟩:=Qi (j:=p.1) (v:=p.2) hx;omega
 rw[<-e] at q
 unfold lkV
 rw[r]
 simp only[A7]
 cases hx:Rt n d 0 with
 |none=>simp_all
 |some p=>simp_all
theorem aBy {es:List ME} {i:Nat} {x:ME} {v:Value} (b:es[i]?=some x):(es.modify i fun e=>(x.1,v,e.2.2)).map (·.1)=es.map (·.1)/\(es.modify i fun e=>(x.1,v,e.2.2)).map (·.2.2)=es.map (·.2.2):=by
 induction es generalizing i with
 |nil=>simp at b
 |cons y es d=>
  grind
theorem q9 {es:List ME} {i:Nat} {x:ME} {v:Value} (b:es[i]?=some x):(rZ es).modify i (fun e=>(I x.1,v,e.2.2))=rZ (es.modify i fun e=>(x.1,v,e.2.2)):=by
 unfold rZ;induction es generalizing i with
 |nil=>simp at b
 |cons y es d=>
  grind
theorem U6:∀{es:List ME} {i:Nat},(rZ es).eraseIdx i=rZ (es.eraseIdx i)
 |[],_=>rfl
 |x::es,0=>rfl
 |x::es,i+1=>by
  show(_::(rZ es).eraseIdx i)=(_::rZ (es.eraseIdx i));rw[U6]
theorem P1 {b:Nat} {f:Nat->Option Value} {i:Nat} {v:Value} {k:AH->Prop} (s:Hs G h L) [m:Has (iG b) L f L'] (T:i<16) (H:∀E,Hs G E (iG b (Jq f i (some v))::L')->k E):bG (Nj h (gA b) (I i) v) k:=by
 obtain⟨r,cl,⟨g,J⟩,s⟩:=zZ (m.of s);obtain⟨N,S⟩:=K5 rfl s;unfold Nj gA;simp only[N,aKi (show ¬b<h.base by omega)];unfold aAx;simp only[A7];cases d:Rt (i:Int) r 0 with
 |none=>
  have O:kW r i=none:=by unfold kW;rw[d];rfl
  refine⟨_,rfl,H _ ?_⟩;have e:rZ r++[(Value.int .i64 (i:Int),v,cl)]=rZ (r++[(i,v,cl)]):=by unfold rZ;grind
  rw[e];refine sX ⟨?_,?_,?_,?_⟩ ?_ (Hs.Hl rfl s).2.2;rw[List.map_append,List.nodup_append];refine⟨g.nd,by simp,?_⟩;intro a w c u e;have:c=i:=by simpa using u
  subst e;subst this;exact xX.1 O w;intro x d;rcases List.mem_append.1 d with d|d;have:=g.st x d;omega;grind;rw[List.map_append,List.nodup_append];refine⟨g.sd,by simp,?_⟩;intro a w c u e;have u:c=cl:=by simpa using u
  obtain⟨x,d,rfl⟩:=List.mem_map.1 w;have:=g.st x d;omega;intro x d;rcases List.mem_append.1 d with d|d;exact g.kb x d;grind;intro j;rw[au];unfold Jq;grind
 |some p=>
  obtain⟨_,x,t,Q,R⟩:=Qi (j:=p.1) (v:=p.2) d;rw[Nat.sub_zero] at t;have o:x.1=i:=by omega
  refine⟨_,rfl,H _ ?_⟩;have:=q9 (v:=v) t;rw[o] at this;rw[this];obtain⟨C,D⟩:=aBy (v:=v) t;rw[o] at C D;refine sX ⟨by rw[C];exact g.nd,?_,by rw[D];exact g.sd,?_⟩ ?_ (Hs.Hl rfl s).2.2;intro y A;have:y.2.2∈(r.modify p.1 fun e=>(i,v,e.2.2)).map (·.2.2):=List.mem_map.2 ⟨y,A,rfl⟩;rw[D] at this;obtain⟨z,B,q⟩:=List.mem_map.1 this;rw[<-q];exact g.st z B;intro y A;have:y.1∈(r.modify p.1 fun e=>(i,v,e.2.2)).map (·.1):=List.mem_map.2 ⟨y,A,rfl⟩;rw[C] at this;obtain⟨z,B,q⟩:=List.mem_map.1 this;rw[<-q];exact g.kb z B;intro j;have:=dq (v:=v) (k:=j) t g.nd;rw[o] at this;rw[this];unfold Jq;rw[J j]
theorem aF4 {b:Nat} {f:Nat->Option Value} {i:Nat} {k:AH->Prop} (q:Hs G h L) [m:Has (iG b) L f L'] (w:∀t,Hs G t (iG b (Jq f i none)::L')->k t):bG (Nc h (gA b) (I i)) k:=by
 obtain⟨o,cl,⟨g,z⟩,q⟩:=zZ (m.of q);obtain⟨A,D⟩:=K5 rfl q;unfold Nc gA;simp only[A,aKi (show ¬b<h.base by omega),A7];cases hx:Rt (i:Int) o 0 with
 |none=>
  have E:kW o i=none:=by unfold kW;rw[hx];rfl
  refine⟨_,rfl,w _ (sX g (fun j=>?_) (Hs.Hl rfl q).2.2)⟩;unfold Jq;grind
 |some p=>
  obtain⟨_,x,u,B,C⟩:=Qi (j:=p.1) (v:=p.2) hx;rw[Nat.sub_zero] at u;have r:x.1=i:=by omega
  have e:(rZ o).eraseIdx p.1=rZ (o.eraseIdx p.1):=U6;refine⟨_,rfl,w _ ?_⟩;rw[e];have d:=List.eraseIdx_sublist o p.1;refine sX ⟨(d.map _).nodup g.nd,fun y s=>g.st y (d.mem s),(d.map _).nodup g.sd,fun y s=>g.kb y (d.mem s)⟩ (fun j=>?_) (Hs.Hl rfl q).2.2;rw[dz u g.nd,r,z j];rfl
theorem aE2 {b:Nat} {f:Nat->Option Value} {k:Value->Prop} (d:Hs G h L) [m:Has (iG b) L f L'] (j:∀n:Nat,k (I n)):bG (j3 h (gA b)) k:=by
 obtain⟨g,cl,_,d⟩:=zZ (m.of d);obtain⟨i,_⟩:=K5 rfl d;refine⟨I (rZ g).length,?_,j _⟩;unfold j3 X9 gA;simp only[i];rfl
theorem Sm {x y:Int} {l:List Int}:y∈Cz x l↔y=x\/y∈l:=by
 induction l with
 |nil=>simp[Cz]
 |cons a l b=>unfold Cz;grind
theorem Ng {y:Int} {l:List Int}:y∈rG l↔y∈l:=by
 induction l with
 |nil=>simp[rG]
 |cons a l b=>simp only[rG,Sm,b,List.mem_cons]
theorem Ts {x:Int} {l:List Int} (h:l.Pairwise (·<·)) (d:x∉l):(Cz x l).Pairwise (·<·):=by
 induction l with
 |nil=>simp[Cz]
 |cons a l i=>
  simp only[List.mem_cons,not_or] at d;obtain⟨f,g⟩:=List.pairwise_cons.1 h;unfold Cz;split;refine List.pairwise_cons.2 ⟨fun y b=>?_,h⟩;grind;refine List.pairwise_cons.2 ⟨fun y b=>?_,i g d.2⟩;rcases Sm.1 b with rfl|b;omega;exact f y b
theorem Pq {l:List Int} (h:l.Nodup):(rG l).Pairwise (·<·):=by
 induction l with
 |nil=>simp[rG]
 |cons a l f=>
  obtain⟨b,d⟩:=List.nodup_cons.1 h;exact Ts (f d) fun e=>b (Ng.1 e)
theorem V2 {l m:List Int} (g:l.Pairwise (·<·)) (i:m.Pairwise (·<·)) (h:∀x,x∈l↔x∈m):l=m:=by
 induction l generalizing m with
 |nil=>
  cases m with
  |nil=>rfl
  |cons y m=>exact absurd ((h y).2 (by simp)) (by simp)
 |cons x l o=>
  cases m with
  |nil=>exact absurd ((h x).1 (by simp)) (by simp)
  |cons y m=>
   obtain⟨a1,j⟩:=List.pairwise_cons.1 g;obtain⟨f,k⟩:=List.pairwise_cons.1 i;have e:x=y:=by
    have b:=(h x).1 (by simp);have d:=(h y).2 (by simp);rcases List.mem_cons.1 b with e|b;exact e;rcases List.mem_cons.1 d with e|d;exact e.symm;have:=f x b;have:=a1 y d;omega
   grind
def B3 (f:Nat->Option Value):List Nat:=(List.range 16).filter fun k=>(f k).isSome
theorem Yb (es:List ME):keysOf (rZ es)=some (es.map fun x=>(x.1:Int)):=by
 induction es with
 |nil=>rfl
 |cons x es b=>
  show(keysOf (rZ es)).map (fun l=>(x.1:Int)::l)=_;rw[b];rfl
theorem Qr (n:Nat):(List.range n).Pairwise (·<·):=List.pairwise_lt_range
theorem G7 {es:List ME} {cl:Nat} {f:Nat->Option Value} (i:MOk es cl) (j:∀k,kW es k=f k):rG (es.map fun x=>(x.1:Int))=(B3 f).map fun k:Nat=>(k:Int):=by
 refine V2 (Pq ?_) ?_ fun x=>?_;have:=i.nd;rw[show(es.map fun x=>(x.1:Int))=(es.map (·.1)).map fun k:Nat=>(k:Int) by rw[List.map_map];rfl];exact List.Pairwise.map _ (fun a b d=>by omega) this;refine List.Pairwise.map (R:=(·<·)) _ (fun a b d=>by omega) ?_;exact List.Pairwise.filter _ (Qr 16);rw[Ng];simp only[List.mem_map,B3,List.mem_filter,List.mem_range];constructor;rintro ⟨y,m,rfl⟩;refine⟨y.1,⟨i.kb y m,?_⟩,rfl⟩;rw[<-j];cases hl:kW es y.1 with
 |none=>exact absurd (List.mem_map.2 ⟨y,m,rfl⟩) (xX.1 hl)
 |some v=>rfl
 rintro ⟨k,⟨_,g⟩,rfl⟩;rw[<-j] at g;have:k∈es.map (·.1):=by
  refine Classical.byContradiction fun o=>?_;rw[xX.2 o] at g;cases g
 grind
theorem I8 {cl:Nat}:∀{es:List ME},(∀x∈es,x.2.2<cl)->(es.map (·.2.2)).Nodup->Bo cl (rZ es)=true
 |[],_,_=>rfl
 |x::es,h,b=>by
  simp only[List.map_cons,List.nodup_cons] at b;have g:=I8 (fun y d=>h y (List.mem_cons_of_mem _ d)) b.2;show(Nat.blt x.2.2 cl&&((rZ es).all fun y=> !Nat.beq y.2.2 x.2.2)&&Bo cl (rZ es))=true;rw[g,Bool.and_true,Bool.and_eq_true];refine⟨Nat.ble_eq_true_of_le (h x (by simp)),?_⟩;rw[List.all_eq_true];intro y d;obtain⟨z,f,rfl⟩:=List.mem_map.1 d;have:z.2.2≠x.2.2:=fun e=>b.1 (e▸List.mem_map.2 ⟨z,f,rfl⟩);cases hb:Nat.beq z.2.2 x.2.2 with
  |false=>rfl
  |true=>simp_all
theorem Rv:∀{l:List Nat},(∀x∈l,x<16)->l.Nodup->Oq (l.map fun k:Nat=>(k:Int))=true
 |[],_,_=>rfl
 |x::l,h,d=>by
  obtain⟨i,b⟩:=List.nodup_cons.1 d;have g:=Rv (fun y f=>h y (List.mem_cons_of_mem _ f)) b;show((Lit.int .i64 (x:Int)).wf&&((l.map fun k:Nat=>(k:Int)).all fun y=> !(y==(x:Int)))&&Oq (l.map fun k:Nat=>(k:Int)))=true;rw[g,Bool.and_true,Bool.and_eq_true];refine⟨?_,?_⟩;have:x=0\/x=1\/x=2\/x=3\/x=4\/x=5\/x=6\/x=7\/x=8\/x=9\/x=10\/x=11\/x=12\/x=13\/x=14\/x=15:=by have:=h x (by simp);omega
  rcases this with rfl|rfl|rfl|rfl|rfl|rfl|rfl|rfl|rfl|rfl|rfl|rfl|rfl|rfl|rfl|rfl<;>rfl;grind
theorem pw {x:Int} {l:List Int}:(Cz x l).length=l.length+1:=by
 induction l with
 |nil=>rfl
 |cons a l b=>unfold Cz;split<;>simp[b]
theorem ja {l:List Int}:(rG l).length=l.length:=by
 induction l with
 |nil=>rfl
 |cons a l b=>rw[rG,pw,b];rfl
theorem aAu {es:List ME} {cl:Nat} (b:MOk es cl):es.length<=16:=by
 have h:=congrArg List.length (G7 (f:=kW es) b fun _=>rfl);rw[ja,List.length_map,List.length_map] at h;rw[h];have:=List.length_filter_le (fun k=>(kW es k).isSome) (List.range 16);rw[List.length_range] at this;exact this
theorem Be {f:FuncId} {args:List Value} {F:AH->Option (Value×AH)} {v:Value} {h':AH} {Q:Value->AH->Prop} (b:K f args=some (.host F)) (hF:F h=some (v,h')) (d:Q v h'):Cl P K f args h Q:=by
 refine⟨1,(⟨.pR,[],[],v⟩,h'),?_,d⟩;show runCall P K (fun t h=>run P K 0 t h) f args h=_;unfold runCall;rw[b];simp only[hF,Option.map_some]
theorem vu {f:FuncId} {args:List Value} {b c:Nat} {e e2:TypeId} {d:Nat->Option Value} {Q:Value->AH->Prop} (R:K f args=some (.host (Bp e c))) (T:Hs G h (aE c 0 [gA b]::mt c (e2,true,1)::iG b d::L))
  (S:∀a D H,Hs G H (dH 1 e a D ((B3 d).length,(B3 d).map fun k:Nat=>I k)::iG b d::L)->Q (.slice a (B3 d).length D) H):Cl P K f args h Q:=by
 have m:=T
 obtain⟨p,cl,⟨j,U⟩,C⟩:=zZ ((T.perm ((List.Perm.swap _ _ _).cons _)).perm (List.Perm.swap _ _ _))
 obtain⟨X,hb⟩:=K5 rfl C
 have g:∃E,h.get c=some (.cells [gA b] E (0,0) true):=by
  obtain⟨r,r2,hr,z,hd,Y,t⟩:=m.fst;obtain⟨r3,r4,B,β,s,rfl⟩:=z;cases hr;cases B;obtain⟨i1,i2⟩:=(cN.fP s).1 t;obtain⟨_,c',J,V⟩:=i1.mt c e2 true 1 (by simp);obtain⟨_,c2,e3,x3,N,O⟩:=Y.cell c 0 (gA b) (by simp[qS]);rw[J] at N;cases N;refine⟨e2,?_⟩;rw[J];obtain⟨v,rfl⟩:=List.length_eq_one_iff.1 V;simp only[List.getElem?_cons_zero,Option.some.injEq] at O;rw[O]
 obtain⟨E,g⟩:=g
 have u:=G7 j U
 have hF:Bp e c h=some (Lx h e (rG (p.map fun x=>(x.1:Int)))):=by
  unfold Bp;simp only[g,gA,X,Yb];rw[aKj];rw[Bool.and_eq_true,Bool.and_eq_true];refine⟨⟨?_,I8 j.st j.sd⟩,?_⟩;have:=aAu j;rw[List.length_map];exact Nat.ble_eq_true_of_le (by omega);rw[show(p.map fun x=>(x.1:Int))=(p.map (·.1)).map fun k:Nat=>(k:Int) by rw[List.map_map];rfl];exact Rv (fun x hx=>by obtain⟨y,hy,rfl⟩:=List.mem_map.1 hx;exact j.kb y hy) j.nd
 rw[u] at hF
 have o:Hs G h (iG b d::L):=m.tail.tail
 unfold Lx at hF
 cases hkf:B3 d with
 |nil=>
  rw[hkf] at hF
  refine Be R hF ?_
  have:=S none 0 h
  rw[hkf] at this
  exact this (gL o)
 |cons x l=>
  rw[hkf] at hF
  simp only[List.map_cons,List.isEmpty_cons,Bool.false_eq_true,if_false] at hF
  refine Be R hF ?_
  have i:=S (some ⟨h.next,0,none⟩) (B3 d).length (h.alloc (.cells (((B3 d).map fun k:Nat=>(k:Int)).map (Value.int .i64)) e (0,0) false))
  rw[hkf] at i
  simp only[List.length_cons,List.map_cons,List.length_map] at i ⊢
  refine i ?_
  have Z:=o.new (c:=Value.int .i64 (x:Int)::((l.map fun k:Nat=>(k:Int)).map (Value.int .i64))) (e:=e) (x:=false)
  refine Hs.join (A:=[_,_]) Z fun q w=>?_
  have w:=rL w
  refine⟨by simp,?_,.inr (.inr ⟨Nat.le_refl _,h.next,[],[],false,rfl,by simp,?_⟩)⟩
  .simp[eJ]
  .rw[w];simp[List.map_map,Function.comp_def]
end Go.Ab
end
section
namespace Go.Ab
variable {P:Program} {K:FuncId->List Value->Option kA} {G:Bg} {h:AH} {L L' M:List HP}
class Fx {α:Type} (enc:α->List Value) (W:outParam Nat):Prop where
 len:∀x,(enc x).length=W
 cel:∀x,(enc x).all eJ=true
def eL {α:Type} (enc:α->List Value) (l:List α):List Value:=l.flatMap enc
section
variable {α:Type} {enc:α->List Value} {W:Nat} [F:Fx enc W]
omit F in
@[simp] theorem aDh:eL enc []=[]:=rfl
omit F in
theorem pQ {x:α} {l:List α}:eL enc (x::l)=enc x++eL enc l:=rfl
omit F in
theorem su {l m:List α}:eL enc (l++m)=eL enc l++eL enc m:=by simp[eL]
theorem Ac {l:List α}:(eL enc l).length=l.length*W:=by
 induction l with
 |nil=>simp
 |cons x l b=>rw[pQ,List.length_append,F.len,b,List.length_cons,Nat.succ_mul];omega
include F in
theorem Fy {l:List α}:(eL enc l).all eJ=true:=by
 induction l with
 |nil=>rfl
 |cons x l b=>rw[pQ,List.all_append,F.cel,b];rfl
theorem Q8 {l:List α}:∀{i:Nat},(eL enc l).drop (i*W)=eL enc (l.drop i):=by
 induction l with
 |nil=>intro i;simp
 |cons x l b=>
  intro i;cases i with
  |zero=>simp
  |succ i=>
   rw[pQ,List.drop_succ_cons,Nat.succ_mul,List.drop_append,List.drop_of_length_le (by rw[F.len];omega),F.len,show i*W+W - W=i*W by omega,b,List.nil_append]
theorem Y2 {l:List α}:∀{i:Nat},(eL enc l).take (i*W)=eL enc (l.take i):=by
 induction l with
 |nil=>intro i;simp
 |cons x l b=>
  intro i;cases i with
  |zero=>simp
  |succ i=>
   rw[pQ,List.take_succ_cons,pQ,Nat.succ_mul,List.take_append,List.take_of_length_le (by rw[F.len];omega),F.len,show i*W+W - W=i*W by omega,b]
theorem qp {l:List α} {i:Nat} {x:α} (h:l[i]?=some x):((eL enc l).drop (i*W)).take W=enc x:=by
 obtain⟨d,b⟩:=List.getElem?_eq_some_iff.1 h;rw[Q8,List.drop_eq_getElem_cons d,pQ,b];exact List.take_left' (F.len x)
theorem Hw {l:List α} {i j:Nat} {x:α} {v:Value} (h:l[i]?=some x) (d:(enc x)[j]?=some v):(eL enc l)[i*W+j]?=some v:=by
 have b:=qp (enc:=enc) h;grind
theorem s5 {l:List α} {i:Nat} {y:α} (b:i<l.length):dS (eL enc l) (i*W) (enc y)=eL enc (l.set i y):=by
 rw[<-rU _ _ _ (by rw[Ac,F.len,<-Nat.succ_mul];exact Nat.mul_le_mul_right _ b)];unfold cF;rw[Y2,F.len,<-Nat.succ_mul,Q8,List.set_eq_take_append_cons_drop,aKj b,su,pQ,List.append_assoc]
def ls (enc:α->List Value) (W:Nat) (e:TypeId) (a:Option Addr) (c:Nat) (l:List α):HP:=dH W e a c (l.length,eL enc l)
omit F in
theorem mF [Fx enc W] {e:TypeId} (b:Hs G h L):Hs G h (ls enc W e none 0 []::L):=gL b
variable {e:TypeId} {a:Option Addr} {c:Nat} {l:List α}
omit F in
theorem nX {x:α} (b:Hs G h (dH W e a c (1,enc x)::L)):Hs G h (ls enc W e a c [x]::L):=by
 unfold ls;rw[pQ,aDh,List.append_nil];exact b
theorem jV {i:Int} {x:α} {k:Value->Prop} (o:Hs G h L) [m:Has (ls enc W e a c) L l L'] (f:0<W) (d:0<=i) (b:l[i.toNat]?=some x) (g:k (.agg ⟨enc x⟩)):bG (lN W (.slice a l.length c) (I i)) fun p=>bG (uF h W p) k:=by
 obtain⟨j,rfl⟩:=Int.eq_ofNat_of_zero_le d;rw[Int.toNat_natCast] at b;exact aEp (e:=e) (cs:=eL enc l) (show Hs G h (dH W e a c (l.length,eL enc l)::L') from m.of o) f (List.getElem?_eq_some_iff.1 b).1 (qp b) (F.len x) g
theorem oy {i:Int} {j:Nat} {x:α} {u:Value} {k:Value->Prop} (g:Hs G h L) [m:Has (ls enc W e a c) L l L'] (d:0<=i) (b:l[i.toNat]?=some x) (o:(enc x)[j]?=some u) (f:k u):bG (lN W (.slice a l.length c) (I i)) fun p=>bG (hQ j p) fun q=>bG (ld1 h q) k:=by
 obtain⟨n,rfl⟩:=Int.eq_ofNat_of_zero_le d;rw[Int.toNat_natCast] at b;exact mg (e:=e) (cs:=eL enc l) (show Hs G h (dH W e a c (l.length,eL enc l)::L') from m.of g) (List.getElem?_eq_some_iff.1 b).1 (Hw b o) f
theorem Q5 {i:Int} {y:α} {k:AH->Prop} (j:Hs G h L) [m:Has (ls enc W e a c) L l L'] (t:0<W) (r:0<=i) (u:i<l.length) (s:∀f,Hs G f (ls enc W e a c (l.set i.toNat y)::L')->k f):bG (lN W (.slice a l.length c) (I i)) fun p=>bG (uG h W p (.agg ⟨enc y⟩)) k:=by
 obtain⟨n,rfl⟩:=Int.eq_ofNat_of_zero_le r;have g:n<l.length:=by omega
 have j:Hs G h (dH W e a c (l.length,eL enc l)::L'):=m.of j;obtain⟨b,o,rfl,q⟩:=j.fV (by omega);refine dN g ?_;rw[show pt b (o+n*W) 0=pt b o (n*W) by simp[pt]];have hle:n*W+W<=(eL enc l).length:=by rw[Ac,<-Nat.succ_mul];exact Nat.mul_le_mul_right _ g
 refine bL q (F.len y) (Nat.ble_eq_true_of_le hle) (F.cel y) (Nat.ble_eq_true_of_le (by omega)) fun f d=>?_;rw[s5 g] at d;have:=s f;rw[Int.toNat_natCast] at this;refine this ?_;unfold ls;rw[List.length_set];exact Hs.mQ d (by rw[Ac,List.length_set]) Fy
omit F in
theorem kL [Fx enc W] {bytes c2:Nat} {a2:Option Addr} {l2:List α} {k:Value×AH->Prop} (r:Hs G h L) [m:Has (ls enc W e a c) L l L'] [m2:Has (ls enc W e a2 c2) L' l2 M] (p:(l.length+l2.length)*(bytes+1)<=2^46)
  (q:∀b d f,Hs G f (ls enc W e b d (l++l2)::ls enc W e a2 c2 l2::M)->k (.slice b (l++l2).length d,f)):bG (iV W bytes e h (.slice a l.length c) (.slice a2 l2.length c2)) k:=by
 have i:=m.of r
 have j:Hs G h (ls enc W e a2 c2 l2::ls enc W e a c l::M):=(i.perm ((m2.perm.cons _).trans (List.Perm.swap _ _ _)))
 have o:Hs G h (dH W e a c (l.length,eL enc l)::dH W e a2 c2 (l2.length,eL enc l2)::M):=j.lU
 refine rV o p fun b d f g=>?_
 have:=q b d f
 unfold ls at this
 rw[List.length_append,su] at this
 exact this g
end
theorem aCm {a b:Int} {k:Value->Prop} (d:k (I (if b<a then b else a))):bG (xM (I a) (I b)) k:=⟨_,rfl,d⟩
theorem yu {α:Type} {enc:α->List Value} {W:Nat} {e:TypeId} {a:Option Addr} {c i j:Nat} {l:List α} {k:Value->Prop} (d:Hs G h L) [m:Has (ls enc W e a c) L l L'] (A:i<l.length) (t:i<=j) (B:j<=l.length)
  (u:∀b o,a=some ⟨b,o,none⟩->k (.slice (some ⟨b,o+i*W,none⟩) (j - i) (c - i))):bG (wV W h (.slice a l.length c) (some (I i)) (some (I j)) none) k:=by
 have d:Hs G h (dH W e a c (l.length,eL enc l)::L'):=m.of d
 have w:l.length<=c/\∃b o,a=some ⟨b,o,none⟩:=d.Zr fun r v=>by
  obtain⟨_,_,⟨f,_⟩|⟨f,_⟩|⟨f,b,x,g,ex,y,_⟩⟩:=v;grind;grind;grind
 obtain⟨z,b,o,rfl⟩:=w
 refine⟨_,?_,u b o rfl⟩
 have p:lS none c c=some c:=by simp[lS]
 have q:lS (some (I j)) l.length c=some j:=by simp[lS];omega
 have s:lS (some (I i)) 0 j=some i:=by simp[lS];omega
 unfold wV
 simp only[p,q,s,Option.isNone_some,Bool.false_and,Bool.false_eq_true,if_false,Option.isSome_none]
 rw[aac,aab,dA]
theorem aDq {α:Type} {enc:α->List Value} {W:Nat} [F:Fx enc W] {e:TypeId} {b o c n:Nat} {l:List α} {x:α} {k:Value->Prop} (d:Hs G h L) [m:Has (ls enc W e (some ⟨b,o,none⟩) c) L l L'] (i:0<W) (g:l[n]?=some x) (p:k (.agg ⟨enc x⟩)):bG (uF h W (pt b (o+n*W) 0)) k:=by
 have d:Hs G h (dH W e (some ⟨b,o,none⟩) c (l.length,eL enc l)::L'):=m.of d;have r:=(List.getElem?_eq_some_iff.1 g).1;obtain⟨q,s,j,f⟩:=d.fV (by omega);cases j;rw[show pt b (o+n*W) 0=pt b o (n*W) by simp[pt]];exact aR f i (qp g) (F.len x) p
end Go.Ab
end
namespace Go.Hm
open Go Go.Ab
section
structure bN where
 aD:Int
 aQ:Int
 aG:Int
 ways:Int
 depth:Int
 entries:Int
 aK:Int
 deriving DecidableEq
def bN.list (C:bN):List Int:=[C.aD,C.aQ,C.aG,C.ways,C.depth,C.entries,C.aK]
def bN.enc (C:bN):List Value:=[I C.aD,I C.aQ,I C.aG,I C.ways,I C.depth,I C.entries,I C.aK]
def aDx:List Int:=[4,16,8,4,16,8,4]
def fJ:List Value:=[I 4,I 16,I 8,I 4,I 16,I 8,I 4]
def bN.lj (C:bN):Nat->Nat->Int
 |0,_=>0
 |f+1,i=>if C.list.getD i 0<1\/aDx.getD i 0<C.list.getD i 0 then 10 else C.lj f (i+1)
def bN.Ok (C:bN):Prop:=(1<=C.aD/\C.aD<=4)/\(1<=C.aQ/\C.aQ<=16)/\(1<=C.aG/\C.aG<=8)/\(1<=C.ways/\C.ways<=4)/\(1<=C.depth/\C.depth<=16)/\(1<=C.entries/\C.entries<=8)/\(1<=C.aK/\C.aK<=4)
instance (C:bN):Decidable C.Ok:=by unfold bN.Ok;infer_instance
theorem bN.aFr (C:bN):C.lj 7 0=if C.Ok then 0 else 10:=by
 simp only[bN.lj,bN.list,aDx,List.getD_cons_zero,List.getD_cons_succ];by_cases h:C.Ok;rw[aKj h];unfold bN.Ok at h;repeat rw[aab]
 .rw[aKi h];unfold bN.Ok at h;repeat' split
  all_goals first|rfl|(exfalso;omega)
def bN.lines (C:bN):Nat:=(C.aQ*2).toNat
theorem bN.eE {C:bN} (h:C.Ok):(C.lines:Int)=C.aQ*2/\2<=C.lines/\C.lines<=32:=by
 unfold bN.Ok at h;unfold bN.lines;omega
end
section
abbrev Ln:=Int×Int
def oG (l:Ln):List Value:=[I l.1,I l.2]
def gT (n B i:Nat):Nat:=(n+B - 1 - i)/B
theorem j7 {B i:Nat} (b:i<B):gT 0 B i=0:=Nat.div_eq_of_lt (by omega)
theorem Nq {n B i:Nat} (f:i<B):gT (n+1) B i=if i=n % B then gT n B i+1 else gT n B i:=by
 have b:=Nat.div_add_mod n B;have d:=Nat.mod_lt n (show 0<B by omega);unfold gT;generalize n/B=q at b;generalize n % B=r at b d ⊢;subst b;split;rename_i h;subst h;rw[show B*q+i+1+B - 1 - i=B*q+B by omega,show B*q+i+B - 1 - i=B*q+(B - 1) by omega];rw[Nat.mul_add_div (by omega),Nat.mul_add_div (by omega),Nat.div_self (by omega),Nat.div_eq_of_lt (show B - 1<B by omega)];rename_i h;rcases Nat.lt_or_ge i r with h1|h1;rw[show B*q+r+1+B - 1 - i=B*q+(B+(r - i)) by omega,show B*q+r+B - 1 - i=B*q+(B+(r - i - 1)) by omega];rw[Nat.mul_add_div (by omega),Nat.mul_add_div (by omega),Nat.add_div_left _ (by omega),Nat.add_div_left _ (by omega),Nat.div_eq_of_lt (show r - i<B by omega),Nat.div_eq_of_lt (show r - i - 1<B by omega)];rw[show B*q+r+1+B - 1 - i=B*q+(B+r - i) by omega,show B*q+r+B - 1 - i=B*q+(B+r - i - 1) by omega];rw[Nat.mul_add_div (by omega),Nat.mul_add_div (by omega),Nat.div_eq_of_lt (show B+r - i<B by omega),Nat.div_eq_of_lt (show B+r - i - 1<B by omega)]
theorem Ec {n B l:Nat} (hB:0<B) (d:l<n):l/B<gT n B (l % B):=by
 unfold gT;have b:=Nat.div_add_mod l B;have f:=Nat.mod_lt l hB;rw[Nat.lt_div_iff_mul_lt hB];rw[Nat.mul_comm];generalize B*(l/B)=q at b ⊢;omega
theorem Rf {B l k i:Nat} (b:i<B):k*B+i=l↔k=l/B/\i=l % B:=by
 constructor;intro h;subst h;rw[Nat.mul_comm,Nat.mul_add_div (by omega),Nat.mul_add_mod,Nat.div_eq_of_lt b,Nat.mod_eq_of_lt b];simp;rintro ⟨rfl,rfl⟩;have:=Nat.div_add_mod l B;rw[Nat.mul_comm];exact this
theorem bN.bk {C:bN} (h:C.Ok):(C.aK.toNat:Int)=C.aK/\0<C.aK.toNat/\C.aK.toNat<=4:=by unfold bN.Ok at h;omega
def Lb (B i:Nat) (mem:Nat->Ln):Nat->List Value:=fun k=>oG (mem (k*B+i))
theorem H4 {B i:Nat} {mem:Nat->Ln} (k:Nat):(Lb B i mem k).length=2:=rfl
theorem wN {α:Type} {f:Nat->α} {i:Nat}:aX f i (f i)=f:=by
 funext j;unfold aX;split;rename_i h;rw[h];rfl
theorem Xb {B l:Nat} {mem:Nat->Ln} (hB:0<B):Lb B (l % B) mem (l/B)=oG (mem l):=by
 unfold Lb;rw[(Rf (Nat.mod_lt l hB)).2 ⟨rfl,rfl⟩]
theorem Hp {B l:Nat} {mem:Nat->Ln} {v:Ln} (hB:0<B):aX (Lb B (l % B) mem) (l/B) (oG v)=Lb B (l % B) (aX mem l v):=by
 funext k;unfold Lb aX;have:=(Rf (l:=l) (k:=k) (Nat.mod_lt l hB));by_cases h:k=l/B;rw[aKj h,aKj (this.2 ⟨h,rfl⟩)];rw[aKi h,aKi (fun e=>h (this.1 e).1)]
theorem qo {B l i:Nat} {mem:Nat->Ln} {v:Ln} (b:i<B) (h:i≠l % B):Lb B i (aX mem l v)=Lb B i mem:=by
 funext k;unfold Lb aX;rw[aKi (fun e=>h ((Rf b).1 e).2)]
theorem Z4 {n B i:Nat} (hB:0<B):gT n B i<=n:=by
 unfold gT;refine Nat.le_of_lt_succ (Nat.div_lt_of_lt_mul ?_);rw[Nat.mul_succ];have:n<=B*n:=Nat.le_mul_of_pos_left _ hB;omega
def oC:Nat->Ln:=fun _=>(0,0)
end
section
structure aH where
 kind:Int
 core:Int
 line:Int
 world:Int
 state:Int
 d0:Int
 d1:Int
 jX:Bool
 no:Int
 deriving DecidableEq
def aH.enc (n:aH):List Value:=[I n.kind,I n.core,I n.line,I n.world,I n.state,I n.d0,I n.d1,.bool n.jX,I n.no]
def aH.zero:aH:=⟨0,0,0,0,0,0,0,false,0⟩
def eI (l:List aH):List Value:=l.flatMap aH.enc
theorem yI (l m:List aH):eI (l++m)=eI l++eI m:=by simp[eI]
@[simp] theorem I3 (n:aH) (l:List aH):eI (n::l)=n.enc++eI l:=rfl
@[simp] theorem Oe:eI []=[]:=rfl
structure Row where
 owner:Int
 sh:Nat->Bool
 waits:List aH
 busy:Bool
 served:aH
 world:Int
 asked:Nat->Bool
 granted:Bool
 told:Bool
 d0:Int
 d1:Int
def Row.enc (r:Row) (a:Option Addr) (c:Nat):List Value:=
 [I r.owner,.bool (r.sh 0),.bool (r.sh 1),.bool (r.sh 2),.bool (r.sh 3),.slice a r.waits.length c,.bool r.busy,I r.served.kind,I r.served.core,I r.served.line,I r.served.world,I r.served.state,I r.served.d0,I r.served.d1,.bool r.served.jX,I r.served.no,
   I r.world,.bool (r.asked 0),.bool (r.asked 1),.bool (r.asked 2),.bool (r.asked 3),.bool r.granted,.bool r.told,I r.d0,I r.d1]
def Row.X6 (r:Row):List Value:=[I r.owner,.bool (r.sh 0),.bool (r.sh 1),.bool (r.sh 2),.bool (r.sh 3)]
def Row.Ju (r:Row) (a:Option Addr) (c:Nat):List Value:=
 [.slice a r.waits.length c,.bool r.busy,I r.served.kind,I r.served.core,I r.served.line,I r.served.world,I r.served.state,I r.served.d0,I r.served.d1,.bool r.served.jX,I r.served.no,
   I r.world,.bool (r.asked 0),.bool (r.asked 1),.bool (r.asked 2),.bool (r.asked 3),.bool r.granted,.bool r.told,I r.d0,I r.d1]
theorem Row.bt (r:Row) (a:Option Addr) (c:Nat):r.enc a c=r.X6++r.Ju a c:=rfl
def gQ (f:Nat->Bool) (i:Int) (v:Bool):Nat->Bool:=fun j=>if(j:Int)=i then v else f j
def Row.free (r:Row):Row:={r with busy:=false,granted:=false,told:=false,served:=aH.zero,world:=0,d0:=0,d1:=0}
def Row.leave (r:Row) (core:Int):Row:={r with sh:=gQ r.sh core false,owner:=if r.owner=core then -1 else r.owner}
def Row.holds (r:Row) (but:Int) (i:Nat):Bool:=decide ((i:Int)≠but)&&(r.sh i||decide ((i:Int)=r.owner))
theorem q7 {r:Row} {x:Int} {i:Nat} (h:(i:Int)≠x) (b:r.sh i=true):r.holds x i=true:=by simp[Row.holds,h,b]
theorem qh {r:Row} {x:Int} {i:Nat} (h:(i:Int)≠x) (b:(i:Int)=r.owner):r.holds x i=true:=by
 unfold Row.holds;rw[decide_eq_true h,decide_eq_true b];simp
theorem Z3 {r:Row} {x:Int} {i:Nat} (h:(i:Int)=x):r.holds x i=false:=by
 unfold Row.holds;rw[decide_eq_false (by simpa using h)];rfl
theorem Za {r:Row} {x:Int} {i:Nat} (h:r.sh i=false) (b:(i:Int)≠r.owner):r.holds x i=false:=by
 unfold Row.holds;rw[h,decide_eq_false b];simp
def Row.tR (r:Row) (but:Int):Nat->Nat->Int
 |0,_=> -1
 |f+1,i=>if r.holds but i then i else r.tR but f (i+1)
def Row.first (r:Row) (but:Int):Int:=r.tR but 4 0
def Row.eX (r:Row) (but:Int):Nat->Nat->List Nat
 |0,_=>[]
 |f+1,i=>if r.holds but i then i::r.eX but f (i+1) else r.eX but f (i+1)
def Row.fY (r:Row) (but:Int):List Nat:=r.eX but 4 0
def Row.gW (r:Row) (l:List Nat):Row:={r with asked:=fun j=>r.asked j||l.contains j}
def eB (line state:Int) (l:List Nat):List aH:=l.map fun(i:Nat)=>{aH.zero with kind:=11,core:=(i:Int),line:=line,state:=state}
def Row.quiet (r:Row):Bool:= !(r.asked 0||r.asked 1||r.asked 2||r.asked 3)
abbrev mT:=Row×Ln
def Row.sW (r:Row) (m:Ln):Ln:=if r.told then(r.d0,r.d1) else m
def Row.jZ (r:Row) (line st:Int) (d:Ln):aH:=⟨8,r.served.core,line,r.world,st,d.1,d.2,false,0⟩
def Row.eC (r:Row) (line:Int) (d:Ln):Row×List aH:=
 if r.served.kind=2 then({r with owner:=r.served.core,sh:=fun _=>false,granted:=true},[r.jZ line 4 d])
 else if r.first r.served.core= -1 then({r with owner:=r.served.core,sh:=gQ r.sh r.served.core false,granted:=true},[r.jZ line 2 d])
 else({r with sh:=gQ r.sh r.served.core true,granted:=true},[r.jZ line 1 d])
def valid (s:Int):Bool:=decide (0<=s/\s<5)&&decide (s≠0)
def Row.eT (r:Row) (n:aH):Row:={r with asked:=gQ r.asked n.core false}
def Row.Dj (r:Row) (n:aH):Row:={r with owner:= -1,sh:=gQ r.sh n.core (valid n.state)}
def Row.lI (r:Row) (n:aH):Row:={r with told:=true,d0:=n.d0,d1:=n.d1}
def Row.heard (r:Row) (n:aH):Row:=
 if r.served.kind≠1 then(r.eT n).leave n.core
 else if n.state≠3 then(if n.jX then((r.eT n).Dj n).lI n else(r.eT n).Dj n)
 else if n.jX then(r.eT n).lI n else r.eT n
def Row.vD (r:Row) (m:Ln) (n:aH):Ln:=if r.served.kind≠1/\n.jX=true then(n.d0,n.d1) else m
def Row.rest (r:Row) (line:Int) (m:Ln):Row×List aH:=
 if r.quiet then(if r.served.kind=0 then(r.free,[]) else r.eC line (r.sW m)) else(r,[])
def mT.nI (x:mT) (line:Int) (n:aH):mT×List aH:=
 let m:=x.1.vD x.2 n
 let g:=(x.1.heard n).rest line m
 ((g.1,m),g.2)
def Row.serve (r:Row) (n:aH) (world:Int):Row:={r with busy:=true,served:=n,world:=world}
def Row.getM (r:Row) (line:Int) (m:Ln):Row×List aH:=
 if r.first r.served.core≠ -1 then(r.gW (r.fY r.served.core),eB line 0 (r.fY r.served.core)) else r.eC line (r.sW m)
def Row.S3 (r:Row) (line:Int) (m:Ln):Row×List aH:=
 if r.owner≠ -1 then(r.gW [r.owner.toNat],eB line 1 [r.owner.toNat]) else r.eC line (r.sW m)
def Row.oF (r:Row):Row:=if r.owner=r.served.core then {r with owner:= -1} else r
def Row.get (r:Row) (line:Int) (m:Ln) (n:aH) (world:Int):Row×List aH:=
 let r:=r.serve n world
 if n.kind=2 then r.getM line m else r.oF.S3 line m
def Row.wait (r:Row) (n:aH):Row:={r with waits:=r.waits++[n]}
def Row.next (r:Row) (w:List aH):Row:={r with waits:=w}
def Row.Lr (r:Row) (n:aH):Row:={r with busy:=true,served:=n}
def mT.take (x:mT) (line:Int) (n:aH):mT×List aH×Int:=
 if n.kind=4 then(if x.1.granted=false\/x.1.served.core≠n.core then(x,[],16) else((x.1.free,x.2),[],0))
 else if n.kind=5 then(if x.1.asked n.core.toNat=false then(x,[],16) else let g:=mT.nI x line n;(g.1,g.2,0))
 else((x.1.wait n,x.2),[],0)
def mW (line:Int):aH:={aH.zero with line:=line}
def mT.mh (x:mT) (line:Int):mT:=(x.1.wait (mW line),x.2)
def nA (kind core line:Int):aH:={aH.zero with kind:=kind,core:=core,line:=line}
def Row.begun (r:Row) (line:Int) (m:Ln) (n:aH) (j:Int->Int×Bool):mT×List aH:=
 if n.kind=3 then((r.leave n.core,if r.owner=n.core/\n.jX=true then(n.d0,n.d1) else m),[nA 10 n.core line])
 else if n.kind=1\/n.kind=2 then(if(j n.world).2=true then let g:=r.get line m n (j n.world).1;((g.1,m),g.2) else((r,m),[nA 9 n.core line]))
 else if r.first (-1)= -1 then((r,m),[])
 else(((r.Lr n).gW (r.fY (-1)),m),eB line 0 (r.fY (-1)))
def mT.begin (x:mT) (line:Int) (j:Int->Int×Bool):mT×List aH×Int:=
 if x.1.busy=true then(x,[],16)
 else match x.1.waits with
  |[]=>(x,[],12)
  |n::w=>let g:=Row.begun (x.1.next w) line x.2 n j;(g.1,g.2,0)
abbrev lT:=Nat->mT
def vL:Row:=⟨-1,fun _=>false,[],false,aH.zero,0,fun _=>false,false,false,0,0⟩
theorem G6 {r:Row} {x:Int}:∀(f i:Nat),i+f=4->(∀c∈r.eX x f i,c<4)/\(r.eX x f i).length<=f:=by
 intro f;induction f with
 |zero=>intro i g;simp[Row.eX]
 |succ f j=>
  intro i g;obtain⟨d,k⟩:=j (i+1) (by omega);unfold Row.eX;split;refine⟨fun c b=>?_,by simp;omega⟩;rcases List.mem_cons.1 b with rfl|b;omega;exact d c b;exact⟨d,by omega⟩
theorem Wn {r:Row} {x:Int}:∀c∈r.fY x,c<4:=(G6 4 0 rfl).1
theorem uJ {r:Row} {x:Int}:(r.fY x).length<=4:=(G6 4 0 rfl).2
def bN.has (C:bN) (l:Int):Prop:=0<=l/\l<C.lines
instance (C:bN) (l:Int):Decidable (C.has l):=by unfold bN.has;infer_instance
def fG (k:Int):Prop:=k=1\/k=2\/k=3\/k=4\/k=5
instance (k:Int):Decidable (fG k):=by unfold fG;infer_instance
def fA (C:bN) (H:lT) (n:aH):lT×List aH×Int:=
 if ¬fG n.kind then(H,[],15)
 else if(0<=n.core/\n.core<C.aD)/\C.has n.line then(aX H n.line.toNat (mT.take (H n.line.toNat) n.line n).1,(mT.take (H n.line.toNat) n.line n).2)
 else(H,[],10)
def jF (C:bN) (H:lT) (l:Int):lT×Int:=if C.has l then(aX H l.toNat (mT.mh (H l.toNat) l),0) else(H,10)
def iB (C:bN) (H:lT) (l:Int) (j:Int->Int×Bool):lT×List aH×Int:=
 if C.has l then(aX H l.toNat (mT.begin (H l.toNat) l j).1,(mT.begin (H l.toNat) l j).2) else(H,[],10)
structure Row.Inv (r:Row):Prop where
 core:0<=r.served.core/\r.served.core<4
 owner: -1<=r.owner/\r.owner<4
 waits:∀n∈r.waits,0<=n.core/\n.core<4
def zC (C:bN) (H:lT) (N:Nat):Prop:=∀l,l<C.lines->(H l).1.Inv/\(H l).1.waits.length<=N
def rX (n:Nat):lT:=fun i=>if i<n then(vL,(0,0)) else({vL with owner:=0},(0,0))
theorem j8 {n:Nat}:aX (rX n) n (vL,(0,0))=rX (n+1):=by
 funext i;unfold aX rX;by_cases h:i=n;rw[aKj h,aac];rw[aKi h];by_cases b:i<n;rw[aKj b,aac];rw[aKi b,aab]
def aH.fits (n r:aH) (len:Nat):Prop:=
 n.line=r.line/\n.no=0/\((n.kind=8/\n.core=r.core/\len=1/\(r.kind=1\/r.kind=2))\/(n.kind=9/\n.world=0/\n.core=r.core/\len=1/\(r.kind=1\/r.kind=2))\/
  (n.kind=10/\n.world=0/\n.core=r.core/\len=1/\r.kind=3)\/(n.kind=11/\n.world=0/\n.core≠r.core/\(r.kind=1\/r.kind=2\/(r.kind=0/\n.state=0))))
end
end Go.Hm
namespace Go.Ct
open Go Go.Ab Go.Hm
section
def O3 (s:Int):Bool:=decide (1<=s/\s<=4)
def vA (s:Int):Bool:=decide (s=2\/s=4)
def jH (s:Int):Bool:=decide (s=3\/s=4)
def C6 (s:Int):Bool:=decide (2<=s/\s<=4)
def x5 (s:Int):Bool:=decide (0<=s/\s<5)
def Ie (s:Int):Int:=if s=2 then 1 else if s=4 then 3 else s
def mM (s:Int) (w:Bool):Bool:=if w then vA s else O3 s
structure pW where
 st:Int
 w:Int
 d:Ln
 deriving DecidableEq
def pW.enc (x:pW):List Value:=[I x.st,I x.w,I x.d.1,I x.d.2]
def pW.zero:pW:=⟨0,0,(0,0)⟩
abbrev Th:=Int×pW
def xA (t:Th):List Value:=I t.1::t.2.enc
def cS (l:List Th):List Value:=l.flatMap xA
theorem jT (l:List Th):(cS l).length=l.length*5:=by
 induction l with
 |nil=>rfl
 |cons a t b=>simp only[cS,List.flatMap_cons,List.length_append] at b ⊢;rw[b];simp[xA,pW.enc];omega
theorem qQ (l:List Th):(cS l).all eJ=true:=by
 induction l with
 |nil=>rfl
 |cons a t b=>simp only[cS,List.flatMap_cons,List.all_append,Bool.and_eq_true] at b ⊢;exact⟨rfl,b⟩
theorem fk (l m:List Th):cS (l++m)=cS l++cS m:=by simp[cS]
theorem Xm (l:List Th) (i:Nat):(cS l).take (i*5)=cS (l.take i):=by
 induction l generalizing i with
 |nil=>simp[cS]
 |cons a t b=>
  cases i with
  |zero=>simp[cS]
  |succ i=>
   have:(i+1)*5=5+i*5:=by omega
   simp only[cS,List.flatMap_cons,List.take_succ_cons] at b ⊢;rw[this,List.take_append,List.take_of_length_le (by simp[xA,pW.enc])];have d:(xA a).length=5:=rfl;rw[d,show 5+i*5 - 5=i*5 by omega,b]
theorem Jn (l:List Th) (i:Nat):(cS l).drop (i*5)=cS (l.drop i):=by
 induction l generalizing i with
 |nil=>simp[cS]
 |cons a t d=>
  cases i with
  |zero=>simp[cS]
  |succ i=>
   have:(i+1)*5=5+i*5:=by omega
   simp only[cS,List.flatMap_cons,List.drop_succ_cons] at d ⊢;have b:(xA a).length=5:=rfl;rw[this,List.drop_append,List.drop_of_length_le (by rw[b];omega),b,show 5+i*5 - 5=i*5 by omega,d,List.nil_append]
theorem S5 {l:List Th} {i:Nat} {t:Th} (h:l[i]?=some t):((cS l).drop (i*5)).take 5=xA t:=by
 rw[Jn];have b:=(List.getElem?_eq_some_iff.1 h);rw[List.drop_eq_getElem_cons b.1,b.2];simp only[cS,List.flatMap_cons];exact List.take_left' rfl
def ix (no:Int):List Th->Option Nat
 |[]=>none
 |t::l=>if t.1=no then some 0 else(ix no l).map (·+1)
def la (no:Int) (l:List Th):Int:=match ix no l with|some i=>i|none=> -1
def get (no:Int) (l:List Th):Option pW:=(l.find? fun t=>decide (t.1=no)).map (·.2)
def rem (no:Int):List Th->List Th
 |[]=>[]
 |t::l=>if t.1=no then l else t::rem no l
theorem yL {no:Int} {l:List Th} {i:Nat} (h:ix no l=some i):∃x,l[i]?=some (no,x)/\get no l=some x/\rem no l=l.take i++l.drop (i+1)/\i<l.length:=by
 induction l generalizing i with
 |nil=>cases h
 |cons t l k=>
  simp only[ix] at h;by_cases b:t.1=no;rw[aKj b] at h;cases h;exact⟨t.2,by simp[<-b],by simp[get,b],by simp[rem,b],by simp⟩;rw[aKi b] at h;cases hx:ix no l with
  |none=>rw[hx] at h;cases h
  |some j=>
   rw[hx] at h;cases h;obtain⟨x,f,d,g,m⟩:=k hx;refine⟨x,by simpa using f,?_,?_,by simp;omega⟩;simp only[get,List.find?_cons,decide_eq_false b] at d ⊢;exact d;simp[rem,b,g]
theorem Ba {no:Int} {l:List Th} (h:ix no l=none):get no l=none/\rem no l=l:=by
 induction l with
 |nil=>exact⟨rfl,rfl⟩
 |cons t l g=>
  simp only[ix] at h;by_cases b:t.1=no;rw[aKj b] at h;cases h;rw[aKi b] at h;obtain⟨d,f⟩:=g (by simpa using h);refine⟨?_,by simp[rem,b,f]⟩;simp only[get,List.find?_cons,decide_eq_false b] at d ⊢;exact d
theorem H0 {no:Int} {l:List Th}:(rem no l).length=if(get no l).isSome then l.length - 1 else l.length:=by
 cases h:ix no l with
 |none=>obtain⟨d,b⟩:=Ba h;rw[d,b];rfl
 |some i=>
  obtain⟨x,d,b,f,g⟩:=yL h;rw[b,f];simp;omega
structure iH where
 S:Nat->List Th
 al:Int
 aw:Bool
 D7:Bool
 gl:Int
 gc:pW
 sU:Bool
def iH.new:iH:=⟨fun _=>[],0,false,false,0,pW.zero,false⟩
variable (n:Nat) (ways:Nat) (lines:Int) (core:Int)
def setOf (l:Int):Nat:=(l % (n:Int)).toNat
end
end Go.Ct
namespace Go.Ab
open Go.Ct Go.Hm
section
noncomputable section
def Yi (x:Th):List Th->List Th
 |[]=>[x]
 |y::l=>if x.1<=y.1 then x::y::l else y::Yi x l
def nM:List Th->List Th
 |[]=>[]
 |x::l=>Yi x (nM l)
def Gw:List Th->Bool
 |[]=>true
 |x::l=>(l.all fun y=> !(y.1==x.1))&&Gw l
def He:Nat->List Value->Option (List Th)
 |0,[]=>some []
 |n+1,.int .i64 a:: .int .i64 s:: .int .i64 w:: .int .i64 d:: .int .i64 e::l=>(He n l).map fun r=>(a,⟨s,w,(d,e)⟩)::r
 |_,_=>none
def Ei (b o n:Nat):AH->Option (Value×AH):=fun h=>
 match cJ h ⟨b,o,none⟩ (n*5) with
 |some d=>match He n d with
  |some l=>if Nat.ble l.length 1000&&Gw l then(dI h ⟨b,o,none⟩ (cS (nM l))).map fun f=>(.tuple ⟨[]⟩,f) else none
  |none=>none
 |none=>none
def G5 (e:TypeId) (n:Int):AH->Option (Value×AH):=fun h=>
 if n=0 then some (.slice none 0 0,h) else if 0<n/\n<=1000 then some (.slice (some ⟨h.next,0,some 2⟩) 0 0,h.alloc (.cells [] e (0,0) false)) else none
end
theorem N3:∀l:List Th,He l.length (cS l)=some l
 |[]=>rfl
 |x::l=>by
  show(He l.length (cS l)).map _=_;rw[N3 l];rfl
theorem J3:∀{n:Nat} {cs:List Value} {l:List Th},He n cs=some l->cs=cS l/\l.length=n
 |0,[],l,h=>by simp[He] at h;subst h;exact⟨rfl,rfl⟩
 |0,_::_,l,h=>by simp[He] at h
 |n+1,cs,l,h=>by
  unfold He at h;split at h;rename_i b;omega;rename_i m a s w d e r b;obtain rfl:n=m:=by omega
  simp only[Option.map_eq_some_iff] at h;obtain⟨i,g,rfl⟩:=h;obtain⟨rfl,f⟩:=J3 g;exact⟨rfl,by simp[f]⟩;cases h
theorem Fk (x:Th):∀l:List Th,(Yi x l).Perm (x::l)
 |[]=>List.Perm.refl _
 |y::l=>by
  unfold Yi;split;exact List.Perm.refl _;exact((Fk x l).cons y).trans (List.Perm.swap x y l)
theorem kP:∀l:List Th,(nM l).Perm l
 |[]=>List.Perm.refl _
 |x::l=>(Fk x (nM l)).trans ((kP l).cons x)
theorem G0 (x:Th):∀l:List Th,l.Pairwise (fun a b=>a.1<=b.1)->(Yi x l).Pairwise (fun a b=>a.1<=b.1)
 |[],_=>by simp[Yi]
 |y::l,h=>by
  unfold Yi;split;rename_i f;refine List.Pairwise.cons (fun z d=>?_) h;rcases List.mem_cons.1 d with rfl|d;exact f;exact Int.le_trans f (List.rel_of_pairwise_cons h d);rename_i f;refine List.Pairwise.cons (fun z d=>?_) (G0 x l h.of_cons);rcases List.mem_cons.1 ((Fk x l).mem_iff.1 d) with rfl|d;omega;exact List.rel_of_pairwise_cons h d
theorem Eb:∀l:List Th,(nM l).Pairwise (fun a b=>a.1<=b.1)
 |[]=>List.Pairwise.nil
 |x::l=>G0 x _ (Eb l)
theorem Va:∀{l:List Th},Gw l=true->∀a∈l,∀b∈l,a.1=b.1->a=b
 |[],_,a,g,_,_,_=>by cases g
 |x::l,h,a,g,b,o,e=>by
  simp only[Gw,Bool.and_eq_true,List.all_eq_true,Bool.not_eq_true',beq_eq_false_iff_ne] at h;obtain⟨k,m⟩:=h;rcases List.mem_cons.1 g with i|d<;>rcases List.mem_cons.1 o with j|f;rw[i,j];subst i;exact absurd e.symm (k b f);subst j;exact absurd e (k a d);exact Va m a d b f e
abbrev ltT (x y:Th):Bool:=decide (x.1<y.1)
end
end Go.Ab
