/- A part of the proof. -/
import Derived.Test.YtmhapehobfnoiaaGreatDoorN6
import Derived.Test.YtmhapehobfnoiaaGreatDoorN7
import Derived.Test.YtmhapehobfnoiaaGreatDoorN5
section
namespace Go.Ab
noncomputable section
variable {P:Program} {K:FuncId->List Value->Option fC}
def hA:Unit:=Function.const _ () @Cl
def hB:Unit:=Function.const _ () hA
def hC:Unit:=Function.const _ () hB
def hD:Unit:=Function.const _ () hC
def hE:Unit:=Function.const _ () hD
def hG:Unit:=Function.const _ () hE
def hP (p:Prop):Prop:=(fun _:Unit=>p) hG
def hF:Prop:=hP False
inductive Kn where
 |un|ex|b (x:Bool)|sk|no
abbrev Ek:=List (Nat×Value×Kn)
def Ek.lk:Ek->Nat->Option (Value×Kn)
 |[],_=>none
 |(b,v,k)::a,t=>match Nat.beq b t with
  |true=>(match k with
   |.no=>none
   |k=>some (v,k))
  |false=>Ek.lk a t
def dH (a:Ek) (env:List Value):Prop:=∀t v k,a.lk t=some (v,k)->env[t]?=some v/\(∀x,k= .b x->v= .bool x)/\(k= .sk->v=undef)
def yz (v:Value) (k:Value->Prop):Prop:=match v with
 |.int .i64 n=>k (I n)
 |v=>hP (k v)
def qD (P:Program) (a:Ek) (x:Operand) (k:Value->Prop):Prop:=match x with
 |.tmp t=>(match a.lk t with
  |some (v,_)=>k v
  |none=>hF)
 |.const v=>(match cE v with
  |true=>yz v k
  |false=>k top)
 |.global g=>(match Nat.blt g P.globals.size with
  |true=>k (.pointer (some ⟨g,0,none⟩))
  |false=>k top)
 |.func f=>k (.func (.func f) #[] #[])
theorem dG {a:Ek} {env:List Value} (i:dH a env) {x:Operand} {k:Value->Prop} (h:qD P a x k):k (bT P env x):=by
 unfold qD at h;split at h;split at h;rename_i d;have:=(i _ _ _ d).1;simpa only[bT,List.getD_eq_getElem?_getD,this,Option.getD_some] using h;cases h;split at h;rename_i f;simp only[bT,f,if_true];unfold yz at h;split at h<;>exact h;rename_i f;simpa only[bT,f,Bool.false_eq_true,if_false] using h;split at h;rename_i g _ b;have:g<P.globals.size:=Nat.le_of_ble_eq_true b;simpa only[bT,this,if_true] using h;rename_i g _ b;have:¬g<P.globals.size:=fun d=>by rw[show Nat.blt g P.globals.size=true from Nat.ble_eq_true_of_le d] at b;cases b
 simpa only[bT,this,if_false] using h;exact h
def oy (P:Program) (a:Ek) (x:Option Operand) (k:Option Value->Prop):Prop:=match x with
 |none=>k none
 |some x=>qD P a x fun v=>k (some v)
theorem Sk {a:Ek} {env:List Value} (b:dH a env) {x:Option Operand} {k:Option Value->Prop} (h:oy P a x k):k (x.map (bT P env)):=by
 cases x with
 |none=>exact h
 |some x=>exact dG b h
def Pw (P:Program) (a:Ek):List Operand->(List Value->Prop)->Prop
 |[],k=>k []
 |x::l,k=>qD P a x fun v=>Pw P a l fun b=>k (v::b)
theorem yP {a:Ek} {env:List Value} (b:dH a env):∀{l:List Operand} {k:List Value->Prop},Pw P a l k->k (l.map (bT P env))
 |[],_,h=>h
 |_::l,k,h=>by
  have d:=dG b h;have f:=yP b (l:=l) d;exact f
def ra {α:Type}:List α->(List α->Prop)->Prop
 |[],k=>hP (k [])
 |v::l,k=>ra l fun l=>k (v::l)
theorem G3 {α:Type}:∀{l:List α} {k:List α->Prop},ra l k->k l
 |[],_,h=>h
 |_::l,_k,h=>G3 (l:=l) h
def Mj (P:Program) (t:TypeId) (k:Nat->Prop):Prop:=match P.info? t with
 |some ⟨_,_,n,_,_,_,_,_,_,_⟩=>k n
 |none=>hF
theorem mX {t:TypeId} {k:Nat->Prop} (h:Mj P t k):(P.info? t).isSome=true/\k (P.cellsOf t):=by
 unfold Mj at h;split at h;rename_i b;exact⟨by rw[b];rfl,by unfold Program.cellsOf;rw[b];exact h⟩;cases h
def Fb (P:Program) (a:Ek) (place:Nat->(Nat->Nat->Prop)->Prop):List (Nat×Operand)->(List (Nat×Nat×Value)->Prop)->Prop
 |[],k=>k []
 |(i,x)::rest,k=>place i fun b size=>qD P a x fun v=>Fb P a place rest fun l=>k ((b,size,v)::l)
theorem zC {a:Ek} {env:List Value} (b:dH a env) {place:Nat->(Nat->Nat->Prop)->Prop} {pl:Nat->Option (Nat×Nat)} (d:∀i k,place i k->∃o s,pl i=some (o,s)/\k o s):
  ∀{l:List (Nat×Operand)} {k:List (Nat×Nat×Value)->Prop},Fb P a place l k->∃r,sZ pl (bT P env) l=some r/\k r
 |[],_,h=>⟨_,rfl,h⟩
 |(i,x)::rest,_,h=>by
  obtain⟨o,s,f,g⟩:=d _ _ h;obtain⟨r,j,m⟩:=zC b d (dG b g);exact⟨_,by simp only[sZ,f,j],m⟩
def plS (P:Program) (fs:Array Field) (i:Nat) (k:Nat->Nat->Prop):Prop:=match fs[i]? with
 |some ⟨_,t,b,_,_,_,_⟩=>Mj P t fun n=>k b n
 |none=>hF
theorem z8 {fs:Array Field} (i:Nat) (k:Nat->Nat->Prop) (h:plS P fs i k):∃o s,((fs[i]?).map fun f=>(f.offset,P.cellsOf f.type))=some (o,s)/\k o s:=by
 unfold plS at h;split at h;rename_i b;exact⟨_,_,by rw[b];rfl,(mX h).2⟩;cases h
def plA (n:Nat) (i:Nat) (k:Nat->Nat->Prop):Prop:=hP (k (i*n) n)
def wZ (P:Program) (t:TypeId) (k:List Value->Prop):Prop:=match zeroOf P t with
 |some z=>ra z k
 |none=>hF
theorem Vq {t:TypeId} {k:List Value->Prop} (h:wZ P t k):∃z,zeroOf P t=some z/\k z:=by
 unfold wZ at h;split at h;exact⟨_,by assumption,G3 h⟩;cases h
def ze (l:List Nat):Nat->List Nat->List Nat
 |0,acc=>acc
 |n+1,acc=>ze l n (l++acc)
def kF (P:Program):Nat->TypeId->Option (List Nat)
 |0,_=>none
 |d+1,t=>match P.underlying t with
  |some .bool=>some [1]
  |some (.int _)=>some [0]
  |some .string=>some [2]
  |some (.array n e)=>(match kF P d e with
   |some l=>some (ze l n [])
   |none=>none)
  |some (.struct g)=>g.toList.foldr (fun f r=>match kF P d f.type,r with
   |some a,some b=>some (a++b)
   |_,_=>none) (some [])
  |_=>none
def kEq:Option (List Nat)->List Nat->Bool
 |some l,m=>l==m
 |none,_=>false
theorem q5 {o:Option (List Nat)} {l:List Nat} (h:kEq o l=true):o=some l:=by
 unfold kEq at h;grind
def wB (P:Program) (op:BinOp) (t:TypeId) (x y:Operand) (a b:Value) (q:Value->Prop):Prop:=
 match P.underlying t with
 |some (.int _)=>bB (A1 op a b) q
 |some .string=>bB (Xb op a b) q
 |some .bool=>bB (T1 op a b) q
 |some (.pointer _)=>bB (P6 op a b) q
 |some (.slice _)=>bB (P5 op a b) q
 |some (.func _ _ _)=>bB (Tb op a b) q
 |some (.interface _)=>(match isConst x||isConst y with
  |true=>bB (Uj true op a b) q
  |false=>bB (Uj false op a b) q)
 |some (.struct _)|some (.array _ _)=>(match kF P 20 t with
  |some d=>ra d fun d=>Tc (kEq (Dg P t) d) d op a b q
  |none=>hF)
 |_=>hF
theorem aAr {op:BinOp} {t:TypeId} {x y:Operand} {a b:Value} {q:Value->Prop} (h:wB P op t x y a b q):N2 P op t x y a b q bB:=by
 unfold wB at h;unfold N2;split at h;case h_7=>
  grind
 case h_8=>
  rename_i d;rw[d];split at h;obtain⟨f,h⟩:=G3 h;simp only[q5 f];exact h;cases h
 case h_9=>
  rename_i d;rw[d];split at h;obtain⟨f,h⟩:=G3 h;simp only[q5 f];exact h;cases h
 all_goals first|(rename_i d;rw[d];exact h)|cases h
def wL (P:Program) (a:Ek) (h:AH) (q:Value->Prop):Op->Prop
 |.move x=>qD P a x q
 |.assign x=>qD P a x q
 |.pick c x y=>qD P a c fun c=>qD P a x fun x=>qD P a y fun y=>bB (tE c x y) q
 |.build t g=>wZ P t fun z=>(match P.underlying t with
  |some (.struct o)=>(match o.toList.all (fun f=>(P.info? f.type).isSome) with
   |true=>Fb P a (plS P o) g.toList fun l=>bB (oL z l) fun c=>q (.agg ⟨c⟩)
   |false=>hF)
  |some (.array _ e)=>Mj P e fun n=>Fb P a (plA n) g.toList fun l=>bB (oL z l) fun c=>q (.agg ⟨c⟩)
  |_=>hF)
 |.load t x=>qD P a x fun x=>(match fS P t with
  |some true=>Mj P t fun n=>bB (A5 h n x) q
  |some false=>bB (ld1 h x) q
  |none=>hF)
 |.nilCheck x=>qD P a x fun x=>bB (zP x) q
 |.binOp op t x y _=>qD P a x fun u=>qD P a y fun v=>wB P op t x y u v q
 |.unOp op _ x=>qD P a x fun x=>bB (W6 op x) q
 |.convert s d x=>qD P a x fun x=>(match P.underlying s with
  |some .string=>(match P.underlying d with
   |some (.int k)=>bB (lZ k x) q
   |some .string=>bB (rG x) q
   |_=>hF)
  |some (.slice e)=>(match P.underlying d with
   |some .string=>(match P.underlying e with
    |some (.int .u8)=>bB (strOf h x) q
    |_=>hF)
   |_=>hF)
  |some _=>(match P.underlying d with
   |some (.int k)=>bB (lZ k x) q
   |_=>hF)
  |none=>hF)
 |.makeInterface t x=>qD P a x fun x=>(match P.underlying t with
  |some (.interface _)=>hF
  |some _=>q (.iface t x)
  |none=>hF)
 |.makeFunc A first b=>(match A with
  |.func f=>Pw P a first.toList fun x=>Pw P a b.toList fun y=>q (.func (.func f) ⟨x⟩ ⟨y⟩)
  |_=>hF)
 |.slice t x r p w=>qD P a x fun x=>oy P a r fun r=>oy P a p fun p=>oy P a w fun w=>(match P.underlying t with
  |some (.slice e)=>Mj P e fun n=>bB (V5 n h x r p w) q
  |some (.array n e)=>Mj P e fun m=>bB (Vo n m x r p w) q
  |some .string=>(match w with
   |none=>bB (W0 x r p) q
   |some _=>hF)
  |_=>hF)
 |.fieldAddr s x f=>qD P a x fun x=>(match P.underlying s with
  |some (.struct o)=>(match o[f]? with
   |some ⟨_,t,j,_,_,_,_⟩=>Mj P t fun n=>(match Nat.beq n 0 with
    |true=>hF
    |false=>bB (qS j x) q)
   |none=>hF)
  |_=>hF)
 |.field t x f=>qD P a x fun x=>(match P.underlying t with
  |some (.struct o)=>(match o[f]? with
   |some ⟨_,t,j,_,_,_,_⟩=>(match fS P t with
    |some true=>Mj P t fun n=>bB (nL j n x) q
    |some false=>bB (pT j x) q
    |none=>hF)
   |none=>hF)
  |_=>hF)
 |.indexAddr t x i=>qD P a x fun x=>qD P a i fun i=>(match P.underlying t with
  |some (.array n e)=>Mj P e fun m=>bB (tQ n m x i) q
  |some (.slice e)=>Mj P e fun m=>bB (kQ m x i) q
  |_=>hF)
 |.index t x i=>qD P a x fun x=>qD P a i fun i=>(match P.underlying t with
  |some (.array n e)=>Mj P e fun m=>(match fS P e with
   |some true=>bB (Vn n m x i) q
   |some false=>bB (Rp n m x i) q
   |none=>hF)
  |some .string=>bB (Uz x i) q
  |_=>hF)
 |.extract t i=>qD P a t fun t=>bB (Bo i t) q
 |.lookup t x ix ok=>qD P a x fun x=>qD P a ix fun ix=>(match Ba P t with
  |some e=>(match zeroV P e with
   |some z=>bB (xm z h x ix ok) q
   |none=>hF)
  |none=>hF)
 |_=>hF
theorem y3 {a:Ek} {env:List Value} (d:dH a env) {h:AH} {q:Value->Prop} {op:Op} (b:wL P a h q op):fU P (bT P env) h q op:=by
 unfold wL at b;split at b;case h_1=>exact dG d b
 case h_2=>exact dG d b
 case h_3=>exact dG d (dG d (dG d b))
 case h_4=>
  obtain⟨z,x,b⟩:=Vq b;unfold fU;simp only[x];split at b;rename_i p;simp only[p];split at b;rename_i j;rw[Array.all_toList] at j;simp only[j,if_true];obtain⟨r,g,o⟩:=zC d z8 b;grind;cases b;rename_i e p;simp only[p];obtain⟨v,b⟩:=mX b;simp only[v,if_true];obtain⟨r,g,o⟩:=zC (pl:=fun i=>some (i*P.cellsOf e,P.cellsOf e)) d (fun i k w=>⟨_,_,rfl,w⟩) b;grind;cases b
 case h_5=>
  have b:=dG d b;unfold fU;split at b;rename_i p;simp only[p];exact(mX b).2;grind;cases b
 case h_6=>exact dG d b
 case h_7=>exact aAr (dG d (dG d b))
 case h_8=>exact dG d b
 case h_9=>
  have b:=dG d b;unfold fU;split at b;rename_i f;simp only[f];split at b<;>first|(rename_i m;simp only[m];exact b)|cases b
  rename_i f;simp only[f];split at b;rename_i m;simp only[m];split at b<;>first|(rename_i m;simp only[m];exact b)|cases b
  cases b;rename_i g o f;simp only[f];split at b<;>first|(rename_i m;simp only[m];exact b)|cases b
  cases b
 case h_10=>
  have b:=dG d b;unfold fU;split at b;cases b;grind;cases b
 case h_11=>
  unfold fU;split at b;have b:=yP d (yP d b);simpa only[List.map_toArray,<-Array.toList_map] using b;cases b
 case h_12=>
  have b:=Sk d (Sk d (Sk d (dG d b)));unfold fU;split at b;rename_i f;simp only[f];obtain⟨g,o⟩:=mX b;grind;rename_i f;simp only[f];obtain⟨g,o⟩:=mX b;grind;rename_i f;simp only[f];split;exact b;exact b.elim;cases b
 case h_13=>
  have b:=dG d b;unfold fU;split at b;rename_i f;simp only[f];split at b;rename_i s;simp only[s];obtain⟨_,b⟩:=mX b;split at b;cases b;rename_i t;rw[aCw (fun e=>by rw[e] at t;cases t)];exact b;cases b;cases b
 case h_14=>
  have b:=dG d b;unfold fU;split at b;rename_i f;simp only[f];split at b;rename_i s;simp only[s];split at b;rename_i u;simp only[u];exact(mX b).2;grind;cases b;cases b;cases b
 case h_15=>
  have b:=dG d (dG d b);unfold fU;split at b;rename_i f;simp only[f];obtain⟨g,o⟩:=mX b;grind;rename_i f;simp only[f];obtain⟨g,o⟩:=mX b;grind;cases b
 case h_16=>
  have b:=dG d (dG d b);unfold fU;split at b;rename_i f;simp only[f];obtain⟨g,b⟩:=mX b;simp only[g,if_true];split at b;grind;grind;cases b;grind;cases b
 case h_17=>exact dG d b
 case h_18=>
  have b:=dG d (dG d b);unfold fU;split at b;rename_i f;simp only[f];split at b;grind;cases b;cases b
 case h_19=>cases b
end
end Go.Ab
end
section
namespace Go.Ab
noncomputable section
variable {P:Program} {K:FuncId->List Value->Option fC}
def isI (v:Value) (p:Prop):Prop:=∃k n,v= .int k n/\p
def lits:List Nat:=[0,1,2,3,4,5,6,7,8,9,10,11,12,13,14,15,16,17,18,19,20,21,22,23,24,25,26,27,28,29,30,31,32,33,34,35,36,37,38,39,40,41,42,43,44,45,46,47,48,49,50,51,52,53,54,55,56,57,58,59,60,61,62,63,64,65,66,67,68,69,70,71,72,73,74,75,76,77,78,79,80,81,82,83,84,85,86,87,88,89,90,91,92,93,94,95,96,97,98,99]
def nK (n:Nat) (k:Nat->Prop):Prop:=match lits[n]? with
 |some m=>(match Nat.beq m n with
  |true=>k m
  |false=>hF)
 |none=>k n
theorem dm {n:Nat} {k:Nat->Prop} (h:nK n k):k n:=by
 unfold nK at h;split at h;split at h;simp_all;cases h;exact h
def bzW (P:Program) (t:TypeId) (k:Nat->Prop):Prop:=match P.info? t with
 |some ⟨_,_,_,n,_,_,_,_,_,_⟩=>k n
 |none=>hF
theorem qz {t:TypeId} {k:Nat->Prop} (h:bzW P t k):k (P.bytesOf t):=by
 unfold bzW at h;split at h;rename_i b;unfold Program.bytesOf;rw[b];exact h;cases h
def wBI (P:Program) (h:AH) (q:Value->AH->Prop) (f:Array TypeId):Builtin->List Value->Prop
 |.len,[x]=>match(f[0]?).bind P.underlying with
  |some .string=>bB (yV x) fun v=>q v h
  |some (.slice _)=>bB (mH x) fun v=>q v h
  |some (.array n _)=>q (I n) h
  |some (.pointer e)=>(match P.underlying e with
   |some (.array n _)=>q (I n) h
   |_=>hF)
  |some (.map _ _)=>bB (pb h x) fun v=>q v h
  |_=>hF
 |.append,[s,x]=>match(f[0]?).bind P.underlying with
  |some (.slice e)=>(match Dk P f with
   |true=>wZ P e fun _=>Mj P e fun n=>bzW P e fun m=>bB (iB n m e h s x) fun r=>(match r with|(v,b)=>q v b)
   |false=>hF)
  |_=>hF
 |.copy,[d,x]=>match(f[0]?).bind P.underlying with
  |some (.slice e)=>Mj P e fun n=>bB (copyV n h d x) fun r=>(match r with|(v,b)=>q v b)
  |_=>hF
 |.clear,[x]=>match(f[0]?).bind P.underlying with
  |some (.slice e)=>wZ P e fun z=>bB (kV z h x) fun r=>(match r with|(v,b)=>q v b)
  |_=>hF
 |.min,[x,y]=>bB (Ay x y) fun v=>q v h
 |.max,[x,y]=>bB (yZ x y) fun v=>q v h
 |.delete,[m,k]=>(match f[0]? with
  |some t=>(match Ba P t with
   |some _=>bB (T2 h m k) fun b=>q (.tuple #[]) b
   |none=>hF)
  |none=>hF)
 |.cap,[x]=>match(f[0]?).bind P.underlying with
  |some (.slice _)=>bB (xh x) fun v=>q v h
  |_=>hF
 |_,_=>hF
theorem sc {h:AH} {q:Value->AH->Prop} {i:Array TypeId} {b:Builtin} {l:List Value} (d:wBI P h q i b l):rA P h q i b l:=by
 unfold wBI at d;unfold rA;split at d;split at d<;>(rename_i f;simp only[f];exact d);split at d;rename_i f;simp only[f];split at d;rename_i j;obtain⟨z,g,d⟩:=Vq d;obtain⟨_,d⟩:=mX d;rw[aCx ⟨j,by rw[g];rfl⟩];exact qz d;cases d;cases d;split at d;rename_i f;simp only[f];obtain⟨k,d⟩:=mX d;grind;cases d;split at d;rename_i f;simp only[f];obtain⟨z,g,d⟩:=Vq d;grind;cases d;exact d;exact d;split at d;rename_i f;simp only[f];split at d;grind;cases d;cases d;split at d;rename_i f;simp only[f];exact d;cases d;cases d
def wH (P:Program) (K:FuncId->List Value->Option fC) (a:Ek) (h:AH) (q:Value->AH->Prop):Op->Prop
 |.store t p x=>Mj P t fun n=>qD P a p fun p=>qD P a x fun x=>bB (I7 h n p x) fun d=>q undef d
 |.call c=>(match c.callee with
  |.builtin b=>Pw P a c.args.toList fun l=>wBI P h q c.argTypes b l
  |.value (.func g)=>(match eU P g with
   |true=>Pw P a c.args.toList fun l=>Cl P K g l h q
   |false=>hF)
  |.value f=>qD P a f fun f=>Pw P a c.args.toList fun l=>C9 P K f l h q
  |.invoke _ _=>hF)
 |.mapUpdate t m k x=>(match Ba P t with
  |some _=>qD P a m fun m=>qD P a k fun k=>qD P a x fun x=>bB (Tu h m k x) fun d=>q undef d
  |none=>hF)
 |_=>hF
theorem sw {a:Ek} {env:List Value} (d:dH a env) {h:AH} {q:Value->AH->Prop} {op:Op} (b:wH P K a h q op):vQ P K (bT P env) h q op:=by
 unfold wH at b;unfold vQ;split at b;obtain⟨g,b⟩:=mX b;simp only[g,if_true];exact dG d (dG d b);split at b;rename_i f;simp only[f];exact sc (yP d b);rename_i f;simp only[f];split at b;rename_i i;simp only[i,if_true];exact yP d b;cases b;rename_i f;simp only[f];exact yP d (dG d b);cases b;split at b;rename_i j;simp only[j];exact dG d (dG d (dG d b));cases b;cases b
def wA (P:Program) (a:Ek) (mk:jD->(Nat->AH->Prop)->Prop) (Ed:Nat->TypeId->List Value->Nat->Nat->(Value->AH->Prop)->Prop) (q:Value->AH->Prop):Op->Prop
 |.alloc e=>wZ P e fun z=>mk (.cells z e (0,0) true) fun p d=>q (pt p 0 0) d
 |.box e x=>qD P a x fun x=>bB (iZ e x) fun b=>mk b fun p d=>q (pt p 0 0) d
 |.buildSlice t len f=>match P.underlying t with
  |some (.slice e)=>wZ P e fun z=>Mj P e fun n=>(match Nat.ble (len*n) 16777216 with
   |true=>Fb P a (plA n) f.toList fun g=>ra (dS z len) fun i=>bB (oL i g) fun l=>Ed n e l len len q
   |false=>hF)
  |_=>hF
 |.makeSlice t l c=>match P.underlying t with
  |some (.slice e)=>wZ P e fun z=>Mj P e fun n=>bzW P e fun m=>qD P a l fun l=>qD P a c fun c=>bB (aAw m l c) fun r=>Ed n e (dS z r.2) r.1 r.2 q
  |_=>hF
 |.makeMap _ none=>mk (.map [] 0) fun p d=>q (mP p) d
 |.makeMap t (some x)=>match P.underlying t with
  |some (.map _ _)=>qD P a x fun x=>isI x (mk (.map [] 0) fun p d=>q (mP p) d)
  |_=>hF
 |_=>hF
where aAw:=Go.Ab.Ed
theorem yf {a:Ek} {env:List Value} (g:dH a env) {mk:jD->(Nat->AH->Prop)->Prop} {Ed:Nat->TypeId->List Value->Nat->Nat->(Value->AH->Prop)->Prop}
  (u:∀W e l n c k,Ed W e l n c k->mk (.cells l e (0,0) true) fun p o=>k (Zf n c p) o) {q:Value->AH->Prop} {op:Op} (d:wA P a mk Ed q op):
  vR P (bT P env) (fun b f=>mk b fun i o=>q (f i) o) op:=by
 unfold wA at d
 unfold vR
 split at d
 .obtain⟨z,m,d⟩:=Vq d;simp only[m];exact d
 .exact dG g d
 .split at d
  .rename_i j;simp only[j];obtain⟨z,m,d⟩:=Vq d;obtain⟨_,d⟩:=mX d;simp only[m];split at d
   .rename_i w;rw[aCx (Nat.le_of_ble_eq_true w)];obtain⟨r,t,d⟩:=zC (pl:=fun i=>some (i*P.cellsOf _,P.cellsOf _)) g (fun i k x=>⟨_,_,rfl,x⟩) d;simp only[t];exact(G3 d).mono fun v s=>u _ _ _ _ _ _ s
   .cases d
  .cases d
 .split at d
  .rename_i j;simp only[j];obtain⟨z,m,d⟩:=Vq d;obtain⟨_,d⟩:=mX d;simp only[m];exact(dG g (dG g (qz d))).mono fun v s=>u _ _ _ _ _ _ s
  .cases d
 .exact d
 .split at d
  .rename_i j;simp only[j];obtain⟨k,n,t,d⟩:=dG g d;grind
  .cases d
 .cases d
end
end Go.Ab
end
section
namespace Go.Ab
variable {P:Program} {K:FuncId->List Value->Option fC} {G:Bg} {h:AH} {L L' M:List HP}
abbrev ME:=Nat×Value×Nat
def C3 (es:List ME):List (Value×Value×Nat):=es.map fun x=>(I x.1,x.2.1,x.2.2)
def Qg (n:Int):List ME->Nat->Option (Nat×Value)
 |[],_=>none
 |x::b,i=>if n=(x.1:Int) then some (i,x.2.1) else Qg n b (i+1)
theorem Hy (n:Int):∀(es:List ME) (i:Nat),qL .i64 n (C3 es) i=some (Qg n es i)
 |[],i=>rfl
 |x::es,i=>by
  show(if IntKind.i64=IntKind.i64 then(if n=(x.1:Int) then some (some (i,x.2.1)) else qL .i64 n (C3 es) (i+1)) else none)=_;rw[aCx rfl,Hy n es (i+1)];by_cases e:n=(x.1:Int);rw[aCx e,Qg,aCx e];rw[aCw e,Qg,aCw e]
structure x5 (es:List ME) (clock:Nat):Prop where
 nd:(es.map (·.1)).Nodup
 st:∀x∈es,x.2.2<clock
 sd:(es.map (·.2.2)).Nodup
 kb:∀x∈es,x.1<16
def pI (es:List ME) (k:Nat):Option Value:=(Qg k es 0).map (·.2)
theorem fe {n:Int}:∀{es:List ME} {i j:Nat} {v:Value},Qg n es i=some (j,v)->i<=j/\∃x,es[j - i]?=some x/\(x.1:Int)=n/\x.2.1=v
 |[],i,j,v,h=>by cases h
 |x::es,i,j,v,h=>by
  unfold Qg at h;split at h;grind;obtain⟨b,y,d,f,g⟩:=fe h;grind
theorem I3 {n:Int}:∀{es:List ME} {i:Nat},(Qg n es (i+1)).map (·.2)=(Qg n es i).map (·.2)
 |[],_=>rfl
 |x::es,i=>by
  unfold Qg;split;rfl;exact I3
theorem Qy {x:ME} {es:List ME} {k:Nat}:pI (x::es) k=if k=x.1 then some x.2.1 else pI es k:=by
 unfold pI;rw[Qg];by_cases e:k=x.1;grind;rw[aaa,aCw e];exact I3
theorem G2 {es:List ME} {k:Nat}:pI es k=none↔k∉es.map (·.1):=by
 induction es with
 |nil=>simp[pI,Qg]
 |cons y es b=>rw[Qy];split<;>simp_all
def uS (b:Nat) (f:Nat->Option Value):HP:=Bb fun x:List ME×Nat=>sp [Ck (x5 x.1 x.2/\∀k,pI x.1 k=f k),ot b (.map (C3 x.1) x.2)]
theorem Nv {b:Nat} {f:Nat->Option Value} (g:Hs G h (uS b f::L)):∃d cl,(x5 d cl/\∀k,pI d k=f k)/\Hs G h (ot b (.map (C3 d) cl)::L):=by
 obtain⟨⟨d,cl⟩,g⟩:=g.yS;obtain⟨i,g⟩:=(Hs.unpack g).bc;exact⟨d,cl,i,g⟩
theorem Xq {b:Nat} {f:Nat->Option Value} {es:List ME} {cl:Nat} (d:x5 es cl) (g:∀k,pI es k=f k) (i:Hs G h (ot b (.map (C3 es) cl)::L)):Hs G h (uS b f::L):=
 Hs.vK (A:=fun x:List ME×Nat=>sp [Ck (x5 x.1 x.2/\∀k,pI x.1 k=f k),ot b (.map (C3 x.1) x.2)]) (es,cl) (Hs.pack (A:=[_,_]) (Hs.vx ⟨d,g⟩ i))
theorem ji {k:Nat->AH->Prop} (f:Hs G h L) (d:∀p b,Hs G b (uS p (fun _=>none)::L)->k p b):Cd h (.map [] 0) k:=
 d _ _ (Xq (es:=[]) (cl:=0) ⟨by simp,by simp,by simp,by simp⟩ (fun _=>rfl) (f.uo rfl))
theorem bz {b:Nat} {o:jD} (d:Jd o=true) (f:Hs G h (ot b o::L)):h.get b=some o/\h.base<=b:=⟨(Hs.Gg (o':=o) d f).1,(Hs.Gg (o':=o) d f).2.1⟩
theorem aBr {b:Nat} {f:Nat->Option Value} {z:Value} {n:Int} {ok:Bool} {k:Value->Prop} (g:Hs G h L) [m:Has (uS b) L f L']
  (q:k (match(if 0<=n then f n.toNat else none) with
   |some v=>if ok then .tuple ⟨[v,.bool true]⟩ else v
   |none=>if ok then .tuple ⟨[z,.bool false]⟩ else z)):bB (xm z h (mP b) (I n) ok) k:=by
 obtain⟨d,cl,⟨t,i⟩,g⟩:=Nv (m.of g)
 obtain⟨o,_⟩:=bz rfl g
 have r:Uq h (mP b)=some (C3 d):=by unfold Uq mP;simp only[o]
 have e:(Qg n d 0).map (·.2)=if 0<=n then f n.toNat else none:=by
  split;rename_i s;have:=i n.toNat;unfold pI at this;grind;cases hx:Qg n d 0 with
  |none=>rfl
  |some p=>
   obtain⟨_,x,_,u,_⟩:=fe (j:=p.1) (v:=p.2) hx;omega
 rw[<-e] at q
 unfold xm
 rw[r]
 simp only[Hy]
 cases hx:Qg n d 0 with
 |none=>simp_all
 |some p=>simp_all
theorem M6 {x y:Int} {l:List Int}:y∈yH x l↔y=x\/y∈l:=by
 induction l with
 |nil=>simp[yH]
 |cons a l b=>unfold yH;grind
theorem H0 {y:Int} {l:List Int}:y∈mE l↔y∈l:=by
 induction l with
 |nil=>simp[mE]
 |cons a l b=>simp only[mE,M6,b,List.mem_cons]
theorem P1 {x:Int} {l:List Int} (h:l.Pairwise (·<·)) (d:x∉l):(yH x l).Pairwise (·<·):=by
 induction l with
 |nil=>simp[yH]
 |cons a l i=>
  simp only[List.mem_cons,not_or] at d;obtain⟨f,g⟩:=List.pairwise_cons.1 h;unfold yH;split;refine List.pairwise_cons.2 ⟨fun y b=>?_,h⟩;grind;refine List.pairwise_cons.2 ⟨fun y b=>?_,i g d.2⟩;rcases M6.1 b with rfl|b;omega;exact f y b
theorem Jr {l:List Int} (h:l.Nodup):(mE l).Pairwise (·<·):=by
 induction l with
 |nil=>simp[mE]
 |cons a l f=>
  obtain⟨b,d⟩:=List.nodup_cons.1 h;exact P1 (f d) fun e=>b (H0.1 e)
theorem Qp {l m:List Int} (g:l.Pairwise (·<·)) (i:m.Pairwise (·<·)) (h:∀x,x∈l↔x∈m):l=m:=by
 induction l generalizing m with
 |nil=>
  cases m with
  |nil=>rfl
  |cons y m=>exact absurd ((h y).2 (by simp)) (by simp)
 |cons x l o=>
  cases m with
  |nil=>exact absurd ((h x).1 (by simp)) (by simp)
  |cons y m=>
   obtain⟨a1,j⟩:=List.pairwise_cons.1 g;obtain⟨f,k⟩:=List.pairwise_cons.1 i;have e:x=y:=by
    have b:=(h x).1 (by simp);have d:=(h y).2 (by simp);rcases List.mem_cons.1 b with e|b;exact e;rcases List.mem_cons.1 d with e|d;exact e.symm;have:=f x b;have:=a1 y d;omega
   grind
def xC (f:Nat->Option Value):List Nat:=(List.range 16).filter fun k=>(f k).isSome
theorem Rc (es:List ME):keysOf (C3 es)=some (es.map fun x=>(x.1:Int)):=by
 induction es with
 |nil=>rfl
 |cons x es b=>
  show(keysOf (C3 es)).map (fun l=>(x.1:Int)::l)=_;rw[b];rfl
theorem Lp (n:Nat):(List.range n).Pairwise (·<·):=List.pairwise_lt_range
theorem Ch {es:List ME} {cl:Nat} {f:Nat->Option Value} (i:x5 es cl) (j:∀k,pI es k=f k):mE (es.map fun x=>(x.1:Int))=(xC f).map fun k:Nat=>(k:Int):=by
 refine Qp (Jr ?_) ?_ fun x=>?_;have:=i.nd;rw[show(es.map fun x=>(x.1:Int))=(es.map (·.1)).map fun k:Nat=>(k:Int) by rw[List.map_map];rfl];exact List.Pairwise.map _ (fun a b d=>by omega) this;refine List.Pairwise.map (R:=(·<·)) _ (fun a b d=>by omega) ?_;exact List.Pairwise.filter _ (Lp 16);rw[H0];simp only[List.mem_map,xC,List.mem_filter,List.mem_range];constructor;rintro ⟨y,m,rfl⟩;refine⟨y.1,⟨i.kb y m,?_⟩,rfl⟩;rw[<-j];cases hl:pI es y.1 with
 |none=>exact absurd (List.mem_map.2 ⟨y,m,rfl⟩) (G2.1 hl)
 |some v=>rfl
 rintro ⟨k,⟨_,g⟩,rfl⟩;rw[<-j] at g;have:k∈es.map (·.1):=by
  refine Classical.byContradiction fun o=>?_;rw[G2.2 o] at g;cases g
 grind
theorem Ep {cl:Nat}:∀{es:List ME},(∀x∈es,x.2.2<cl)->(es.map (·.2.2)).Nodup->vS cl (C3 es)=true
 |[],_,_=>rfl
 |x::es,h,b=>by
  simp only[List.map_cons,List.nodup_cons] at b;have g:=Ep (fun y d=>h y (List.mem_cons_of_mem _ d)) b.2;show(Nat.blt x.2.2 cl&&((C3 es).all fun y=> !Nat.beq y.2.2 x.2.2)&&vS cl (C3 es))=true;rw[g,Bool.and_true,Bool.and_eq_true];refine⟨Nat.ble_eq_true_of_le (h x (by simp)),?_⟩;rw[List.all_eq_true];intro y d;obtain⟨z,f,rfl⟩:=List.mem_map.1 d;have:z.2.2≠x.2.2:=fun e=>b.1 (e▸List.mem_map.2 ⟨z,f,rfl⟩);cases hb:Nat.beq z.2.2 x.2.2 with
  |false=>rfl
  |true=>simp_all
theorem N9:∀{l:List Nat},(∀x∈l,x<16)->l.Nodup->Hz (l.map fun k:Nat=>(k:Int))=true
 |[],_,_=>rfl
 |x::l,h,d=>by
  obtain⟨i,b⟩:=List.nodup_cons.1 d;have g:=N9 (fun y f=>h y (List.mem_cons_of_mem _ f)) b;show((Lit.int .i64 (x:Int)).wf&&((l.map fun k:Nat=>(k:Int)).all fun y=> !(y==(x:Int)))&&Hz (l.map fun k:Nat=>(k:Int)))=true;rw[g,Bool.and_true,Bool.and_eq_true];refine⟨?_,?_⟩;have:x=0\/x=1\/x=2\/x=3\/x=4\/x=5\/x=6\/x=7\/x=8\/x=9\/x=10\/x=11\/x=12\/x=13\/x=14\/x=15:=by have:=h x (by simp);omega
  rcases this with rfl|rfl|rfl|rfl|rfl|rfl|rfl|rfl|rfl|rfl|rfl|rfl|rfl|rfl|rfl|rfl<;>rfl;grind
theorem Y6 {x:Int} {l:List Int}:(yH x l).length=l.length+1:=by
 induction l with
 |nil=>rfl
 |cons a l b=>unfold yH;split<;>simp[b]
theorem V2 {l:List Int}:(mE l).length=l.length:=by
 induction l with
 |nil=>rfl
 |cons a l b=>rw[mE,Y6,b];rfl
theorem mf {es:List ME} {cl:Nat} (b:x5 es cl):es.length<=16:=by
 have h:=congrArg List.length (Ch (f:=pI es) b fun _=>rfl);rw[V2,List.length_map,List.length_map] at h;rw[h];have:=List.length_filter_le (fun k=>(pI es k).isSome) (List.range 16);rw[List.length_range] at this;exact this
theorem Kv {f:FuncId} {args:List Value} {F:AH->Option (Value×AH)} {v:Value} {h':AH} {Q:Value->AH->Prop} (b:K f args=some (.host F)) (hF:F h=some (v,h')) (d:Q v h'):Cl P K f args h Q:=by
 refine⟨1,(⟨.fX,[],[],v⟩,h'),?_,d⟩;show gX P K (fun t h=>run P K 0 t h) f args h=_;unfold gX;rw[b];simp only[hF,Option.map_some]
theorem Zh {f:FuncId} {args:List Value} {b c:Nat} {e e2:TypeId} {d:Nat->Option Value} {Q:Value->AH->Prop} (R:K f args=some (.host (vW e c))) (T:Hs G h (aR c 0 [mP b]::mt c (e2,true,1)::uS b d::L))
  (S:∀a D H,Hs G H (fT 1 e a D ((xC d).length,(xC d).map fun k:Nat=>I k)::uS b d::L)->Q (.slice a (xC d).length D) H):Cl P K f args h Q:=by
 have m:=T
 obtain⟨p,cl,⟨j,U⟩,C⟩:=Nv ((T.perm ((List.Perm.swap _ _ _).cons _)).perm (List.Perm.swap _ _ _))
 obtain⟨X,hb⟩:=bz rfl C
 have g:∃E,h.get c=some (.cells [mP b] E (0,0) true):=by
  obtain⟨r,r2,hr,z,hd,Y,t⟩:=m.fst;obtain⟨r3,r4,B,β,s,rfl⟩:=z;cases hr;cases B;obtain⟨i1,i2⟩:=(bP.eP s).1 t;obtain⟨_,c',J,V⟩:=i1.mt c e2 true 1 (by simp);obtain⟨_,c2,e3,x3,N,O⟩:=Y.cell c 0 (mP b) (by simp[lA]);rw[J] at N;cases N;refine⟨e2,?_⟩;rw[J];obtain⟨v,rfl⟩:=List.length_eq_one_iff.1 V;simp only[List.getElem?_cons_zero,Option.some.injEq] at O;rw[O]
 obtain⟨E,g⟩:=g
 have u:=Ch j U
 have hF:vW e c h=some (D7 h e (mE (p.map fun x=>(x.1:Int)))):=by
  unfold vW;simp only[g,mP,X,Rc];rw[aCx];rw[Bool.and_eq_true,Bool.and_eq_true];refine⟨⟨?_,Ep j.st j.sd⟩,?_⟩;have:=mf j;rw[List.length_map];exact Nat.ble_eq_true_of_le (by omega);rw[show(p.map fun x=>(x.1:Int))=(p.map (·.1)).map fun k:Nat=>(k:Int) by rw[List.map_map];rfl];exact N9 (fun x hx=>by obtain⟨y,hy,rfl⟩:=List.mem_map.1 hx;exact j.kb y hy) j.nd
 rw[u] at hF
 have o:Hs G h (uS b d::L):=m.tail.tail
 unfold D7 at hF
 cases hkf:xC d with
 |nil=>
  rw[hkf] at hF
  refine Kv R hF ?_
  have:=S none 0 h
  rw[hkf] at this
  exact this (sK o)
 |cons x l=>
  rw[hkf] at hF
  simp only[List.map_cons,List.isEmpty_cons,Bool.false_eq_true,if_false] at hF
  refine Kv R hF ?_
  have i:=S (some ⟨h.next,0,none⟩) (xC d).length (h.alloc (.cells (((xC d).map fun k:Nat=>(k:Int)).map (Value.int .i64)) e (0,0) false))
  rw[hkf] at i
  simp only[List.length_cons,List.map_cons,List.length_map] at i ⊢
  refine i ?_
  have Z:=o.new (c:=Value.int .i64 (x:Int)::((l.map fun k:Nat=>(k:Int)).map (Value.int .i64))) (e:=e) (x:=false)
  refine Hs.join (A:=[_,_]) Z fun q w=>?_
  have w:=oI w
  refine⟨by simp,?_,.inr (.inr ⟨Nat.le_refl _,h.next,[],[],false,rfl,by simp,?_⟩)⟩
  .simp[dR]
  .rw[w];simp[List.map_map,Function.comp_def]
end Go.Ab
end
section
namespace Go.Ab
variable {P:Program} {K:FuncId->List Value->Option fC} {G:Bg} {h:AH} {L L' M:List HP}
class Fx {α:Type} (enc:α->List Value) (W:outParam Nat):Prop where
 len:∀x,(enc x).length=W
 cel:∀x,(enc x).all dR=true
def eL {α:Type} (enc:α->List Value) (l:List α):List Value:=l.flatMap enc
section
variable {α:Type} {enc:α->List Value} {W:Nat} [F:Fx enc W]
omit F in
@[simp] theorem uw:eL enc []=[]:=rfl
omit F in
theorem lJ {x:α} {l:List α}:eL enc (x::l)=enc x++eL enc l:=rfl
omit F in
theorem Yd {l m:List α}:eL enc (l++m)=eL enc l++eL enc m:=by simp[eL]
theorem Gu {l:List α}:(eL enc l).length=l.length*W:=by
 induction l with
 |nil=>simp
 |cons x l b=>rw[lJ,List.length_append,F.len,b,List.length_cons,Nat.succ_mul];omega
include F in
theorem Jv {l:List α}:(eL enc l).all dR=true:=by
 induction l with
 |nil=>rfl
 |cons x l b=>rw[lJ,List.all_append,F.cel,b];rfl
theorem Ti {l:List α}:∀{i:Nat},(eL enc l).drop (i*W)=eL enc (l.drop i):=by
 induction l with
 |nil=>intro i;simp
 |cons x l b=>
  intro i;cases i with
  |zero=>simp
  |succ i=>
   rw[lJ,List.drop_succ_cons,Nat.succ_mul,List.drop_append,List.drop_of_length_le (by rw[F.len];omega),F.len,show i*W+W - W=i*W by omega,b,List.nil_append]
theorem kj {l:List α}:∀{i:Nat},(eL enc l).take (i*W)=eL enc (l.take i):=by
 induction l with
 |nil=>intro i;simp
 |cons x l b=>
  intro i;cases i with
  |zero=>simp
  |succ i=>
   rw[lJ,List.take_succ_cons,lJ,Nat.succ_mul,List.take_append,List.take_of_length_le (by rw[F.len];omega),F.len,show i*W+W - W=i*W by omega,b]
theorem rf {l:List α} {i:Nat} {x:α} (h:l[i]?=some x):((eL enc l).drop (i*W)).take W=enc x:=by
 obtain⟨d,b⟩:=List.getElem?_eq_some_iff.1 h;rw[Ti,List.drop_eq_getElem_cons d,lJ,b];exact List.take_left' (F.len x)
theorem Dq {l:List α} {i j:Nat} {x:α} {v:Value} (h:l[i]?=some x) (d:(enc x)[j]?=some v):(eL enc l)[i*W+j]?=some v:=by
 have b:=rf (enc:=enc) h;grind
theorem s5 {l:List α} {i:Nat} {y:α} (b:i<l.length):gZ (eL enc l) (i*W) (enc y)=eL enc (l.set i y):=by
 rw[<-lS _ _ _ (by rw[Gu,F.len,<-Nat.succ_mul];exact Nat.mul_le_mul_right _ b)];unfold bJ;rw[kj,F.len,<-Nat.succ_mul,Ti,List.set_eq_take_append_cons_drop,aCx b,Yd,lJ,List.append_assoc]
def ls (enc:α->List Value) (W:Nat) (e:TypeId) (a:Option Addr) (c:Nat) (l:List α):HP:=fT W e a c (l.length,eL enc l)
omit F in
theorem mR [Fx enc W] {e:TypeId} (b:Hs G h L):Hs G h (ls enc W e none 0 []::L):=sK b
variable {e:TypeId} {a:Option Addr} {c:Nat} {l:List α}
omit F in
theorem xO {x:α} (b:Hs G h (fT W e a c (1,enc x)::L)):Hs G h (ls enc W e a c [x]::L):=by
 unfold ls;rw[lJ,uw,List.append_nil];exact b
theorem Ac {i:Int} {x:α} {k:Value->Prop} (o:Hs G h L) [m:Has (ls enc W e a c) L l L'] (f:0<W) (d:0<=i) (b:l[i.toNat]?=some x) (g:k (.agg ⟨enc x⟩)):bB (kQ W (.slice a l.length c) (I i)) fun p=>bB (A5 h W p) k:=by
 obtain⟨j,rfl⟩:=Int.eq_ofNat_of_zero_le d;rw[Int.toNat_natCast] at b;exact wz (e:=e) (cs:=eL enc l) (show Hs G h (fT W e a c (l.length,eL enc l)::L') from m.of o) f (List.getElem?_eq_some_iff.1 b).1 (rf b) (F.len x) g
theorem y1 {i:Int} {j:Nat} {x:α} {u:Value} {k:Value->Prop} (g:Hs G h L) [m:Has (ls enc W e a c) L l L'] (d:0<=i) (b:l[i.toNat]?=some x) (o:(enc x)[j]?=some u) (f:k u):bB (kQ W (.slice a l.length c) (I i)) fun p=>bB (qS j p) fun q=>bB (ld1 h q) k:=by
 obtain⟨n,rfl⟩:=Int.eq_ofNat_of_zero_le d;rw[Int.toNat_natCast] at b;exact X7 (e:=e) (cs:=eL enc l) (show Hs G h (fT W e a c (l.length,eL enc l)::L') from m.of g) (List.getElem?_eq_some_iff.1 b).1 (Dq b o) f
theorem Tw {i:Int} {y:α} {k:AH->Prop} (j:Hs G h L) [m:Has (ls enc W e a c) L l L'] (t:0<W) (r:0<=i) (u:i<l.length) (s:∀f,Hs G f (ls enc W e a c (l.set i.toNat y)::L')->k f):bB (kQ W (.slice a l.length c) (I i)) fun p=>bB (I7 h W p (.agg ⟨enc y⟩)) k:=by
 obtain⟨n,rfl⟩:=Int.eq_ofNat_of_zero_le r;have g:n<l.length:=by omega
 have j:Hs G h (fT W e a c (l.length,eL enc l)::L'):=m.of j;obtain⟨b,o,rfl,q⟩:=j.iY (by omega);refine fN g ?_;rw[show pt b (o+n*W) 0=pt b o (n*W) by simp[pt]];have hle:n*W+W<=(eL enc l).length:=by rw[Gu,<-Nat.succ_mul];exact Nat.mul_le_mul_right _ g
 refine hZ q (F.len y) (Nat.ble_eq_true_of_le hle) (F.cel y) (Nat.ble_eq_true_of_le (by omega)) fun f d=>?_;rw[s5 g] at d;have:=s f;rw[Int.toNat_natCast] at this;refine this ?_;unfold ls;rw[List.length_set];exact Hs.A8 d (by rw[Gu,List.length_set]) Jv
omit F in
theorem tB [Fx enc W] {bytes c2:Nat} {a2:Option Addr} {l2:List α} {k:Value×AH->Prop} (r:Hs G h L) [m:Has (ls enc W e a c) L l L'] [m2:Has (ls enc W e a2 c2) L' l2 M] (p:(l.length+l2.length)*(bytes+1)<=2^46)
  (q:∀b d f,Hs G f (ls enc W e b d (l++l2)::ls enc W e a2 c2 l2::M)->k (.slice b (l++l2).length d,f)):bB (iB W bytes e h (.slice a l.length c) (.slice a2 l2.length c2)) k:=by
 have i:=m.of r
 have j:Hs G h (ls enc W e a2 c2 l2::ls enc W e a c l::M):=(i.perm ((m2.perm.cons _).trans (List.Perm.swap _ _ _)))
 have o:Hs G h (fT W e a c (l.length,eL enc l)::fT W e a2 c2 (l2.length,eL enc l2)::M):=j.rL
 refine R2 o p fun b d f g=>?_
 have:=q b d f
 unfold ls at this
 rw[List.length_append,Yd] at this
 exact this g
end
end Go.Ab
end
namespace Go.Hm
open Go Go.Ab
section
structure bA where
 aD:Int
 aG:Int
 aF:Int
 ways:Int
 depth:Int
 entries:Int
 aK:Int
 deriving DecidableEq
def bA.list (C:bA):List Int:=[C.aD,C.aG,C.aF,C.ways,C.depth,C.entries,C.aK]
def bA.enc (C:bA):List Value:=[I C.aD,I C.aG,I C.aF,I C.ways,I C.depth,I C.entries,I C.aK]
def uf:List Int:=[4,16,8,4,16,8,4]
def jK:List Value:=[I 4,I 16,I 8,I 4,I 16,I 8,I 4]
def bA.X0 (C:bA):Nat->Nat->Int
 |0,_=>0
 |f+1,i=>if C.list.getD i 0<1\/uf.getD i 0<C.list.getD i 0 then 10 else C.X0 f (i+1)
def bA.Ok (C:bA):Prop:=(1<=C.aD/\C.aD<=4)/\(1<=C.aG/\C.aG<=16)/\(1<=C.aF/\C.aF<=8)/\(1<=C.ways/\C.ways<=4)/\(1<=C.depth/\C.depth<=16)/\(1<=C.entries/\C.entries<=8)/\(1<=C.aK/\C.aK<=4)
instance (C:bA):Decidable C.Ok:=by unfold bA.Ok;infer_instance
theorem bA.zx (C:bA):C.X0 7 0=if C.Ok then 0 else 10:=by
 simp only[bA.X0,bA.list,uf,List.getD_cons_zero,List.getD_cons_succ];by_cases h:C.Ok;rw[aCx h];unfold bA.Ok at h;repeat rw[aaa]
 .rw[aCw h];unfold bA.Ok at h;repeat' split
  all_goals first|rfl|(exfalso;omega)
def bA.lines (C:bA):Nat:=(C.aG*2).toNat
theorem bA.eO {C:bA} (h:C.Ok):(C.lines:Int)=C.aG*2/\2<=C.lines/\C.lines<=32:=by
 unfold bA.Ok at h;unfold bA.lines;omega
end
section
abbrev Ln:=Int×Int
def gU (l:Ln):List Value:=[I l.1,I l.2]
def hM (n B i:Nat):Nat:=(n+B - 1 - i)/B
theorem W3 {B i:Nat} (b:i<B):hM 0 B i=0:=Nat.div_eq_of_lt (by omega)
theorem Hx {n B i:Nat} (f:i<B):hM (n+1) B i=if i=n % B then hM n B i+1 else hM n B i:=by
 have b:=Nat.div_add_mod n B;have d:=Nat.mod_lt n (show 0<B by omega);unfold hM;generalize n/B=q at b;generalize n % B=r at b d ⊢;subst b;split;rename_i h;subst h;rw[show B*q+i+1+B - 1 - i=B*q+B by omega,show B*q+i+B - 1 - i=B*q+(B - 1) by omega];rw[Nat.mul_add_div (by omega),Nat.mul_add_div (by omega),Nat.div_self (by omega),Nat.div_eq_of_lt (show B - 1<B by omega)];rename_i h;rcases Nat.lt_or_ge i r with h1|h1;rw[show B*q+r+1+B - 1 - i=B*q+(B+(r - i)) by omega,show B*q+r+B - 1 - i=B*q+(B+(r - i - 1)) by omega];rw[Nat.mul_add_div (by omega),Nat.mul_add_div (by omega),Nat.add_div_left _ (by omega),Nat.add_div_left _ (by omega),Nat.div_eq_of_lt (show r - i<B by omega),Nat.div_eq_of_lt (show r - i - 1<B by omega)];rw[show B*q+r+1+B - 1 - i=B*q+(B+r - i) by omega,show B*q+r+B - 1 - i=B*q+(B+r - i - 1) by omega];rw[Nat.mul_add_div (by omega),Nat.mul_add_div (by omega),Nat.div_eq_of_lt (show B+r - i<B by omega),Nat.div_eq_of_lt (show B+r - i - 1<B by omega)]
theorem J1 {n B l:Nat} (hB:0<B) (d:l<n):l/B<hM n B (l % B):=by
 unfold hM;have b:=Nat.div_add_mod l B;have f:=Nat.mod_lt l hB;rw[Nat.lt_div_iff_mul_lt hB];rw[Nat.mul_comm];generalize B*(l/B)=q at b ⊢;omega
theorem Jz {B l k i:Nat} (b:i<B):k*B+i=l↔k=l/B/\i=l % B:=by
 constructor;intro h;subst h;rw[Nat.mul_comm,Nat.mul_add_div (by omega),Nat.mul_add_mod,Nat.div_eq_of_lt b,Nat.mod_eq_of_lt b];simp;rintro ⟨rfl,rfl⟩;have:=Nat.div_add_mod l B;rw[Nat.mul_comm];exact this
theorem bA.bk {C:bA} (h:C.Ok):(C.aK.toNat:Int)=C.aK/\0<C.aK.toNat/\C.aK.toNat<=4:=by unfold bA.Ok at h;omega
def O0 (B i:Nat) (mem:Nat->Ln):Nat->List Value:=fun k=>gU (mem (k*B+i))
theorem T6 {B i:Nat} {mem:Nat->Ln} (k:Nat):(O0 B i mem k).length=2:=rfl
theorem qP {α:Type} {f:Nat->α} {i:Nat}:aI f i (f i)=f:=by
 funext j;unfold aI;split;rename_i h;rw[h];rfl
theorem az {B l:Nat} {mem:Nat->Ln} (hB:0<B):O0 B (l % B) mem (l/B)=gU (mem l):=by
 unfold O0;rw[(Jz (Nat.mod_lt l hB)).2 ⟨rfl,rfl⟩]
theorem Tj {B l:Nat} {mem:Nat->Ln} {v:Ln} (hB:0<B):aI (O0 B (l % B) mem) (l/B) (gU v)=O0 B (l % B) (aI mem l v):=by
 funext k;unfold O0 aI;have:=(Jz (l:=l) (k:=k) (Nat.mod_lt l hB));by_cases h:k=l/B;rw[aCx h,aCx (this.2 ⟨h,rfl⟩)];rw[aCw h,aCw (fun e=>h (this.1 e).1)]
theorem s8 {B l i:Nat} {mem:Nat->Ln} {v:Ln} (b:i<B) (h:i≠l % B):O0 B i (aI mem l v)=O0 B i mem:=by
 funext k;unfold O0 aI;rw[aCw (fun e=>h ((Jz b).1 e).2)]
theorem qd {n B i:Nat} (hB:0<B):hM n B i<=n:=by
 unfold hM;refine Nat.le_of_lt_succ (Nat.div_lt_of_lt_mul ?_);rw[Nat.mul_succ];have:n<=B*n:=Nat.le_mul_of_pos_left _ hB;omega
def iC:Nat->Ln:=fun _=>(0,0)
end
section
structure aH where
 kind:Int
 core:Int
 line:Int
 world:Int
 state:Int
 d0:Int
 d1:Int
 gC:Bool
 no:Int
 deriving DecidableEq
def aH.enc (n:aH):List Value:=[I n.kind,I n.core,I n.line,I n.world,I n.state,I n.d0,I n.d1,.bool n.gC,I n.no]
def aH.zero:aH:=⟨0,0,0,0,0,0,0,false,0⟩
def Gj (l:List aH):List Value:=l.flatMap aH.enc
@[simp] theorem uz (n:aH) (l:List aH):Gj (n::l)=n.enc++Gj l:=rfl
@[simp] theorem xu:Gj []=[]:=rfl
structure Row where
 owner:Int
 sh:Nat->Bool
 waits:List aH
 busy:Bool
 served:aH
 world:Int
 asked:Nat->Bool
 granted:Bool
 told:Bool
 d0:Int
 d1:Int
def Row.enc (r:Row) (a:Option Addr) (c:Nat):List Value:=
 [I r.owner,.bool (r.sh 0),.bool (r.sh 1),.bool (r.sh 2),.bool (r.sh 3),.slice a r.waits.length c,.bool r.busy,I r.served.kind,I r.served.core,I r.served.line,I r.served.world,I r.served.state,I r.served.d0,I r.served.d1,.bool r.served.gC,I r.served.no,
   I r.world,.bool (r.asked 0),.bool (r.asked 1),.bool (r.asked 2),.bool (r.asked 3),.bool r.granted,.bool r.told,I r.d0,I r.d1]
def fO (f:Nat->Bool) (i:Int) (v:Bool):Nat->Bool:=fun j=>if(j:Int)=i then v else f j
def Row.free (r:Row):Row:={r with busy:=false,granted:=false,told:=false,served:=aH.zero,world:=0,d0:=0,d1:=0}
def Row.leave (r:Row) (core:Int):Row:={r with sh:=fO r.sh core false,owner:=if r.owner=core then -1 else r.owner}
def Row.holds (r:Row) (but:Int) (i:Nat):Bool:=decide ((i:Int)≠but)&&(r.sh i||decide ((i:Int)=r.owner))
def Row.yG (r:Row) (but:Int):Nat->Nat->Int
 |0,_=> -1
 |f+1,i=>if r.holds but i then i else r.yG but f (i+1)
def Row.first (r:Row) (but:Int):Int:=r.yG but 4 0
def Row.dZ (r:Row) (but:Int):Nat->Nat->List Nat
 |0,_=>[]
 |f+1,i=>if r.holds but i then i::r.dZ but f (i+1) else r.dZ but f (i+1)
def Row.iF (r:Row) (but:Int):List Nat:=r.dZ but 4 0
def Row.Kd (r:Row) (l:List Nat):Row:={r with asked:=fun j=>r.asked j||l.contains j}
def eQ (line state:Int) (l:List Nat):List aH:=l.map fun(i:Nat)=>{aH.zero with kind:=11,core:=(i:Int),line:=line,state:=state}
def Row.quiet (r:Row):Bool:= !(r.asked 0||r.asked 1||r.asked 2||r.asked 3)
abbrev kJ:=Row×Ln
def Row.tG (r:Row) (m:Ln):Ln:=if r.told then(r.d0,r.d1) else m
def Row.mQ (r:Row) (line st:Int) (d:Ln):aH:=⟨8,r.served.core,line,r.world,st,d.1,d.2,false,0⟩
def Row.eA (r:Row) (line:Int) (d:Ln):Row×List aH:=
 if r.served.kind=2 then({r with owner:=r.served.core,sh:=fun _=>false,granted:=true},[r.mQ line 4 d])
 else if r.first r.served.core= -1 then({r with owner:=r.served.core,sh:=fO r.sh r.served.core false,granted:=true},[r.mQ line 2 d])
 else({r with sh:=fO r.sh r.served.core true,granted:=true},[r.mQ line 1 d])
def valid (s:Int):Bool:=decide (0<=s/\s<5)&&decide (s≠0)
def Row.eF (r:Row) (n:aH):Row:={r with asked:=fO r.asked n.core false}
def Row.Lh (r:Row) (n:aH):Row:={r with owner:= -1,sh:=fO r.sh n.core (valid n.state)}
def Row.sG (r:Row) (n:aH):Row:={r with told:=true,d0:=n.d0,d1:=n.d1}
def Row.heard (r:Row) (n:aH):Row:=
 if r.served.kind≠1 then(r.eF n).leave n.core
 else if n.state≠3 then(if n.gC then((r.eF n).Lh n).sG n else(r.eF n).Lh n)
 else if n.gC then(r.eF n).sG n else r.eF n
def Row.yO (r:Row) (m:Ln) (n:aH):Ln:=if r.served.kind≠1/\n.gC=true then(n.d0,n.d1) else m
def Row.rest (r:Row) (line:Int) (m:Ln):Row×List aH:=
 if r.quiet then(if r.served.kind=0 then(r.free,[]) else r.eA line (r.tG m)) else(r,[])
def kJ.mK (x:kJ) (line:Int) (n:aH):kJ×List aH:=
 let m:=x.1.yO x.2 n
 let g:=(x.1.heard n).rest line m
 ((g.1,m),g.2)
def Row.serve (r:Row) (n:aH) (world:Int):Row:={r with busy:=true,served:=n,world:=world}
def Row.getM (r:Row) (line:Int) (m:Ln):Row×List aH:=
 if r.first r.served.core≠ -1 then(r.Kd (r.iF r.served.core),eQ line 0 (r.iF r.served.core)) else r.eA line (r.tG m)
def Row.Ro (r:Row) (line:Int) (m:Ln):Row×List aH:=
 if r.owner≠ -1 then(r.Kd [r.owner.toNat],eQ line 1 [r.owner.toNat]) else r.eA line (r.tG m)
def Row.mV (r:Row):Row:=if r.owner=r.served.core then {r with owner:= -1} else r
def Row.get (r:Row) (line:Int) (m:Ln) (n:aH) (world:Int):Row×List aH:=
 let r:=r.serve n world
 if n.kind=2 then r.getM line m else r.mV.Ro line m
def Row.wait (r:Row) (n:aH):Row:={r with waits:=r.waits++[n]}
def Row.next (r:Row) (w:List aH):Row:={r with waits:=w}
def Row.fi (r:Row) (n:aH):Row:={r with busy:=true,served:=n}
def kJ.take (x:kJ) (line:Int) (n:aH):kJ×List aH×Int:=
 if n.kind=4 then(if x.1.granted=false\/x.1.served.core≠n.core then(x,[],16) else((x.1.free,x.2),[],0))
 else if n.kind=5 then(if x.1.asked n.core.toNat=false then(x,[],16) else let g:=kJ.mK x line n;(g.1,g.2,0))
 else((x.1.wait n,x.2),[],0)
def nN (line:Int):aH:={aH.zero with line:=line}
def kJ.r5 (x:kJ) (line:Int):kJ:=(x.1.wait (nN line),x.2)
def pU (kind core line:Int):aH:={aH.zero with kind:=kind,core:=core,line:=line}
def Row.begun (r:Row) (line:Int) (m:Ln) (n:aH) (j:Int->Int×Bool):kJ×List aH:=
 if n.kind=3 then((r.leave n.core,if r.owner=n.core/\n.gC=true then(n.d0,n.d1) else m),[pU 10 n.core line])
 else if n.kind=1\/n.kind=2 then(if(j n.world).2=true then let g:=r.get line m n (j n.world).1;((g.1,m),g.2) else((r,m),[pU 9 n.core line]))
 else if r.first (-1)= -1 then((r,m),[])
 else(((r.fi n).Kd (r.iF (-1)),m),eQ line 0 (r.iF (-1)))
def kJ.begin (x:kJ) (line:Int) (j:Int->Int×Bool):kJ×List aH×Int:=
 if x.1.busy=true then(x,[],16)
 else match x.1.waits with
  |[]=>(x,[],12)
  |n::w=>let g:=Row.begun (x.1.next w) line x.2 n j;(g.1,g.2,0)
abbrev kO:=Nat->kJ
def oW:Row:=⟨-1,fun _=>false,[],false,aH.zero,0,fun _=>false,false,false,0,0⟩
theorem Pf {r:Row} {x:Int}:∀(f i:Nat),i+f=4->(∀c∈r.dZ x f i,c<4)/\(r.dZ x f i).length<=f:=by
 intro f;induction f with
 |zero=>intro i g;simp[Row.dZ]
 |succ f j=>
  intro i g;obtain⟨d,k⟩:=j (i+1) (by omega);unfold Row.dZ;split;refine⟨fun c b=>?_,by simp;omega⟩;rcases List.mem_cons.1 b with rfl|b;omega;exact d c b;exact⟨d,by omega⟩
theorem M9 {r:Row} {x:Int}:(r.iF x).length<=4:=(Pf 4 0 rfl).2
def bA.has (C:bA) (l:Int):Prop:=0<=l/\l<C.lines
instance (C:bA) (l:Int):Decidable (C.has l):=by unfold bA.has;infer_instance
def hU (k:Int):Prop:=k=1\/k=2\/k=3\/k=4\/k=5
instance (k:Int):Decidable (hU k):=by unfold hU;infer_instance
def kO.at (H:kO) (l:Int):kJ:=H l.toNat
def jX (C:bA) (H:kO) (n:aH):kO×List aH×Int:=
 if ¬hU n.kind then(H,[],15)
 else if(0<=n.core/\n.core<C.aD)/\C.has n.line then(aI H n.line.toNat (kJ.take (H n.line.toNat) n.line n).1,(kJ.take (H n.line.toNat) n.line n).2)
 else(H,[],10)
def nR (C:bA) (H:kO) (l:Int):kO×Int:=if C.has l then(aI H l.toNat (kJ.r5 (H l.toNat) l),0) else(H,10)
def kK (C:bA) (H:kO) (l:Int) (j:Int->Int×Bool):kO×List aH×Int:=
 if C.has l then(aI H l.toNat (kJ.begin (H l.toNat) l j).1,(kJ.begin (H l.toNat) l j).2) else(H,[],10)
structure Row.Inv (r:Row):Prop where
 core:0<=r.served.core/\r.served.core<4
 owner: -1<=r.owner/\r.owner<4
 waits:∀n∈r.waits,0<=n.core/\n.core<4
def Za (C:bA) (H:kO) (N:Nat):Prop:=∀l,l<C.lines->(H l).1.Inv/\(H l).1.waits.length<=N
def zB (C:bA) (H:kO) (l:Int):Int:=if C.has l then((H l.toNat).1.waits.length:Int) else 0
def kU (n:Nat):kO:=fun i=>if i<n then(oW,(0,0)) else({oW with owner:=0},(0,0))
theorem Xm {n:Nat}:aI (kU n) n (oW,(0,0))=kU (n+1):=by
 funext i;unfold aI kU;by_cases h:i=n;rw[aCx h,aac];rw[aCw h];by_cases b:i<n;rw[aCx b,aac];rw[aCw b,aaa]
def aH.fits (n r:aH) (len:Nat):Prop:=
 n.line=r.line/\n.no=0/\((n.kind=8/\n.core=r.core/\len=1/\(r.kind=1\/r.kind=2))\/(n.kind=9/\n.world=0/\n.core=r.core/\len=1/\(r.kind=1\/r.kind=2))\/
  (n.kind=10/\n.world=0/\n.core=r.core/\len=1/\r.kind=3)\/(n.kind=11/\n.world=0/\n.core≠r.core/\(r.kind=1\/r.kind=2\/(r.kind=0/\n.state=0))))
end
end Go.Hm
namespace Go.Ct
open Go Go.Ab Go.Hm
section
def fx (s:Int):Bool:=decide (1<=s/\s<=4)
def L0 (s:Int):Bool:=decide (s=2\/s=4)
def xS (s:Int):Bool:=decide (s=3\/s=4)
def Y2 (s:Int):Bool:=decide (2<=s/\s<=4)
def isS (s:Int):Bool:=decide (0<=s/\s<5)
def Ky (s:Int):Int:=if s=2 then 1 else if s=4 then 3 else s
def lN (s:Int) (w:Bool):Bool:=if w then L0 s else fx s
structure vT where
 st:Int
 w:Int
 d:Ln
 deriving DecidableEq
def vT.enc (x:vT):List Value:=[I x.st,I x.w,I x.d.1,I x.d.2]
def vT.zero:vT:=⟨0,0,(0,0)⟩
abbrev Th:=Int×vT
def Cg (t:Th):List Value:=I t.1::t.2.enc
def eZ (l:List Th):List Value:=l.flatMap Cg
theorem Iw (l:List Th):(eZ l).length=l.length*5:=by
 induction l with
 |nil=>rfl
 |cons a t b=>simp only[eZ,List.flatMap_cons,List.length_append] at b ⊢;rw[b];simp[Cg,vT.enc];omega
theorem P8 (l:List Th):(eZ l).all dR=true:=by
 induction l with
 |nil=>rfl
 |cons a t b=>simp only[eZ,List.flatMap_cons,List.all_append,Bool.and_eq_true] at b ⊢;exact⟨rfl,b⟩
theorem Sl (l:List Th) (i:Nat):(eZ l).drop (i*5)=eZ (l.drop i):=by
 induction l generalizing i with
 |nil=>simp[eZ]
 |cons a t d=>
  cases i with
  |zero=>simp[eZ]
  |succ i=>
   have:(i+1)*5=5+i*5:=by omega
   simp only[eZ,List.flatMap_cons,List.drop_succ_cons] at d ⊢;have b:(Cg a).length=5:=rfl;rw[this,List.drop_append,List.drop_of_length_le (by rw[b];omega),b,show 5+i*5 - 5=i*5 by omega,d,List.nil_append]
theorem dh {l:List Th} {i:Nat} {t:Th} (h:l[i]?=some t):((eZ l).drop (i*5)).take 5=Cg t:=by
 rw[Sl];have b:=(List.getElem?_eq_some_iff.1 h);rw[List.drop_eq_getElem_cons b.1,b.2];simp only[eZ,List.flatMap_cons];exact List.take_left' rfl
def ix (no:Int):List Th->Option Nat
 |[]=>none
 |t::l=>if t.1=no then some 0 else(ix no l).map (·+1)
def ixI (no:Int) (l:List Th):Int:=match ix no l with|some i=>i|none=> -1
def get (no:Int) (l:List Th):Option vT:=(l.find? fun t=>decide (t.1=no)).map (·.2)
def rem (no:Int):List Th->List Th
 |[]=>[]
 |t::l=>if t.1=no then l else t::rem no l
theorem kn {no:Int} {l:List Th} {i:Nat} (h:ix no l=some i):∃x,l[i]?=some (no,x)/\get no l=some x/\rem no l=l.take i++l.drop (i+1)/\i<l.length:=by
 induction l generalizing i with
 |nil=>cases h
 |cons t l k=>
  simp only[ix] at h;by_cases b:t.1=no;rw[aCx b] at h;cases h;exact⟨t.2,by simp[<-b],by simp[get,b],by simp[rem,b],by simp⟩;rw[aCw b] at h;cases hx:ix no l with
  |none=>rw[hx] at h;cases h
  |some j=>
   rw[hx] at h;cases h;obtain⟨x,f,d,g,m⟩:=k hx;refine⟨x,by simpa using f,?_,?_,by simp;omega⟩;simp only[get,List.find?_cons,decide_eq_false b] at d ⊢;exact d;simp[rem,b,g]
theorem nh {no:Int} {l:List Th} (h:ix no l=none):get no l=none/\rem no l=l:=by
 induction l with
 |nil=>exact⟨rfl,rfl⟩
 |cons t l g=>
  simp only[ix] at h;by_cases b:t.1=no;rw[aCx b] at h;cases h;rw[aCw b] at h;obtain⟨d,f⟩:=g (by simpa using h);refine⟨?_,by simp[rem,b,f]⟩;simp only[get,List.find?_cons,decide_eq_false b] at d ⊢;exact d
theorem px {no:Int} {l:List Th}:(rem no l).length=if(get no l).isSome then l.length - 1 else l.length:=by
 cases h:ix no l with
 |none=>obtain⟨d,b⟩:=nh h;rw[d,b];rfl
 |some i=>
  obtain⟨x,d,b,f,g⟩:=kn h;rw[b,f];simp;omega
structure eM where
 S:Nat->List Th
 al:Int
 aw:Bool
 xF:Bool
 gl:Int
 gc:vT
 wN:Bool
def eM.new:eM:=⟨fun _=>[],0,false,false,0,vT.zero,false⟩
def eM.tail (c:eM):List Value:=[I c.al,.bool c.aw,.bool c.xF,I c.gl]++c.gc.enc++[.bool c.wN]
variable (n:Nat) (ways:Nat) (lines:Int) (core:Int)
def setOf (l:Int):Nat:=(l % (n:Int)).toNat
def eM.aBf (c:eM) (l:Int):Option vT:=if l<0 then none else get l (c.S (setOf n l))
def eM.may (c:eM) (l b:Int) (w:Bool):Bool:=match c.aBf n l with
 |some x=>decide (x.w=b)&&lN x.st w
 |none=>false
def eM.set (c:eM) (l:Int) (s:List Th):eM:={c with S:=aI c.S (setOf n l) s}
def eM.drop (c:eM) (l:Int):eM:=c.set n l (rem l (c.S (setOf n l)))
def eM.put (c:eM) (l:Int) (x:vT):eM:=c.set n l (if(rem l (c.S (setOf n l))).length>=ways then rem l (c.S (setOf n l)) else rem l (c.S (setOf n l))++[(l,x)])
end
end Go.Ct
namespace Go.Ab
open Go.Ct Go.Hm
section
noncomputable section
def R0 (x:Th):List Th->List Th
 |[]=>[x]
 |y::l=>if x.1<=y.1 then x::y::l else y::R0 x l
def tO:List Th->List Th
 |[]=>[]
 |x::l=>R0 x (tO l)
def Pq:List Th->Bool
 |[]=>true
 |x::l=>(l.all fun y=> !(y.1==x.1))&&Pq l
def Jh:Nat->List Value->Option (List Th)
 |0,[]=>some []
 |n+1,.int .i64 a:: .int .i64 s:: .int .i64 w:: .int .i64 d:: .int .i64 e::l=>(Jh n l).map fun r=>(a,⟨s,w,(d,e)⟩)::r
 |_,_=>none
def J3 (b o n:Nat):AH->Option (Value×AH):=fun h=>
 match bM h ⟨b,o,none⟩ (n*5) with
 |some d=>match Jh n d with
  |some l=>if Nat.ble l.length 1000&&Pq l then(cB h ⟨b,o,none⟩ (eZ (tO l))).map fun f=>(.tuple ⟨[]⟩,f) else none
  |none=>none
 |none=>none
def Pa (e:TypeId) (n:Int):AH->Option (Value×AH):=fun h=>
 if n=0 then some (.slice none 0 0,h) else if 0<n/\n<=1000 then some (.slice (some ⟨h.next,0,some 2⟩) 0 0,h.alloc (.cells [] e (0,0) false)) else none
end
theorem Gx:∀{n:Nat} {cs:List Value} {l:List Th},Jh n cs=some l->cs=eZ l/\l.length=n
 |0,[],l,h=>by simp[Jh] at h;subst h;exact⟨rfl,rfl⟩
 |0,_::_,l,h=>by simp[Jh] at h
 |n+1,cs,l,h=>by
  unfold Jh at h;split at h;rename_i b;omega;rename_i m a s w d e r b;obtain rfl:n=m:=by omega
  simp only[Option.map_eq_some_iff] at h;obtain⟨i,g,rfl⟩:=h;obtain⟨rfl,f⟩:=Gx g;exact⟨rfl,by simp[f]⟩;cases h
theorem Bf (x:Th):∀l:List Th,(R0 x l).Perm (x::l)
 |[]=>List.Perm.refl _
 |y::l=>by
  unfold R0;split;exact List.Perm.refl _;exact((Bf x l).cons y).trans (List.Perm.swap x y l)
theorem lC:∀l:List Th,(tO l).Perm l
 |[]=>List.Perm.refl _
 |x::l=>(Bf x (tO l)).trans ((lC l).cons x)
theorem Cy (x:Th):∀l:List Th,l.Pairwise (fun a b=>a.1<=b.1)->(R0 x l).Pairwise (fun a b=>a.1<=b.1)
 |[],_=>by simp[R0]
 |y::l,h=>by
  unfold R0;split;rename_i f;refine List.Pairwise.cons (fun z d=>?_) h;rcases List.mem_cons.1 d with rfl|d;exact f;exact Int.le_trans f (List.rel_of_pairwise_cons h d);rename_i f;refine List.Pairwise.cons (fun z d=>?_) (Cy x l h.of_cons);rcases List.mem_cons.1 ((Bf x l).mem_iff.1 d) with rfl|d;omega;exact List.rel_of_pairwise_cons h d
theorem Ar:∀l:List Th,(tO l).Pairwise (fun a b=>a.1<=b.1)
 |[]=>List.Pairwise.nil
 |x::l=>Cy x _ (Ar l)
theorem P4:∀{l:List Th},Pq l=true->∀a∈l,∀b∈l,a.1=b.1->a=b
 |[],_,a,g,_,_,_=>by cases g
 |x::l,h,a,g,b,o,e=>by
  simp only[Pq,Bool.and_eq_true,List.all_eq_true,Bool.not_eq_true',beq_eq_false_iff_ne] at h;obtain⟨k,m⟩:=h;rcases List.mem_cons.1 g with i|d<;>rcases List.mem_cons.1 o with j|f;rw[i,j];subst i;exact absurd e.symm (k b f);subst j;exact absurd e (k a d);exact P4 m a d b f e
abbrev xt (x y:Th):Bool:=decide (x.1<y.1)
end
end Go.Ab
