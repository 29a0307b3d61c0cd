/- A part of the proof. -/
import Derived.Test.YtcjlkjeeifemhaaGreatDoorR6
import Derived.Test.YtcjlkjeeifemhaaGreatDoorR7
import Derived.Test.YtcjlkjeeifemhaaGreatDoorR5
import Derived.Shelf.Strings.Builder1
import Derived.Shelf.Strings.OnBuilder
import Derived.Shelf.Strconv.Itoa3
import Derived.Shelf.LaysM
import Derived.Shelf.LaysC
import Derived.Shelf.Strings.Search1
import Derived.Shelf.Strings.Count
import Derived.Shelf.Strconv.AtoiAll
import Derived.Test.YtcjlkjeeifemhaaGreatDoorChecked
import Derived.Lib.UnsafeStr
import Derived.LaidLaws
import Derived.MakeChecks
import Derived.WalkKit
import Derived.ProofKit
import Derived.ChangeOld
import Derived.ChangeSame
import Derived.ChangeVars
import Derived.JoinedOf
import Derived.Carry
import Derived.LaidHandle
import Derived.Stop.Joined
section
namespace Go.Ab
noncomputable section
variable {P:Program} {K:FuncId->List Value->Option iJ}
def hA:Unit:=Function.const _ () @Cl
def hB:Unit:=Function.const _ () hA
def hC:Unit:=Function.const _ () hB
def hD:Unit:=Function.const _ () hC
def hE:Unit:=Function.const _ () hD
def hG:Unit:=Function.const _ () hE
def hP (p:Prop):Prop:=(fun _:Unit=>p) hG
def hF:Prop:=hP False
inductive Kn where
 |un|ex|b (x:Bool)|sk|no
abbrev Ek:=List (Nat×Value×Kn)
def Ek.lk:Ek->Nat->Option (Value×Kn)
 |[],_=>none
 |(b,v,k)::a,t=>match Nat.beq b t with
  |true=>(match k with
   |.no=>none
   |k=>some (v,k))
  |false=>Ek.lk a t
def eW (a:Ek) (env:List Value):Prop:=∀t v k,a.lk t=some (v,k)->env[t]?=some v/\(∀x,k= .b x->v= .bool x)/\(k= .sk->v=undef)
def aIz (v:Value) (k:Value->Prop):Prop:=match v with
 |.int .i64 n=>k (I n)
 |v=>hP (k v)
def vI (P:Program) (a:Ek) (x:Operand) (k:Value->Prop):Prop:=match x with
 |.tmp t=>(match a.lk t with
  |some (v,_)=>k v
  |none=>hF)
 |.const v=>(match dR v with
  |true=>aIz v k
  |false=>k top)
 |.global g=>(match Nat.blt g P.globals.size with
  |true=>k (.pointer (some ⟨g,0,none⟩))
  |false=>k top)
 |.func f=>k (.func (.func f) #[] #[])
theorem eT {a:Ek} {env:List Value} (i:eW a env) {x:Operand} {k:Value->Prop} (h:vI P a x k):k (cQ P env x):=by
 unfold vI at h;split at h;split at h;rename_i d;have:=(i _ _ _ d).1;simpa only[cQ,List.getD_eq_getElem?_getD,this,Option.getD_some] using h;cases h;split at h;rename_i f;simp only[cQ,f,if_true];unfold aIz at h;split at h<;>exact h;rename_i f;simpa only[cQ,f,Bool.false_eq_true,if_false] using h;split at h;rename_i g _ b;have:g<P.globals.size:=Nat.le_of_ble_eq_true b;simpa only[cQ,this,if_true] using h;rename_i g _ b;have:¬g<P.globals.size:=fun d=>by rw[show Nat.blt g P.globals.size=true from Nat.ble_eq_true_of_le d] at b;cases b
 simpa only[cQ,this,if_false] using h;exact h
def aBl (P:Program) (a:Ek) (x:Option Operand) (k:Option Value->Prop):Prop:=match x with
 |none=>k none
 |some x=>vI P a x fun v=>k (some v)
theorem Zb {a:Ek} {env:List Value} (b:eW a env) {x:Option Operand} {k:Option Value->Prop} (h:aBl P a x k):k (x.map (cQ P env)):=by
 cases x with
 |none=>exact h
 |some x=>exact eT b h
def V6 (P:Program) (a:Ek):List Operand->(List Value->Prop)->Prop
 |[],k=>k []
 |x::l,k=>vI P a x fun v=>V6 P a l fun b=>k (v::b)
theorem B8 {a:Ek} {env:List Value} (b:eW a env):∀{l:List Operand} {k:List Value->Prop},V6 P a l k->k (l.map (cQ P env))
 |[],_,h=>h
 |_::l,k,h=>by
  have d:=eT b h;have f:=B8 b (l:=l) d;exact f
def fcL {α:Type}:List α->(List α->Prop)->Prop
 |[],k=>hP (k [])
 |v::l,k=>fcL l fun l=>k (v::l)
theorem J7 {α:Type}:∀{l:List α} {k:List α->Prop},fcL l k->k l
 |[],_,h=>h
 |_::l,_k,h=>J7 (l:=l) h
def S9 (P:Program) (t:TypeId) (k:Nat->Prop):Prop:=match P.info? t with
 |some ⟨_,_,n,_,_,_,_,_,_,_⟩=>k n
 |none=>hF
theorem rJ {t:TypeId} {k:Nat->Prop} (h:S9 P t k):(P.info? t).isSome=true/\k (P.cellsOf t):=by
 unfold S9 at h;split at h;rename_i b;exact⟨by rw[b];rfl,by unfold Program.cellsOf;rw[b];exact h⟩;cases h
def Lu (P:Program) (a:Ek) (place:Nat->(Nat->Nat->Prop)->Prop):List (Nat×Operand)->(List (Nat×Nat×Value)->Prop)->Prop
 |[],k=>k []
 |(i,x)::rest,k=>place i fun b size=>vI P a x fun v=>Lu P a place rest fun l=>k ((b,size,v)::l)
theorem Dw {a:Ek} {env:List Value} (b:eW a env) {place:Nat->(Nat->Nat->Prop)->Prop} {pl:Nat->Option (Nat×Nat)} (d:∀i k,place i k->∃o s,pl i=some (o,s)/\k o s):
  ∀{l:List (Nat×Operand)} {k:List (Nat×Nat×Value)->Prop},Lu P a place l k->∃r,xV pl (cQ P env) l=some r/\k r
 |[],_,h=>⟨_,rfl,h⟩
 |(i,x)::rest,_,h=>by
  obtain⟨o,s,f,g⟩:=d _ _ h;obtain⟨r,j,m⟩:=Dw b d (eT b g);exact⟨_,by simp only[xV,f,j],m⟩
def plS (P:Program) (fs:Array Field) (i:Nat) (k:Nat->Nat->Prop):Prop:=match fs[i]? with
 |some ⟨_,t,b,_,_,_,_⟩=>S9 P t fun n=>k b n
 |none=>hF
theorem aJi {fs:Array Field} (i:Nat) (k:Nat->Nat->Prop) (h:plS P fs i k):∃o s,((fs[i]?).map fun f=>(f.offset,P.cellsOf f.type))=some (o,s)/\k o s:=by
 unfold plS at h;split at h;rename_i b;exact⟨_,_,by rw[b];rfl,(rJ h).2⟩;cases h
def plA (n:Nat) (i:Nat) (k:Nat->Nat->Prop):Prop:=hP (k (i*n) n)
def wZ (P:Program) (t:TypeId) (k:List Value->Prop):Prop:=match zeroOf P t with
 |some z=>fcL z k
 |none=>hF
theorem nf {t:TypeId} {k:List Value->Prop} (h:wZ P t k):∃z,zeroOf P t=some z/\k z:=by
 unfold wZ at h;split at h;exact⟨_,by assumption,J7 h⟩;cases h
def aK7 (l:List Nat):Nat->List Nat->List Nat
 |0,acc=>acc
 |n+1,acc=>aK7 l n (l++acc)
def kF (P:Program):Nat->TypeId->Option (List Nat)
 |0,_=>none
 |d+1,t=>match P.underlying t with
  |some .bool=>some [1]
  |some (.int _)=>some [0]
  |some .string=>some [2]
  |some (.array n e)=>(match kF P d e with
   |some l=>some (aK7 l n [])
   |none=>none)
  |some (.struct g)=>g.toList.foldr (fun f r=>match kF P d f.type,r with
   |some a,some b=>some (a++b)
   |_,_=>none) (some [])
  |_=>none
def kEq:Option (List Nat)->List Nat->Bool
 |some l,m=>l==m
 |none,_=>false
theorem aE5 {o:Option (List Nat)} {l:List Nat} (h:kEq o l=true):o=some l:=by
 unfold kEq at h;grind
def wB (P:Program) (op:BinOp) (t:TypeId) (x y:Operand) (a b:Value) (q:Value->Prop):Prop:=
 match P.underlying t with
 |some (.int _)=>aY (tD op a b) q
 |some .string=>aY (I5 op a b) q
 |some .bool=>aY (Q2 op a b) q
 |some (.pointer _)=>aY (Nf op a b) q
 |some (.slice _)=>aY (M1 op a b) q
 |some (.func _ _ _)=>aY (Sb op a b) q
 |some (.interface _)=>(match isConst x||isConst y with
  |true=>aY (Nl true op a b) q
  |false=>aY (Nl false op a b) q)
 |some (.struct _)|some (.array _ _)=>(match kF P 20 t with
  |some d=>fcL d fun d=>Nj (kEq (Ii P t) d) d op a b q
  |none=>hF)
 |_=>hF
theorem aLr {op:BinOp} {t:TypeId} {x y:Operand} {a b:Value} {q:Value->Prop} (h:wB P op t x y a b q):Vi P op t x y a b q aY:=by
 unfold wB at h;unfold Vi;split at h;case h_7=>
  grind
 case h_8=>
  rename_i d;rw[d];split at h;obtain⟨f,h⟩:=J7 h;simp only[aE5 f];exact h;cases h
 case h_9=>
  rename_i d;rw[d];split at h;obtain⟨f,h⟩:=J7 h;simp only[aE5 f];exact h;cases h
 all_goals first|(rename_i d;rw[d];exact h)|cases h
def wL (P:Program) (a:Ek) (h:AH) (q:Value->Prop):Op->Prop
 |.move x=>vI P a x q
 |.assign x=>vI P a x q
 |.pick c x y=>vI P a c fun c=>vI P a x fun x=>vI P a y fun y=>aY (qI c x y) q
 |.build t g=>wZ P t fun z=>(match P.underlying t with
  |some (.struct o)=>(match o.toList.all (fun f=>(P.info? f.type).isSome) with
   |true=>Lu P a (plS P o) g.toList fun l=>aY (oD z l) fun c=>q (.agg ⟨c⟩)
   |false=>hF)
  |some (.array _ e)=>S9 P e fun n=>Lu P a (plA n) g.toList fun l=>aY (oD z l) fun c=>q (.agg ⟨c⟩)
  |_=>hF)
 |.load t x=>vI P a x fun x=>(match iQ P t with
  |some true=>S9 P t fun n=>aY (tU h n x) q
  |some false=>aY (oM h x) q
  |none=>hF)
 |.nilCheck x=>vI P a x fun x=>aY (lN x) q
 |.binOp op t x y _=>vI P a x fun u=>vI P a y fun v=>wB P op t x y u v q
 |.unOp op _ x=>vI P a x fun x=>aY (Pc op x) q
 |.convert s d x=>vI P a x fun x=>(match P.underlying s with
  |some .string=>(match P.underlying d with
   |some (.int k)=>aY (lS k x) q
   |some .string=>aY (oS x) q
   |_=>hF)
  |some (.slice e)=>(match P.underlying d with
   |some .string=>(match P.underlying e with
    |some (.int .u8)=>aY (strOf h x) q
    |_=>hF)
   |_=>hF)
  |some _=>(match P.underlying d with
   |some (.int k)=>aY (lS k x) q
   |_=>hF)
  |none=>hF)
 |.makeInterface t x=>vI P a x fun x=>(match P.underlying t with
  |some (.interface _)=>hF
  |some _=>q (.iface t x)
  |none=>hF)
 |.makeFunc B first b=>(match B with
  |.func f=>V6 P a first.toList fun x=>V6 P a b.toList fun y=>q (.func (.func f) ⟨x⟩ ⟨y⟩)
  |_=>hF)
 |.slice t x r p A=>vI P a x fun x=>aBl P a r fun r=>aBl P a p fun p=>aBl P a A fun A=>(match P.underlying t with
  |some (.slice e)=>S9 P e fun n=>aY (uU n h x r p A) q
  |some (.array n e)=>S9 P e fun m=>aY (S4 n m x r p A) q
  |some .string=>(match A with
   |none=>aY (S7 x r p) q
   |some _=>hF)
  |_=>hF)
 |.fieldAddr s x f=>vI P a x fun x=>(match P.underlying s with
  |some (.struct o)=>(match o[f]? with
   |some ⟨_,t,j,_,_,_,_⟩=>S9 P t fun n=>(match Nat.beq n 0 with
    |true=>hF
    |false=>aY (gO j x) q)
   |none=>hF)
  |_=>hF)
 |.field t x f=>vI P a x fun x=>(match P.underlying t with
  |some (.struct o)=>(match o[f]? with
   |some ⟨_,t,j,_,_,_,_⟩=>(match iQ P t with
    |some true=>S9 P t fun n=>aY (nD j n x) q
    |some false=>aY (nQ j x) q
    |none=>hF)
   |none=>hF)
  |_=>hF)
 |.indexAddr t x i=>vI P a x fun x=>vI P a i fun i=>(match P.underlying t with
  |some (.array n e)=>S9 P e fun m=>aY (mM n m x i) q
  |some (.slice e)=>S9 P e fun m=>aY (kA m x i) q
  |_=>hF)
 |.index t x i=>vI P a x fun x=>vI P a i fun i=>(match P.underlying t with
  |some (.array n e)=>S9 P e fun m=>(match iQ P e with
   |some true=>aY (O1 n m x i) q
   |some false=>aY (Le n m x i) q
   |none=>hF)
  |some .string=>aY (Ta x i) q
  |_=>hF)
 |.extract t i=>vI P a t fun t=>aY (oP i t) q
 |.lookup t x ix ok=>vI P a x fun x=>vI P a ix fun ix=>(match Gf P t with
  |some e=>(match zeroV P e with
   |some z=>aY (lkV z h x ix ok) q
   |none=>hF)
  |none=>hF)
 |_=>hF
theorem aI2 {a:Ek} {env:List Value} (d:eW a env) {h:AH} {q:Value->Prop} {op:Op} (b:wL P a h q op):iT P (cQ P env) h q op:=by
 unfold wL at b;split at b;case h_1=>exact eT d b
 case h_2=>exact eT d b
 case h_3=>exact eT d (eT d (eT d b))
 case h_4=>
  obtain⟨z,y,b⟩:=nf b;unfold iT;simp only[y];split at b;rename_i p;simp only[p];split at b;rename_i j;rw[Array.all_toList] at j;simp only[j,if_true];obtain⟨r,g,o⟩:=Dw d aJi b;grind;cases b;rename_i e p;simp only[p];obtain⟨v,b⟩:=rJ b;simp only[v,if_true];obtain⟨r,g,o⟩:=Dw (pl:=fun i=>some (i*P.cellsOf e,P.cellsOf e)) d (fun i k x=>⟨_,_,rfl,x⟩) b;grind;cases b
 case h_5=>
  have b:=eT d b;unfold iT;split at b;rename_i p;simp only[p];exact(rJ b).2;grind;cases b
 case h_6=>exact eT d b
 case h_7=>exact aLr (eT d (eT d b))
 case h_8=>exact eT d b
 case h_9=>
  have b:=eT d b;unfold iT;split at b;rename_i f;simp only[f];split at b<;>first|(rename_i m;simp only[m];exact b)|cases b
  rename_i f;simp only[f];split at b;rename_i m;simp only[m];split at b<;>first|(rename_i m;simp only[m];exact b)|cases b
  cases b;rename_i g o f;simp only[f];split at b<;>first|(rename_i m;simp only[m];exact b)|cases b
  cases b
 case h_10=>
  have b:=eT d b;unfold iT;split at b;cases b;grind;cases b
 case h_11=>
  unfold iT;split at b;have b:=B8 d (B8 d b);simpa only[List.map_toArray,<-Array.toList_map] using b;cases b
 case h_12=>
  have b:=Zb d (Zb d (Zb d (eT d b)));unfold iT;split at b;rename_i f;simp only[f];obtain⟨g,o⟩:=rJ b;grind;rename_i f;simp only[f];obtain⟨g,o⟩:=rJ b;grind;rename_i f;simp only[f];split;exact b;exact b.elim;cases b
 case h_13=>
  have b:=eT d b;unfold iT;split at b;rename_i f;simp only[f];split at b;rename_i s;simp only[s];obtain⟨_,b⟩:=rJ b;split at b;cases b;rename_i t;rw[aN9 (fun e=>by rw[e] at t;cases t)];exact b;cases b;cases b
 case h_14=>
  have b:=eT d b;unfold iT;split at b;rename_i f;simp only[f];split at b;rename_i s;simp only[s];split at b;rename_i u;simp only[u];exact(rJ b).2;grind;cases b;cases b;cases b
 case h_15=>
  have b:=eT d (eT d b);unfold iT;split at b;rename_i f;simp only[f];obtain⟨g,o⟩:=rJ b;grind;rename_i f;simp only[f];obtain⟨g,o⟩:=rJ b;grind;cases b
 case h_16=>
  have b:=eT d (eT d b);unfold iT;split at b;rename_i f;simp only[f];obtain⟨g,b⟩:=rJ b;simp only[g,if_true];split at b;grind;grind;cases b;grind;cases b
 case h_17=>exact eT d b
 case h_18=>
  have b:=eT d (eT d b);unfold iT;split at b;rename_i f;simp only[f];split at b;grind;cases b;cases b
 case h_19=>cases b
end
end Go.Ab
end
section
namespace Go.Ab
noncomputable section
variable {P:Program} {K:FuncId->List Value->Option iJ}
def isI (v:Value) (p:Prop):Prop:=∃k n,v= .int k n/\p
theorem aJf {n:Int} {p:Prop} (b:p):isI (I n) p:=⟨_,n,rfl,b⟩
def lits:List Nat:=[0,1,2,3,4,5,6,7,8,9,10,11,12,13,14,15,16,17,18,19,20,21,22,23,24,25,26,27,28,29,30,31,32,33,34,35,36,37,38,39,40,41,42,43,44,45,46,47,48,49,50,51,52,53,54,55,56,57,58,59,60,61,62,63,64,65,66,67,68,69,70,71,72,73,74,75,76,77,78,79,80,81,82,83,84,85,86,87,88,89,90,91,92,93,94,95,96,97,98,99]
def nK (n:Nat) (k:Nat->Prop):Prop:=match lits[n]? with
 |some m=>(match Nat.beq m n with
  |true=>k m
  |false=>hF)
 |none=>k n
theorem oq {n:Nat} {k:Nat->Prop} (h:nK n k):k n:=by
 unfold nK at h;split at h;split at h;simp_all;cases h;exact h
def bzW (P:Program) (t:TypeId) (k:Nat->Prop):Prop:=match P.info? t with
 |some ⟨_,_,_,n,_,_,_,_,_,_⟩=>k n
 |none=>hF
theorem aE7 {t:TypeId} {k:Nat->Prop} (h:bzW P t k):k (P.bytesOf t):=by
 unfold bzW at h;split at h;rename_i b;unfold Program.bytesOf;rw[b];exact h;cases h
def wBI (P:Program) (h:AH) (q:Value->AH->Prop) (f:Array TypeId):Builtin->List Value->Prop
 |.len,[x]=>match(f[0]?).bind P.underlying with
  |some .string=>aY (vN x) fun v=>q v h
  |some (.slice _)=>aY (iK x) fun v=>q v h
  |some (.array n _)=>q (I n) h
  |some (.pointer e)=>(match P.underlying e with
   |some (.array n _)=>q (I n) h
   |_=>hF)
  |some (.map _ _)=>aY (pc h x) fun v=>q v h
  |_=>hF
 |.append,[s,x]=>match(f[0]?).bind P.underlying with
  |some (.slice e)=>(match Ih P f with
   |true=>wZ P e fun _=>S9 P e fun n=>bzW P e fun m=>aY (iH n m e h s x) fun r=>(match r with|(v,b)=>q v b)
   |false=>hF)
  |_=>hF
 |.copy,[d,x]=>match(f[0]?).bind P.underlying with
  |some (.slice e)=>S9 P e fun n=>aY (copyV n h d x) fun r=>(match r with|(v,b)=>q v b)
  |_=>hF
 |.clear,[x]=>match(f[0]?).bind P.underlying with
  |some (.slice e)=>wZ P e fun z=>aY (gW z h x) fun r=>(match r with|(v,b)=>q v b)
  |_=>hF
 |.min,[x,y]=>aY (wJ x y) fun v=>q v h
 |.max,[x,y]=>aY (yB x y) fun v=>q v h
 |.delete,[m,k]=>(match f[0]? with
  |some t=>(match Gf P t with
   |some _=>aY (P0 h m k) fun b=>q (.tuple #[]) b
   |none=>hF)
  |none=>hF)
 |.cap,[x]=>match(f[0]?).bind P.underlying with
  |some (.slice _)=>aY (aHn x) fun v=>q v h
  |_=>hF
 |_,_=>hF
theorem aDt {h:AH} {q:Value->AH->Prop} {i:Array TypeId} {b:Builtin} {l:List Value} (d:wBI P h q i b l):vS P h q i b l:=by
 unfold wBI at d;unfold vS;split at d;split at d<;>(rename_i f;simp only[f];exact d);split at d;rename_i f;simp only[f];split at d;rename_i j;obtain⟨z,g,d⟩:=nf d;obtain⟨_,d⟩:=rJ d;rw[aNa ⟨j,by rw[g];rfl⟩];exact aE7 d;cases d;cases d;split at d;rename_i f;simp only[f];obtain⟨k,d⟩:=rJ d;grind;cases d;split at d;rename_i f;simp only[f];obtain⟨z,g,d⟩:=nf d;grind;cases d;exact d;exact d;split at d;rename_i f;simp only[f];split at d;grind;cases d;cases d;split at d;rename_i f;simp only[f];exact d;cases d;cases d
def wH (P:Program) (K:FuncId->List Value->Option iJ) (a:Ek) (h:AH) (q:Value->AH->Prop):Op->Prop
 |.store t p x=>S9 P t fun n=>vI P a p fun p=>vI P a x fun x=>aY (tZ h n p x) fun d=>q undef d
 |.call c=>(match c.callee with
  |.builtin b=>V6 P a c.args.toList fun l=>wBI P h q c.argTypes b l
  |.value (.func g)=>(match fX P g with
   |true=>V6 P a c.args.toList fun l=>Cl P K g l h q
   |false=>hF)
  |.value f=>vI P a f fun f=>V6 P a c.args.toList fun l=>yG P K f l h q
  |.invoke _ _=>hF)
 |.mapUpdate t m k x=>(match Gf P t with
  |some _=>vI P a m fun m=>vI P a k fun k=>vI P a x fun x=>aY (Ps h m k x) fun d=>q undef d
  |none=>hF)
 |_=>hF
theorem aEt {a:Ek} {env:List Value} (d:eW a env) {h:AH} {q:Value->AH->Prop} {op:Op} (b:wH P K a h q op):Be P K (cQ P env) h q op:=by
 unfold wH at b;unfold Be;split at b;obtain⟨g,b⟩:=rJ b;simp only[g,if_true];exact eT d (eT d b);split at b;rename_i f;simp only[f];exact aDt (B8 d b);rename_i f;simp only[f];split at b;rename_i i;simp only[i,if_true];exact B8 d b;cases b;rename_i f;simp only[f];exact B8 d (eT d b);cases b;split at b;rename_i j;simp only[j];exact eT d (eT d (eT d b));cases b;cases b
def wA (P:Program) (a:Ek) (mk:mR->(Nat->AH->Prop)->Prop) (Fa:Nat->TypeId->List Value->Nat->Nat->(Value->AH->Prop)->Prop) (q:Value->AH->Prop):Op->Prop
 |.alloc e=>wZ P e fun z=>mk (.cells z e (0,0) true) fun p d=>q (pt p 0 0) d
 |.box e x=>vI P a x fun x=>aY (jD e x) fun b=>mk b fun p d=>q (pt p 0 0) d
 |.buildSlice t len f=>match P.underlying t with
  |some (.slice e)=>wZ P e fun z=>S9 P e fun n=>(match Nat.ble (len*n) 16777216 with
   |true=>Lu P a (plA n) f.toList fun g=>fcL (dY z len) fun i=>aY (oD i g) fun l=>Fa n e l len len q
   |false=>hF)
  |_=>hF
 |.makeSlice t l c=>match P.underlying t with
  |some (.slice e)=>wZ P e fun z=>S9 P e fun n=>bzW P e fun m=>vI P a l fun l=>vI P a c fun c=>aY (aKw m l c) fun r=>Fa n e (dY z r.2) r.1 r.2 q
  |_=>hF
 |.makeMap _ none=>mk (.map [] 0) fun p d=>q (fN p) d
 |.makeMap t (some x)=>match P.underlying t with
  |some (.map _ _)=>vI P a x fun x=>isI x (mk (.map [] 0) fun p d=>q (fN p) d)
  |_=>hF
 |_=>hF
where aKw:=Go.Ab.Fa
theorem aJ1 {a:Ek} {env:List Value} (g:eW a env) {mk:mR->(Nat->AH->Prop)->Prop} {Fa:Nat->TypeId->List Value->Nat->Nat->(Value->AH->Prop)->Prop}
  (u:∀W e l n c k,Fa W e l n c k->mk (.cells l e (0,0) true) fun p o=>k (zk n c p) o) {q:Value->AH->Prop} {op:Op} (d:wA P a mk Fa q op):
  Bf P (cQ P env) (fun b f=>mk b fun i o=>q (f i) o) op:=by
 unfold wA at d
 unfold Bf
 split at d
 .obtain⟨z,m,d⟩:=nf d;simp only[m];exact d
 .exact eT g d
 .split at d
  .rename_i j;simp only[j];obtain⟨z,m,d⟩:=nf d;obtain⟨_,d⟩:=rJ d;simp only[m];split at d
   .rename_i x;rw[aNa (Nat.le_of_ble_eq_true x)];obtain⟨r,t,d⟩:=Dw (pl:=fun i=>some (i*P.cellsOf _,P.cellsOf _)) g (fun i k y=>⟨_,_,rfl,y⟩) d;simp only[t];exact(J7 d).mono fun v s=>u _ _ _ _ _ _ s
   .cases d
  .cases d
 .split at d
  .rename_i j;simp only[j];obtain⟨z,m,d⟩:=nf d;obtain⟨_,d⟩:=rJ d;simp only[m];exact(eT g (eT g (aE7 d))).mono fun v s=>u _ _ _ _ _ _ s
  .cases d
 .exact d
 .split at d
  .rename_i j;simp only[j];obtain⟨k,n,t,d⟩:=eT g d;grind
  .cases d
 .cases d
end
end Go.Ab
end
section
namespace Go.Ab
variable {P:Program} {K:FuncId->List Value->Option iJ} {G:Bg} {h:AH} {L L' M:List HP}
abbrev ME:=Nat×Value×Nat
def rG (es:List ME):List (Value×Value×Nat):=es.map fun x=>(I x.1,x.2.1,x.2.2)
def S6 (n:Int):List ME->Nat->Option (Nat×Value)
 |[],_=>none
 |x::b,i=>if n=(x.1:Int) then some (i,x.2.1) else S6 n b (i+1)
theorem Aq (n:Int):∀(es:List ME) (i:Nat),wM .i64 n (rG es) i=some (S6 n es i)
 |[],i=>rfl
 |x::es,i=>by
  show(if IntKind.i64=IntKind.i64 then(if n=(x.1:Int) then some (some (i,x.2.1)) else wM .i64 n (rG es) (i+1)) else none)=_;rw[aNa rfl,Aq n es (i+1)];by_cases e:n=(x.1:Int);rw[aNa e,S6,aNa e];rw[aN9 e,S6,aN9 e]
structure MOk (es:List ME) (clock:Nat):Prop where
 nd:(es.map (·.1)).Nodup
 st:∀x∈es,x.2.2<clock
 sd:(es.map (·.2.2)).Nodup
 kb:∀x∈es,x.1<16
def jU (es:List ME) (k:Nat):Option Value:=(S6 k es 0).map (·.2)
theorem P6 {n:Int}:∀{es:List ME} {i j:Nat} {v:Value},S6 n es i=some (j,v)->i<=j/\∃x,es[j - i]?=some x/\(x.1:Int)=n/\x.2.1=v
 |[],i,j,v,h=>by cases h
 |x::es,i,j,v,h=>by
  unfold S6 at h;split at h;grind;obtain⟨b,y,d,f,g⟩:=P6 h;grind
theorem Pq {n:Int}:∀{es:List ME} {i:Nat},(S6 n es (i+1)).map (·.2)=(S6 n es i).map (·.2)
 |[],_=>rfl
 |x::es,i=>by
  unfold S6;split;rfl;exact Pq
theorem hZ {x:ME} {es:List ME} {k:Nat}:jU (x::es) k=if k=x.1 then some x.2.1 else jU es k:=by
 unfold jU;rw[S6];by_cases e:k=x.1;grind;rw[aab,aN9 e];exact Pq
theorem lz {x:ME} {es:List ME} {k:Nat}:jU (es++[x]) k=(jU es k).or (if k=x.1 then some x.2.1 else none):=by
 induction es with
 |nil=>rw[List.nil_append,hZ];simp[jU,S6]
 |cons y es b=>rw[List.cons_append,hZ,hZ,b];split<;>simp
theorem xU {es:List ME} {k:Nat}:jU es k=none↔k∉es.map (·.1):=by
 induction es with
 |nil=>simp[jU,S6]
 |cons y es b=>rw[hZ];split<;>simp_all
theorem j2 {es:List ME} {i:Nat} {x:ME} {v:Value} {k:Nat} (b:es[i]?=some x) (d:(es.map (·.1)).Nodup):jU (es.modify i fun e=>(x.1,v,e.2.2)) k=if k=x.1 then some v else jU es k:=by
 induction es generalizing i with
 |nil=>simp at b
 |cons y es f=>
  simp only[List.map_cons,List.nodup_cons] at d;cases i with
  |zero=>
   simp only[List.getElem?_cons_zero,Option.some.injEq] at b;subst b;rw[List.modify_zero_cons,hZ,hZ];split<;>rfl
  |succ i=>
   simp only[List.getElem?_cons_succ] at b;have g:x.1≠y.1:=fun e=>d.1 (e▸List.mem_map.2 ⟨x,List.mem_of_getElem? b,rfl⟩);rw[List.modify_succ_cons,hZ,hZ,f b d.2];grind
theorem pj {es:List ME} {i:Nat} {x:ME} {k:Nat} (b:es[i]?=some x) (d:(es.map (·.1)).Nodup):jU (es.eraseIdx i) k=if k=x.1 then none else jU es k:=by
 induction es generalizing i with
 |nil=>simp at b
 |cons y es f=>
  simp only[List.map_cons,List.nodup_cons] at d;cases i with
  |zero=>
   simp only[List.getElem?_cons_zero,Option.some.injEq] at b;subst b;rw[List.eraseIdx_cons_zero,hZ];split;rename_i e;subst e;exact xU.2 d.1;rfl
  |succ i=>
   simp only[List.getElem?_cons_succ] at b;have g:x.1≠y.1:=fun e=>d.1 (e▸List.mem_map.2 ⟨x,List.mem_of_getElem? b,rfl⟩);rw[List.eraseIdx_cons_succ,hZ,hZ,f b d.2];grind
def I6 {α:Type} (f:Nat->α) (i:Nat) (v:α):Nat->α:=fun j=>if j=i then v else f j
def iD (b:Nat) (f:Nat->Option Value):HP:=tV fun x:List ME×Nat=>sp [uH (MOk x.1 x.2/\∀k,jU x.1 k=f k),ot b (.map (rG x.1) x.2)]
theorem Am {b:Nat} {f:Nat->Option Value} (g:Hs G h (iD b f::L)):∃d cl,(MOk d cl/\∀k,jU d k=f k)/\Hs G h (ot b (.map (rG d) cl)::L):=by
 obtain⟨⟨d,cl⟩,g⟩:=g.yP;obtain⟨i,g⟩:=(Hs.unpack g).jr;exact⟨d,cl,i,g⟩
theorem sL {b:Nat} {f:Nat->Option Value} {es:List ME} {cl:Nat} (d:MOk es cl) (g:∀k,jU es k=f k) (i:Hs G h (ot b (.map (rG es) cl)::L)):Hs G h (iD b f::L):=
 Hs.vA (A:=fun x:List ME×Nat=>sp [uH (MOk x.1 x.2/\∀k,jU x.1 k=f k),ot b (.map (rG x.1) x.2)]) (es,cl) (Hs.pack (A:=[_,_]) (Hs.T2 ⟨d,g⟩ i))
theorem um {k:Nat->AH->Prop} (f:Hs G h L) (d:∀p b,Hs G b (iD p (fun _=>none)::L)->k p b):Bj h (.map [] 0) k:=
 d _ _ (sL (es:=[]) (cl:=0) ⟨by simp,by simp,by simp,by simp⟩ (fun _=>rfl) (f.aGz rfl))
theorem Jo {b:Nat} {o:mR} (d:Ja o=true) (f:Hs G h (ot b o::L)):h.get b=some o/\h.base<=b:=⟨(Hs.H3 (o':=o) d f).1,(Hs.H3 (o':=o) d f).2.1⟩
theorem aKu {b:Nat} {f:Nat->Option Value} {z:Value} {n:Int} {ok:Bool} {k:Value->Prop} (g:Hs G h L) [m:Has (iD b) L f L']
  (q:k (match(if 0<=n then f n.toNat else none) with
   |some v=>if ok then .tuple ⟨[v,.bool true]⟩ else v
   |none=>if ok then .tuple ⟨[z,.bool false]⟩ else z)):aY (lkV z h (fN b) (I n) ok) k:=by
 obtain⟨d,cl,⟨t,i⟩,g⟩:=Am (m.of g)
 obtain⟨o,_⟩:=Jo rfl g
 have r:X0 h (fN b)=some (rG d):=by unfold X0 fN;simp only[o]
 have e:(S6 n d 0).map (·.2)=if 0<=n then f n.toNat else none:=by
  split;rename_i s;have:=i n.toNat;unfold jU at this;grind;cases hx:S6 n d 0 with
  |none=>rfl
  |some p=>
   obtain⟨_,x,_,u,_⟩:=P6 (j:=p.1) (v:=p.2) hx;omega
 rw[<-e] at q
 unfold lkV
 rw[r]
 simp only[Aq]
 cases hx:S6 n d 0 with
 |none=>simp_all
 |some p=>simp_all
theorem aHc {es:List ME} {i:Nat} {x:ME} {v:Value} (b:es[i]?=some x):(es.modify i fun e=>(x.1,v,e.2.2)).map (·.1)=es.map (·.1)/\(es.modify i fun e=>(x.1,v,e.2.2)).map (·.2.2)=es.map (·.2.2):=by
 induction es generalizing i with
 |nil=>simp at b
 |cons y es d=>
  grind
theorem yi {es:List ME} {i:Nat} {x:ME} {v:Value} (b:es[i]?=some x):(rG es).modify i (fun e=>(I x.1,v,e.2.2))=rG (es.modify i fun e=>(x.1,v,e.2.2)):=by
 unfold rG;induction es generalizing i with
 |nil=>simp at b
 |cons y es d=>
  grind
theorem Tu:∀{es:List ME} {i:Nat},(rG es).eraseIdx i=rG (es.eraseIdx i)
 |[],_=>rfl
 |x::es,0=>rfl
 |x::es,i+1=>by
  show(_::(rG es).eraseIdx i)=(_::rG (es.eraseIdx i));rw[Tu]
theorem Sl {b:Nat} {f:Nat->Option Value} {i:Nat} {v:Value} {k:AH->Prop} (s:Hs G h L) [m:Has (iD b) L f L'] (V:i<16) (N:∀J,Hs G J (iD b (I6 f i (some v))::L')->k J):aY (Ps h (fN b) (I i) v) k:=by
 obtain⟨r,cl,⟨g,O⟩,s⟩:=Am (m.of s);obtain⟨Q,U⟩:=Jo rfl s;unfold Ps fN;simp only[Q,aN9 (show ¬b<h.base by omega)];unfold aB1;simp only[Aq];cases d:S6 (i:Int) r 0 with
 |none=>
  have R:jU r i=none:=by unfold jU;rw[d];rfl
  refine⟨_,rfl,N _ ?_⟩;have e:rG r++[(Value.int .i64 (i:Int),v,cl)]=rG (r++[(i,v,cl)]):=by unfold rG;grind
  rw[e];refine sL ⟨?_,?_,?_,?_⟩ ?_ (Hs.H3 rfl s).2.2;rw[List.map_append,List.nodup_append];refine⟨g.nd,by simp,?_⟩;intro a A c u e;have:c=i:=by simpa using u
  subst e;subst this;exact xU.1 R A;intro x d;rcases List.mem_append.1 d with d|d;have:=g.st x d;omega;grind;rw[List.map_append,List.nodup_append];refine⟨g.sd,by simp,?_⟩;intro a A c u e;have u:c=cl:=by simpa using u
  obtain⟨x,d,rfl⟩:=List.mem_map.1 A;have:=g.st x d;omega;intro x d;rcases List.mem_append.1 d with d|d;exact g.kb x d;grind;intro j;rw[lz];unfold I6;grind
 |some p=>
  obtain⟨_,x,t,S,T⟩:=P6 (j:=p.1) (v:=p.2) d;rw[Nat.sub_zero] at t;have o:x.1=i:=by omega
  refine⟨_,rfl,N _ ?_⟩;have:=yi (v:=v) t;rw[o] at this;rw[this];obtain⟨D,E⟩:=aHc (v:=v) t;rw[o] at D E;refine sL ⟨by rw[D];exact g.nd,?_,by rw[E];exact g.sd,?_⟩ ?_ (Hs.H3 rfl s).2.2;intro y B;have:y.2.2∈(r.modify p.1 fun e=>(i,v,e.2.2)).map (·.2.2):=List.mem_map.2 ⟨y,B,rfl⟩;rw[E] at this;obtain⟨z,C,q⟩:=List.mem_map.1 this;rw[<-q];exact g.st z C;intro y B;have:y.1∈(r.modify p.1 fun e=>(i,v,e.2.2)).map (·.1):=List.mem_map.2 ⟨y,B,rfl⟩;rw[D] at this;obtain⟨z,C,q⟩:=List.mem_map.1 this;rw[<-q];exact g.kb z C;intro j;have:=j2 (v:=v) (k:=j) t g.nd;rw[o] at this;rw[this];unfold I6;rw[O j]
theorem aFz {b:Nat} {f:Nat->Option Value} {i:Nat} {k:AH->Prop} (q:Hs G h L) [m:Has (iD b) L f L'] (z:∀t,Hs G t (iD b (I6 f i none)::L')->k t):aY (P0 h (fN b) (I i)) k:=by
 obtain⟨o,cl,⟨g,A⟩,q⟩:=Am (m.of q);obtain⟨B,E⟩:=Jo rfl q;unfold P0 fN;simp only[B,aN9 (show ¬b<h.base by omega),Aq];cases hx:S6 (i:Int) o 0 with
 |none=>
  have J:jU o i=none:=by unfold jU;rw[hx];rfl
  refine⟨_,rfl,z _ (sL g (fun j=>?_) (Hs.H3 rfl q).2.2)⟩;unfold I6;grind
 |some p=>
  obtain⟨_,x,u,C,D⟩:=P6 (j:=p.1) (v:=p.2) hx;rw[Nat.sub_zero] at u;have r:x.1=i:=by omega
  have e:(rG o).eraseIdx p.1=rG (o.eraseIdx p.1):=Tu;refine⟨_,rfl,z _ ?_⟩;rw[e];have d:=List.eraseIdx_sublist o p.1;refine sL ⟨(d.map _).nodup g.nd,fun y s=>g.st y (d.mem s),(d.map _).nodup g.sd,fun y s=>g.kb y (d.mem s)⟩ (fun j=>?_) (Hs.H3 rfl q).2.2;rw[pj u g.nd,r,A j];rfl
theorem aGc {b:Nat} {f:Nat->Option Value} {k:Value->Prop} (d:Hs G h L) [m:Has (iD b) L f L'] (j:∀n:Nat,k (I n)):aY (pc h (fN b)) k:=by
 obtain⟨g,cl,_,d⟩:=Am (m.of d);obtain⟨i,_⟩:=Jo rfl d;refine⟨I (rG g).length,?_,j _⟩;unfold pc X0 fN;simp only[i];rfl
theorem Uh {x y:Int} {l:List Int}:y∈Cd x l↔y=x\/y∈l:=by
 induction l with
 |nil=>simp[Cd]
 |cons a l b=>unfold Cd;grind
theorem O9 {y:Int} {l:List Int}:y∈qA l↔y∈l:=by
 induction l with
 |nil=>simp[qA]
 |cons a l b=>simp only[qA,Uh,b,List.mem_cons]
theorem U0 {x:Int} {l:List Int} (h:l.Pairwise (·<·)) (d:x∉l):(Cd x l).Pairwise (·<·):=by
 induction l with
 |nil=>simp[Cd]
 |cons a l i=>
  simp only[List.mem_cons,not_or] at d;obtain⟨f,g⟩:=List.pairwise_cons.1 h;unfold Cd;split;refine List.pairwise_cons.2 ⟨fun y b=>?_,h⟩;grind;refine List.pairwise_cons.2 ⟨fun y b=>?_,i g d.2⟩;rcases Uh.1 b with rfl|b;omega;exact f y b
theorem Qt {l:List Int} (h:l.Nodup):(qA l).Pairwise (·<·):=by
 induction l with
 |nil=>simp[qA]
 |cons a l f=>
  obtain⟨b,d⟩:=List.nodup_cons.1 h;exact U0 (f d) fun e=>b (O9.1 e)
theorem Zl {l m:List Int} (i:l.Pairwise (·<·)) (j:m.Pairwise (·<·)) (h:∀x,x∈l↔x∈m):l=m:=by
 induction l generalizing m with
 |nil=>
  cases m with
  |nil=>rfl
  |cons y m=>exact absurd ((h y).2 (by simp)) (by simp)
 |cons x l p=>
  cases m with
  |nil=>exact absurd ((h x).1 (by simp)) (by simp)
  |cons y m=>
   obtain⟨f,k⟩:=List.pairwise_cons.1 i;obtain⟨g,o⟩:=List.pairwise_cons.1 j;have e:x=y:=by
    have b:=(h x).1 (by simp);have d:=(h y).2 (by simp);rcases List.mem_cons.1 b with e|b;exact e;rcases List.mem_cons.1 d with e|d;exact e.symm;have:=g x b;have:=f y d;omega
   grind
def B0 (f:Nat->Option Value):List Nat:=(List.range 16).filter fun k=>(f k).isSome
theorem Xi (es:List ME):keysOf (rG es)=some (es.map fun x=>(x.1:Int)):=by
 induction es with
 |nil=>rfl
 |cons x es b=>
  show(keysOf (rG es)).map (fun l=>(x.1:Int)::l)=_;rw[b];rfl
theorem Qf (n:Nat):(List.range n).Pairwise (·<·):=List.pairwise_lt_range
theorem G0 {es:List ME} {cl:Nat} {f:Nat->Option Value} (i:MOk es cl) (j:∀k,jU es k=f k):qA (es.map fun x=>(x.1:Int))=(B0 f).map fun k:Nat=>(k:Int):=by
 refine Zl (Qt ?_) ?_ fun x=>?_;have:=i.nd;rw[show(es.map fun x=>(x.1:Int))=(es.map (·.1)).map fun k:Nat=>(k:Int) by rw[List.map_map];rfl];exact List.Pairwise.map _ (fun a b d=>by omega) this;refine List.Pairwise.map (R:=(·<·)) _ (fun a b d=>by omega) ?_;exact List.Pairwise.filter _ (Qf 16);rw[O9];simp only[List.mem_map,B0,List.mem_filter,List.mem_range];constructor;rintro ⟨y,m,rfl⟩;refine⟨y.1,⟨i.kb y m,?_⟩,rfl⟩;rw[<-j];cases hl:jU es y.1 with
 |none=>exact absurd (List.mem_map.2 ⟨y,m,rfl⟩) (xU.1 hl)
 |some v=>rfl
 rintro ⟨k,⟨_,g⟩,rfl⟩;rw[<-j] at g;have:k∈es.map (·.1):=by
  refine Classical.byContradiction fun o=>?_;rw[xU.2 o] at g;cases g
 grind
theorem Kz {cl:Nat}:∀{es:List ME},(∀x∈es,x.2.2<cl)->(es.map (·.2.2)).Nodup->As cl (rG es)=true
 |[],_,_=>rfl
 |x::es,h,b=>by
  simp only[List.map_cons,List.nodup_cons] at b;have g:=Kz (fun y d=>h y (List.mem_cons_of_mem _ d)) b.2;show(Nat.blt x.2.2 cl&&((rG es).all fun y=> !Nat.beq y.2.2 x.2.2)&&As cl (rG es))=true;rw[g,Bool.and_true,Bool.and_eq_true];refine⟨Nat.ble_eq_true_of_le (h x (by simp)),?_⟩;rw[List.all_eq_true];intro y d;obtain⟨z,f,rfl⟩:=List.mem_map.1 d;have:z.2.2≠x.2.2:=fun e=>b.1 (e▸List.mem_map.2 ⟨z,f,rfl⟩);cases hb:Nat.beq z.2.2 x.2.2 with
  |false=>rfl
  |true=>simp_all
theorem U2:∀{l:List Nat},(∀x∈l,x<16)->l.Nodup->N8 (l.map fun k:Nat=>(k:Int))=true
 |[],_,_=>rfl
 |x::l,h,d=>by
  obtain⟨i,b⟩:=List.nodup_cons.1 d;have g:=U2 (fun y f=>h y (List.mem_cons_of_mem _ f)) b;show((Lit.int .i64 (x:Int)).wf&&((l.map fun k:Nat=>(k:Int)).all fun y=> !(y==(x:Int)))&&N8 (l.map fun k:Nat=>(k:Int)))=true;rw[g,Bool.and_true,Bool.and_eq_true];refine⟨?_,?_⟩;have:x=0\/x=1\/x=2\/x=3\/x=4\/x=5\/x=6\/x=7\/x=8\/x=9\/x=10\/x=11\/x=12\/x=13\/x=14\/x=15:=by have:=h x (by simp);omega
  rcases this with rfl|rfl|rfl|rfl|rfl|rfl|rfl|rfl|rfl|rfl|rfl|rfl|rfl|rfl|rfl|rfl<;>rfl;grind
theorem vc {x:Int} {l:List Int}:(Cd x l).length=l.length+1:=by
 induction l with
 |nil=>rfl
 |cons a l b=>unfold Cd;split<;>simp[b]
theorem j8 {l:List Int}:(qA l).length=l.length:=by
 induction l with
 |nil=>rfl
 |cons a l b=>rw[qA,vc,b];rfl
theorem aAt {es:List ME} {cl:Nat} (b:MOk es cl):es.length<=16:=by
 have h:=congrArg List.length (G0 (f:=jU es) b fun _=>rfl);rw[j8,List.length_map,List.length_map] at h;rw[h];have:=List.length_filter_le (fun k=>(jU es k).isSome) (List.range 16);rw[List.length_range] at this;exact this
theorem A1 {f:FuncId} {args:List Value} {F:AH->Option (Value×AH)} {v:Value} {h':AH} {Q:Value->AH->Prop} (b:K f args=some (.host F)) (hF:F h=some (v,h')) (d:Q v h'):Cl P K f args h Q:=by
 refine⟨1,(⟨.iR,[],[],v⟩,h'),?_,d⟩;show iS P K (fun t h=>run P K 0 t h) f args h=_;unfold iS;rw[b];simp only[hF,Option.map_some]
theorem sa {f:FuncId} {args:List Value} {b c:Nat} {e e2:TypeId} {d:Nat->Option Value} {Q:Value->AH->Prop} (T:K f args=some (.host (Ay e c))) (V:Hs G h (aF c 0 [fN b]::mt c (e2,true,1)::iD b d::L))
  (U:∀a E N,Hs G N (cU 1 e a E ((B0 d).length,(B0 d).map fun k:Nat=>I k)::iD b d::L)->Q (.slice a (B0 d).length E) N):Cl P K f args h Q:=by
 have m:=V
 obtain⟨p,cl,⟨j,X⟩,D⟩:=Am ((V.perm ((List.Perm.swap _ _ _).cons _)).perm (List.Perm.swap _ _ _))
 obtain⟨Z,hb⟩:=Jo rfl D
 have g:∃J,h.get c=some (.cells [fN b] J (0,0) true):=by
  obtain⟨r,r2,hr,B,hd,hi,t⟩:=m.fst;obtain⟨r3,r4,C,β,s,rfl⟩:=B;cases hr;cases C;obtain⟨i1,i2⟩:=(cH.eY s).1 t;obtain⟨_,c',O,Y⟩:=i1.mt c e2 true 1 (by simp);obtain⟨_,c2,e3,x3,R,S⟩:=hi.cell c 0 (fN b) (by simp[pC]);rw[O] at R;cases R;refine⟨e2,?_⟩;rw[O];obtain⟨v,rfl⟩:=List.length_eq_one_iff.1 Y;simp only[List.getElem?_cons_zero,Option.some.injEq] at S;rw[S]
 obtain⟨J,g⟩:=g
 have u:=G0 j X
 have hF:Ay e c h=some (Jm h e (qA (p.map fun x=>(x.1:Int)))):=by
  unfold Ay;simp only[g,fN,Z,Xi];rw[aNa];rw[Bool.and_eq_true,Bool.and_eq_true];refine⟨⟨?_,Kz j.st j.sd⟩,?_⟩;have:=aAt j;rw[List.length_map];exact Nat.ble_eq_true_of_le (by omega);rw[show(p.map fun x=>(x.1:Int))=(p.map (·.1)).map fun k:Nat=>(k:Int) by rw[List.map_map];rfl];exact U2 (fun x hx=>by obtain⟨y,hy,rfl⟩:=List.mem_map.1 hx;exact j.kb y hy) j.nd
 rw[u] at hF
 have o:Hs G h (iD b d::L):=m.tail.tail
 unfold Jm at hF
 cases hkf:B0 d with
 |nil=>
  rw[hkf] at hF
  refine A1 T hF ?_
  have:=U none 0 h
  rw[hkf] at this
  exact this (fG o)
 |cons x l=>
  rw[hkf] at hF
  simp only[List.map_cons,List.isEmpty_cons,Bool.false_eq_true,if_false] at hF
  refine A1 T hF ?_
  have i:=U (some ⟨h.next,0,none⟩) (B0 d).length (h.alloc (.cells (((B0 d).map fun k:Nat=>(k:Int)).map (Value.int .i64)) e (0,0) false))
  rw[hkf] at i
  simp only[List.length_cons,List.map_cons,List.length_map] at i ⊢
  refine i ?_
  have hn:=o.new (c:=Value.int .i64 (x:Int)::((l.map fun k:Nat=>(k:Int)).map (Value.int .i64))) (e:=e) (x:=false)
  refine Hs.join (A:=[_,_]) hn fun q z=>?_
  have z:=qT z
  refine⟨by simp,?_,.inr (.inr ⟨Nat.le_refl _,h.next,[],[],false,rfl,by simp,?_⟩)⟩
  .simp[dV]
  .rw[z];simp[List.map_map,Function.comp_def]
end Go.Ab
end
section
namespace Go.Ab
variable {P:Program} {K:FuncId->List Value->Option iJ} {G:Bg} {h:AH} {L L' M:List HP}
class Fx {α:Type} (enc:α->List Value) (W:outParam Nat):Prop where
 len:∀x,(enc x).length=W
 cel:∀x,(enc x).all dV=true
def eL {α:Type} (enc:α->List Value) (l:List α):List Value:=l.flatMap enc
section
variable {α:Type} {enc:α->List Value} {W:Nat} [F:Fx enc W]
omit F in
@[simp] theorem aFx:eL enc []=[]:=rfl
omit F in
theorem pS {x:α} {l:List α}:eL enc (x::l)=enc x++eL enc l:=rfl
omit F in
theorem uh {l m:List α}:eL enc (l++m)=eL enc l++eL enc m:=by simp[eL]
theorem C5 {l:List α}:(eL enc l).length=l.length*W:=by
 induction l with
 |nil=>simp
 |cons x l b=>rw[pS,List.length_append,F.len,b,List.length_cons,Nat.succ_mul];omega
include F in
theorem Ls {l:List α}:(eL enc l).all dV=true:=by
 induction l with
 |nil=>rfl
 |cons x l b=>rw[pS,List.all_append,F.cel,b];rfl
theorem Q5 {l:List α}:∀{i:Nat},(eL enc l).drop (i*W)=eL enc (l.drop i):=by
 induction l with
 |nil=>intro i;simp
 |cons x l b=>
  intro i;cases i with
  |zero=>simp
  |succ i=>
   rw[pS,List.drop_succ_cons,Nat.succ_mul,List.drop_append,List.drop_of_length_le (by rw[F.len];omega),F.len,show i*W+W - W=i*W by omega,b,List.nil_append]
theorem ij {l:List α}:∀{i:Nat},(eL enc l).take (i*W)=eL enc (l.take i):=by
 induction l with
 |nil=>intro i;simp
 |cons x l b=>
  intro i;cases i with
  |zero=>simp
  |succ i=>
   rw[pS,List.take_succ_cons,pS,Nat.succ_mul,List.take_append,List.take_of_length_le (by rw[F.len];omega),F.len,show i*W+W - W=i*W by omega,b]
theorem xf {l:List α} {i:Nat} {x:α} (h:l[i]?=some x):((eL enc l).drop (i*W)).take W=enc x:=by
 obtain⟨d,b⟩:=List.getElem?_eq_some_iff.1 h;rw[Q5,List.drop_eq_getElem_cons d,pS,b];exact List.take_left' (F.len x)
theorem S0 {l:List α} {i j:Nat} {x:α} {v:Value} (h:l[i]?=some x) (d:(enc x)[j]?=some v):(eL enc l)[i*W+j]?=some v:=by
 have b:=xf (enc:=enc) h;grind
theorem sx {l:List α} {i:Nat} {y:α} (b:i<l.length):dH (eL enc l) (i*W) (enc y)=eL enc (l.set i y):=by
 rw[<-qQ _ _ _ (by rw[C5,F.len,<-Nat.succ_mul];exact Nat.mul_le_mul_right _ b)];unfold bV;rw[ij,F.len,<-Nat.succ_mul,Q5,List.set_eq_take_append_cons_drop,aNa b,uh,pS,List.append_assoc]
def ls (enc:α->List Value) (W:Nat) (e:TypeId) (a:Option Addr) (c:Nat) (l:List α):HP:=cU W e a c (l.length,eL enc l)
omit F in
theorem qZ [Fx enc W] {e:TypeId} (b:Hs G h L):Hs G h (ls enc W e none 0 []::L):=fG b
variable {e:TypeId} {a:Option Addr} {c:Nat} {l:List α}
omit F in
theorem tO {x:α} (b:Hs G h (cU W e a c (1,enc x)::L)):Hs G h (ls enc W e a c [x]::L):=by
 unfold ls;rw[pS,aFx,List.append_nil];exact b
theorem qC {i:Int} {x:α} {k:Value->Prop} (g:Hs G h L) [m:Has (ls enc W e a c) L l L'] (hW:0<W) (d:0<=i) (b:l[i.toNat]?=some x) (f:k (.agg ⟨enc x⟩)):aY (kA W (.slice a l.length c) (I i)) fun p=>aY (tU h W p) k:=by
 obtain⟨j,rfl⟩:=Int.eq_ofNat_of_zero_le d;rw[Int.toNat_natCast] at b;exact aFl (e:=e) (cs:=eL enc l) (show Hs G h (cU W e a c (l.length,eL enc l)::L') from m.of g) hW (List.getElem?_eq_some_iff.1 b).1 (xf b) (F.len x) f
theorem xy {i:Int} {j:Nat} {x:α} {u:Value} {k:Value->Prop} (g:Hs G h L) [m:Has (ls enc W e a c) L l L'] (d:0<=i) (b:l[i.toNat]?=some x) (o:(enc x)[j]?=some u) (f:k u):aY (kA W (.slice a l.length c) (I i)) fun p=>aY (gO j p) fun q=>aY (oM h q) k:=by
 obtain⟨n,rfl⟩:=Int.eq_ofNat_of_zero_le d;rw[Int.toNat_natCast] at b;exact uy (e:=e) (cs:=eL enc l) (show Hs G h (cU W e a c (l.length,eL enc l)::L') from m.of g) (List.getElem?_eq_some_iff.1 b).1 (S0 b o) f
theorem ch {i:Int} {y:α} {k:AH->Prop} (j:Hs G h L) [m:Has (ls enc W e a c) L l L'] (hW:0<W) (r:0<=i) (t:i<l.length) (s:∀f,Hs G f (ls enc W e a c (l.set i.toNat y)::L')->k f):aY (kA W (.slice a l.length c) (I i)) fun p=>aY (tZ h W p (.agg ⟨enc y⟩)) k:=by
 obtain⟨n,rfl⟩:=Int.eq_ofNat_of_zero_le r;have g:n<l.length:=by omega
 have j:Hs G h (cU W e a c (l.length,eL enc l)::L'):=m.of j;obtain⟨b,o,rfl,q⟩:=j.eZ (by omega);refine dF g ?_;rw[show pt b (o+n*W) 0=pt b o (n*W) by simp[pt]];have hle:n*W+W<=(eL enc l).length:=by rw[C5,<-Nat.succ_mul];exact Nat.mul_le_mul_right _ g
 refine bC q (F.len y) (Nat.ble_eq_true_of_le hle) (F.cel y) (Nat.ble_eq_true_of_le (by omega)) fun f d=>?_;rw[sx g] at d;have:=s f;rw[Int.toNat_natCast] at this;refine this ?_;unfold ls;rw[List.length_set];exact Hs.nH d (by rw[C5,List.length_set]) Ls
omit F in
theorem rR [Fx enc W] {bytes c2:Nat} {a2:Option Addr} {l2:List α} {k:Value×AH->Prop} (r:Hs G h L) [m:Has (ls enc W e a c) L l L'] [m2:Has (ls enc W e a2 c2) L' l2 M] (p:(l.length+l2.length)*(bytes+1)<=2^46)
  (q:∀b d f,Hs G f (ls enc W e b d (l++l2)::ls enc W e a2 c2 l2::M)->k (.slice b (l++l2).length d,f)):aY (iH W bytes e h (.slice a l.length c) (.slice a2 l2.length c2)) k:=by
 have i:=m.of r
 have j:Hs G h (ls enc W e a2 c2 l2::ls enc W e a c l::M):=(i.perm ((m2.perm.cons _).trans (List.Perm.swap _ _ _)))
 have o:Hs G h (cU W e a c (l.length,eL enc l)::cU W e a2 c2 (l2.length,eL enc l2)::M):=j.jN
 refine nY o p fun b d f g=>?_
 have:=q b d f
 unfold ls at this
 rw[List.length_append,uh] at this
 exact this g
end
theorem aF6 {a b:Int} {k:Value->Prop} (d:k (I (if b<a then b else a))):aY (wJ (I a) (I b)) k:=⟨_,rfl,d⟩
theorem aD0 {α:Type} {enc:α->List Value} {W:Nat} {e:TypeId} {a:Option Addr} {c i j:Nat} {l:List α} {k:Value->Prop} (d:Hs G h L) [m:Has (ls enc W e a c) L l L'] (B:i<l.length) (t:i<=j) (C:j<=l.length)
  (u:∀b o,a=some ⟨b,o,none⟩->k (.slice (some ⟨b,o+i*W,none⟩) (j - i) (c - i))):aY (uU W h (.slice a l.length c) (some (I i)) (some (I j)) none) k:=by
 have d:Hs G h (cU W e a c (l.length,eL enc l)::L'):=m.of d
 have x:l.length<=c/\∃b o,a=some ⟨b,o,none⟩:=d.fi fun r v=>by
  obtain⟨_,_,⟨f,_⟩|⟨f,_⟩|⟨f,b,y,g,ex,z,_⟩⟩:=v;grind;grind;grind
 obtain⟨A,b,o,rfl⟩:=x
 refine⟨_,?_,u b o rfl⟩
 have p:jZ none c c=some c:=by simp[jZ]
 have q:jZ (some (I j)) l.length c=some j:=by simp[jZ];omega
 have s:jZ (some (I i)) 0 j=some i:=by simp[jZ];omega
 unfold uU
 simp only[p,q,s,Option.isNone_some,Bool.false_and,Bool.false_eq_true,if_false,Option.isSome_none]
 rw[aae,aab,cT]
theorem aG4 {α:Type} {enc:α->List Value} {W:Nat} [F:Fx enc W] {e:TypeId} {b o c n:Nat} {l:List α} {x:α} {k:Value->Prop} (d:Hs G h L) [m:Has (ls enc W e (some ⟨b,o,none⟩) c) L l L'] (hW:0<W) (g:l[n]?=some x) (j:k (.agg ⟨enc x⟩)):aY (tU h W (pt b (o+n*W) 0)) k:=by
 have d:Hs G h (cU W e (some ⟨b,o,none⟩) c (l.length,eL enc l)::L'):=m.of d;have q:=(List.getElem?_eq_some_iff.1 g).1;obtain⟨p,r,i,f⟩:=d.eZ (by omega);cases i;rw[show pt b (o+n*W) 0=pt b o (n*W) by simp[pt]];exact aN f hW (xf g) (F.len x) j
end Go.Ab
end
namespace Go.Hm
open Go Go.Ab
section
structure bM where
 aG:Int
 bU:Int
 bK:Int
 ways:Int
 depth:Int
 entries:Int
 aL:Int
 deriving DecidableEq
def bM.list (C:bM):List Int:=[C.aG,C.bU,C.bK,C.ways,C.depth,C.entries,C.aL]
def bM.enc (C:bM):List Value:=[I C.aG,I C.bU,I C.bK,I C.ways,I C.depth,I C.entries,I C.aL]
def aHk:List Int:=[4,16,8,4,16,8,4]
def gA:List Value:=[I 4,I 16,I 8,I 4,I 16,I 8,I 4]
def bM.dz (C:bM):Nat->Nat->Int
 |0,_=>0
 |f+1,i=>if C.list.getD i 0<1\/aHk.getD i 0<C.list.getD i 0 then 10 else C.dz f (i+1)
def bM.Ok (C:bM):Prop:=(1<=C.aG/\C.aG<=4)/\(1<=C.bU/\C.bU<=16)/\(1<=C.bK/\C.bK<=8)/\(1<=C.ways/\C.ways<=4)/\(1<=C.depth/\C.depth<=16)/\(1<=C.entries/\C.entries<=8)/\(1<=C.aL/\C.aL<=4)
instance (C:bM):Decidable C.Ok:=by unfold bM.Ok;infer_instance
theorem bM.aIj (C:bM):C.dz 7 0=if C.Ok then 0 else 10:=by
 simp only[bM.dz,bM.list,aHk,List.getD_cons_zero,List.getD_cons_succ];by_cases h:C.Ok;rw[aNa h];unfold bM.Ok at h;repeat rw[aab]
 .rw[aN9 h];unfold bM.Ok at h;repeat' split
  all_goals first|rfl|(exfalso;omega)
def bM.lines (C:bM):Nat:=(C.bU*2).toNat
theorem bM.gI {C:bM} (h:C.Ok):(C.lines:Int)=C.bU*2/\2<=C.lines/\C.lines<=32:=by
 unfold bM.Ok at h;unfold bM.lines;omega
end
section
abbrev Ln:=Int×Int
def Nn (l:Ln):List Value:=[I l.1,I l.2]
def gU (n B i:Nat):Nat:=(n+B - 1 - i)/B
theorem iz {B i:Nat} (b:i<B):gU 0 B i=0:=Nat.div_eq_of_lt (by omega)
theorem Pj {n B i:Nat} (g:i<B):gU (n+1) B i=if i=n % B then gU n B i+1 else gU n B i:=by
 have b:=Nat.div_add_mod n B;have f:=Nat.mod_lt n (show 0<B by omega);unfold gU;generalize n/B=q at b;generalize n % B=r at b f ⊢;subst b;split;rename_i h;subst h;rw[show B*q+i+1+B - 1 - i=B*q+B by omega,show B*q+i+B - 1 - i=B*q+(B - 1) by omega];rw[Nat.mul_add_div (by omega),Nat.mul_add_div (by omega),Nat.div_self (by omega),Nat.div_eq_of_lt (show B - 1<B by omega)];rename_i h;rcases Nat.lt_or_ge i r with d|d;rw[show B*q+r+1+B - 1 - i=B*q+(B+(r - i)) by omega,show B*q+r+B - 1 - i=B*q+(B+(r - i - 1)) by omega];rw[Nat.mul_add_div (by omega),Nat.mul_add_div (by omega),Nat.add_div_left _ (by omega),Nat.add_div_left _ (by omega),Nat.div_eq_of_lt (show r - i<B by omega),Nat.div_eq_of_lt (show r - i - 1<B by omega)];rw[show B*q+r+1+B - 1 - i=B*q+(B+r - i) by omega,show B*q+r+B - 1 - i=B*q+(B+r - i - 1) by omega];rw[Nat.mul_add_div (by omega),Nat.mul_add_div (by omega),Nat.div_eq_of_lt (show B+r - i<B by omega),Nat.div_eq_of_lt (show B+r - i - 1<B by omega)]
theorem Iq {n B l:Nat} (hB:0<B) (d:l<n):l/B<gU n B (l % B):=by
 unfold gU;have b:=Nat.div_add_mod l B;have f:=Nat.mod_lt l hB;rw[Nat.lt_div_iff_mul_lt hB];rw[Nat.mul_comm];generalize B*(l/B)=q at b ⊢;omega
theorem S3 {B l k i:Nat} (b:i<B):k*B+i=l↔k=l/B/\i=l % B:=by
 constructor;intro h;subst h;rw[Nat.mul_comm,Nat.mul_add_div (by omega),Nat.mul_add_mod,Nat.div_eq_of_lt b,Nat.mod_eq_of_lt b];simp;rintro ⟨rfl,rfl⟩;have:=Nat.div_add_mod l B;rw[Nat.mul_comm];exact this
theorem bM.bk {C:bM} (h:C.Ok):(C.aL.toNat:Int)=C.aL/\0<C.aL.toNat/\C.aL.toNat<=4:=by unfold bM.Ok at h;omega
def M4 (B i:Nat) (mem:Nat->Ln):Nat->List Value:=fun k=>Nn (mem (k*B+i))
theorem R2 {B i:Nat} {mem:Nat->Ln} (k:Nat):(M4 B i mem k).length=2:=rfl
theorem F5 {α:Type} {f:Nat->α} {i:Nat}:bY f i (f i)=f:=by
 funext j;unfold bY;split;rename_i h;rw[h];rfl
theorem ud {B l:Nat} {mem:Nat->Ln} (hB:0<B):M4 B (l % B) mem (l/B)=Nn (mem l):=by
 unfold M4;rw[(S3 (Nat.mod_lt l hB)).2 ⟨rfl,rfl⟩]
theorem R7 {B l:Nat} {mem:Nat->Ln} {v:Ln} (hB:0<B):bY (M4 B (l % B) mem) (l/B) (Nn v)=M4 B (l % B) (bY mem l v):=by
 funext k;unfold M4 bY;have:=(S3 (l:=l) (k:=k) (Nat.mod_lt l hB));by_cases h:k=l/B;rw[aNa h,aNa (this.2 ⟨h,rfl⟩)];rw[aN9 h,aN9 (fun e=>h (this.1 e).1)]
theorem y9 {B l i:Nat} {mem:Nat->Ln} {v:Ln} (b:i<B) (h:i≠l % B):M4 B i (bY mem l v)=M4 B i mem:=by
 funext k;unfold M4 bY;rw[aN9 (fun e=>h ((S3 b).1 e).2)]
theorem ft {n B i:Nat} (hB:0<B):gU n B i<=n:=by
 unfold gU;refine Nat.le_of_lt_succ (Nat.div_lt_of_lt_mul ?_);rw[Nat.mul_succ];have:n<=B*n:=Nat.le_mul_of_pos_left _ hB;omega
def oN:Nat->Ln:=fun _=>(0,0)
end
section
structure aK where
 kind:Int
 core:Int
 line:Int
 world:Int
 state:Int
 d0:Int
 d1:Int
 Ds:Bool
 no:Int
 deriving DecidableEq
def aK.enc (n:aK):List Value:=[I n.kind,I n.core,I n.line,I n.world,I n.state,I n.d0,I n.d1,.bool n.Ds,I n.no]
def aK.zero:aK:=⟨0,0,0,0,0,0,0,false,0⟩
def eA (l:List aK):List Value:=l.flatMap aK.enc
theorem xM (l m:List aK):eA (l++m)=eA l++eA m:=by simp[eA]
@[simp] theorem Jd (n:aK) (l:List aK):eA (n::l)=n.enc++eA l:=rfl
@[simp] theorem Py:eA []=[]:=rfl
structure Row where
 owner:Int
 sh:Nat->Bool
 waits:List aK
 busy:Bool
 served:aK
 world:Int
 asked:Nat->Bool
 granted:Bool
 told:Bool
 d0:Int
 d1:Int
def Row.enc (r:Row) (a:Option Addr) (c:Nat):List Value:=
 [I r.owner,.bool (r.sh 0),.bool (r.sh 1),.bool (r.sh 2),.bool (r.sh 3),.slice a r.waits.length c,.bool r.busy,I r.served.kind,I r.served.core,I r.served.line,I r.served.world,I r.served.state,I r.served.d0,I r.served.d1,.bool r.served.Ds,I r.served.no,
   I r.world,.bool (r.asked 0),.bool (r.asked 1),.bool (r.asked 2),.bool (r.asked 3),.bool r.granted,.bool r.told,I r.d0,I r.d1]
def Row.Z4 (r:Row):List Value:=[I r.owner,.bool (r.sh 0),.bool (r.sh 1),.bool (r.sh 2),.bool (r.sh 3)]
def Row.Kq (r:Row) (a:Option Addr) (c:Nat):List Value:=
 [.slice a r.waits.length c,.bool r.busy,I r.served.kind,I r.served.core,I r.served.line,I r.served.world,I r.served.state,I r.served.d0,I r.served.d1,.bool r.served.Ds,I r.served.no,
   I r.world,.bool (r.asked 0),.bool (r.asked 1),.bool (r.asked 2),.bool (r.asked 3),.bool r.granted,.bool r.told,I r.d0,I r.d1]
theorem Row.pb (r:Row) (a:Option Addr) (c:Nat):r.enc a c=r.Z4++r.Kq a c:=rfl
def wY (f:Nat->Bool) (i:Int) (v:Bool):Nat->Bool:=fun j=>if(j:Int)=i then v else f j
def Row.free (r:Row):Row:={r with busy:=false,granted:=false,told:=false,served:=aK.zero,world:=0,d0:=0,d1:=0}
def Row.leave (r:Row) (core:Int):Row:={r with sh:=wY r.sh core false,owner:=if r.owner=core then -1 else r.owner}
def Row.holds (r:Row) (but:Int) (i:Nat):Bool:=decide ((i:Int)≠but)&&(r.sh i||decide ((i:Int)=r.owner))
theorem rm {r:Row} {x:Int} {i:Nat} (h:(i:Int)≠x) (b:r.sh i=true):r.holds x i=true:=by simp[Row.holds,h,b]
theorem zb {r:Row} {x:Int} {i:Nat} (h:(i:Int)≠x) (b:(i:Int)=r.owner):r.holds x i=true:=by
 unfold Row.holds;rw[decide_eq_true h,decide_eq_true b];simp
theorem df {r:Row} {x:Int} {i:Nat} (h:(i:Int)=x):r.holds x i=false:=by
 unfold Row.holds;rw[decide_eq_false (by simpa using h)];rfl
theorem dt {r:Row} {x:Int} {i:Nat} (h:r.sh i=false) (b:(i:Int)≠r.owner):r.holds x i=false:=by
 unfold Row.holds;rw[h,decide_eq_false b];simp
def Row.Ae (r:Row) (but:Int):Nat->Nat->Int
 |0,_=> -1
 |f+1,i=>if r.holds but i then i else r.Ae but f (i+1)
def Row.first (r:Row) (but:Int):Int:=r.Ae but 4 0
def Row.gK (r:Row) (but:Int):Nat->Nat->List Nat
 |0,_=>[]
 |f+1,i=>if r.holds but i then i::r.gK but f (i+1) else r.gK but f (i+1)
def Row.jL (r:Row) (but:Int):List Nat:=r.gK but 4 0
def Row.gP (r:Row) (l:List Nat):Row:={r with asked:=fun j=>r.asked j||l.contains j}
def gJ (line state:Int) (l:List Nat):List aK:=l.map fun(i:Nat)=>{aK.zero with kind:=11,core:=(i:Int),line:=line,state:=state}
def Row.quiet (r:Row):Bool:= !(r.asked 0||r.asked 1||r.asked 2||r.asked 3)
abbrev sV:=Row×Ln
def Row.Z9 (r:Row) (m:Ln):Ln:=if r.told then(r.d0,r.d1) else m
def Row.pF (r:Row) (line st:Int) (d:Ln):aK:=⟨8,r.served.core,line,r.world,st,d.1,d.2,false,0⟩
def Row.gH (r:Row) (line:Int) (d:Ln):Row×List aK:=
 if r.served.kind=2 then({r with owner:=r.served.core,sh:=fun _=>false,granted:=true},[r.pF line 4 d])
 else if r.first r.served.core= -1 then({r with owner:=r.served.core,sh:=wY r.sh r.served.core false,granted:=true},[r.pF line 2 d])
 else({r with sh:=wY r.sh r.served.core true,granted:=true},[r.pF line 1 d])
def valid (s:Int):Bool:=decide (0<=s/\s<5)&&decide (s≠0)
def Row.lX (r:Row) (n:aK):Row:={r with asked:=wY r.asked n.core false}
def Row.Fu (r:Row) (n:aK):Row:={r with owner:= -1,sh:=wY r.sh n.core (valid n.state)}
def Row.qW (r:Row) (n:aK):Row:={r with told:=true,d0:=n.d0,d1:=n.d1}
def Row.heard (r:Row) (n:aK):Row:=
 if r.served.kind≠1 then(r.lX n).leave n.core
 else if n.state≠3 then(if n.Ds then((r.lX n).Fu n).qW n else(r.lX n).Fu n)
 else if n.Ds then(r.lX n).qW n else r.lX n
def Row.Fm (r:Row) (m:Ln) (n:aK):Ln:=if r.served.kind≠1/\n.Ds=true then(n.d0,n.d1) else m
def Row.rest (r:Row) (line:Int) (m:Ln):Row×List aK:=
 if r.quiet then(if r.served.kind=0 then(r.free,[]) else r.gH line (r.Z9 m)) else(r,[])
def sV.Oj (x:sV) (line:Int) (n:aK):sV×List aK:=
 let m:=x.1.Fm x.2 n
 let g:=(x.1.heard n).rest line m
 ((g.1,m),g.2)
def Row.serve (r:Row) (n:aK) (world:Int):Row:={r with busy:=true,served:=n,world:=world}
def Row.getM (r:Row) (line:Int) (m:Ln):Row×List aK:=
 if r.first r.served.core≠ -1 then(r.gP (r.jL r.served.core),gJ line 0 (r.jL r.served.core)) else r.gH line (r.Z9 m)
def Row.bu (r:Row) (line:Int) (m:Ln):Row×List aK:=
 if r.owner≠ -1 then(r.gP [r.owner.toNat],gJ line 1 [r.owner.toNat]) else r.gH line (r.Z9 m)
def Row.rM (r:Row):Row:=if r.owner=r.served.core then {r with owner:= -1} else r
def Row.get (r:Row) (line:Int) (m:Ln) (n:aK) (world:Int):Row×List aK:=
 let r:=r.serve n world
 if n.kind=2 then r.getM line m else r.rM.bu line m
def Row.wait (r:Row) (n:aK):Row:={r with waits:=r.waits++[n]}
def Row.next (r:Row) (w:List aK):Row:={r with waits:=w}
def Row.Lc (r:Row) (n:aK):Row:={r with busy:=true,served:=n}
def sV.take (x:sV) (line:Int) (n:aK):sV×List aK×Int:=
 if n.kind=4 then(if x.1.granted=false\/x.1.served.core≠n.core then(x,[],16) else((x.1.free,x.2),[],0))
 else if n.kind=5 then(if x.1.asked n.core.toNat=false then(x,[],16) else let g:=sV.Oj x line n;(g.1,g.2,0))
 else((x.1.wait n,x.2),[],0)
def Ca (line:Int):aK:={aK.zero with line:=line}
def sV.aEn (x:sV) (line:Int):sV:=(x.1.wait (Ca line),x.2)
def Et (kind core line:Int):aK:={aK.zero with kind:=kind,core:=core,line:=line}
def Row.begun (r:Row) (line:Int) (m:Ln) (n:aK) (j:Int->Int×Bool):sV×List aK:=
 if n.kind=3 then((r.leave n.core,if r.owner=n.core/\n.Ds=true then(n.d0,n.d1) else m),[Et 10 n.core line])
 else if n.kind=1\/n.kind=2 then(if(j n.world).2=true then let g:=r.get line m n (j n.world).1;((g.1,m),g.2) else((r,m),[Et 9 n.core line]))
 else if r.first (-1)= -1 then((r,m),[])
 else(((r.Lc n).gP (r.jL (-1)),m),gJ line 0 (r.jL (-1)))
def sV.begin (x:sV) (line:Int) (j:Int->Int×Bool):sV×List aK×Int:=
 if x.1.busy=true then(x,[],16)
 else match x.1.waits with
  |[]=>(x,[],12)
  |n::w=>let g:=Row.begun (x.1.next w) line x.2 n j;(g.1,g.2,0)
abbrev kP:=Nat->sV
def Ee:Row:=⟨-1,fun _=>false,[],false,aK.zero,0,fun _=>false,false,false,0,0⟩
theorem G9 {r:Row} {x:Int}:∀(f i:Nat),i+f=4->(∀c∈r.gK x f i,c<4)/\(r.gK x f i).length<=f:=by
 intro f;induction f with
 |zero=>intro i g;simp[Row.gK]
 |succ f j=>
  intro i g;obtain⟨d,k⟩:=j (i+1) (by omega);unfold Row.gK;split;refine⟨fun c b=>?_,by simp;omega⟩;rcases List.mem_cons.1 b with rfl|b;omega;exact d c b;exact⟨d,by omega⟩
theorem bm {r:Row} {x:Int}:∀c∈r.jL x,c<4:=(G9 4 0 rfl).1
theorem uI {r:Row} {x:Int}:(r.jL x).length<=4:=(G9 4 0 rfl).2
def bM.has (C:bM) (l:Int):Prop:=0<=l/\l<C.lines
instance (C:bM) (l:Int):Decidable (C.has l):=by unfold bM.has;infer_instance
def fT (k:Int):Prop:=k=1\/k=2\/k=3\/k=4\/k=5
instance (k:Int):Decidable (fT k):=by unfold fT;infer_instance
def fF (C:bM) (H:kP) (n:aK):kP×List aK×Int:=
 if ¬fT n.kind then(H,[],15)
 else if(0<=n.core/\n.core<C.aG)/\C.has n.line then(bY H n.line.toNat (sV.take (H n.line.toNat) n.line n).1,(sV.take (H n.line.toNat) n.line n).2)
 else(H,[],10)
def iV (C:bM) (H:kP) (l:Int):kP×Int:=if C.has l then(bY H l.toNat (sV.aEn (H l.toNat) l),0) else(H,10)
def iA (C:bM) (H:kP) (l:Int) (j:Int->Int×Bool):kP×List aK×Int:=
 if C.has l then(bY H l.toNat (sV.begin (H l.toNat) l j).1,(sV.begin (H l.toNat) l j).2) else(H,[],10)
structure Row.Inv (r:Row):Prop where
 core:0<=r.served.core/\r.served.core<4
 owner: -1<=r.owner/\r.owner<4
 waits:∀n∈r.waits,0<=n.core/\n.core<4
def yD (C:bM) (H:kP) (N:Nat):Prop:=∀l,l<C.lines->(H l).1.Inv/\(H l).1.waits.length<=N
def Db (C:bM) (H:kP) (l:Int):Int:=if C.has l then((H l.toNat).1.waits.length:Int) else 0
def qX (n:Nat):kP:=fun i=>if i<n then(Ee,(0,0)) else({Ee with owner:=0},(0,0))
theorem im {n:Nat}:bY (qX n) n (Ee,(0,0))=qX (n+1):=by
 funext i;unfold bY qX;by_cases h:i=n;rw[aNa h,aae];rw[aN9 h];by_cases b:i<n;rw[aNa b,aae];rw[aN9 b,aab]
def aK.fits (n r:aK) (len:Nat):Prop:=
 n.line=r.line/\n.no=0/\((n.kind=8/\n.core=r.core/\len=1/\(r.kind=1\/r.kind=2))\/(n.kind=9/\n.world=0/\n.core=r.core/\len=1/\(r.kind=1\/r.kind=2))\/
  (n.kind=10/\n.world=0/\n.core=r.core/\len=1/\r.kind=3)\/(n.kind=11/\n.world=0/\n.core≠r.core/\(r.kind=1\/r.kind=2\/(r.kind=0/\n.state=0))))
end
end Go.Hm
namespace Go.Ct
open Go Go.Ab Go.Hm
section
def Ua (s:Int):Bool:=decide (1<=s/\s<=4)
def Ad (s:Int):Bool:=decide (s=2\/s=4)
def lZ (s:Int):Bool:=decide (s=3\/s=4)
def Fh (s:Int):Bool:=decide (2<=s/\s<=4)
def isS (s:Int):Bool:=decide (0<=s/\s<5)
def R5 (s:Int):Int:=if s=2 then 1 else if s=4 then 3 else s
def uF (s:Int) (w:Bool):Bool:=if w then Ad s else Ua s
structure rI where
 st:Int
 w:Int
 d:Ln
 deriving DecidableEq
def rI.enc (x:rI):List Value:=[I x.st,I x.w,I x.d.1,I x.d.2]
def rI.zero:rI:=⟨0,0,(0,0)⟩
abbrev Th:=Int×rI
def zw (t:Th):List Value:=I t.1::t.2.enc
def eE (l:List Th):List Value:=l.flatMap zw
theorem A6 (l:List Th):(eE l).length=l.length*5:=by
 induction l with
 |nil=>rfl
 |cons a t b=>simp only[eE,List.flatMap_cons,List.length_append] at b ⊢;rw[b];simp[zw,rI.enc];omega
theorem xN (l:List Th):(eE l).all dV=true:=by
 induction l with
 |nil=>rfl
 |cons a t b=>simp only[eE,List.flatMap_cons,List.all_append,Bool.and_eq_true] at b ⊢;exact⟨rfl,b⟩
theorem mg (l m:List Th):eE (l++m)=eE l++eE m:=by simp[eE]
theorem X9 (l:List Th) (i:Nat):(eE l).take (i*5)=eE (l.take i):=by
 induction l generalizing i with
 |nil=>simp[eE]
 |cons a t b=>
  cases i with
  |zero=>simp[eE]
  |succ i=>
   have:(i+1)*5=5+i*5:=by omega
   simp only[eE,List.flatMap_cons,List.take_succ_cons] at b ⊢;rw[this,List.take_append,List.take_of_length_le (by simp[zw,rI.enc])];have d:(zw a).length=5:=rfl;rw[d,show 5+i*5 - 5=i*5 by omega,b]
theorem Lw (l:List Th) (i:Nat):(eE l).drop (i*5)=eE (l.drop i):=by
 induction l generalizing i with
 |nil=>simp[eE]
 |cons a t d=>
  cases i with
  |zero=>simp[eE]
  |succ i=>
   have:(i+1)*5=5+i*5:=by omega
   simp only[eE,List.flatMap_cons,List.drop_succ_cons] at d ⊢;have b:(zw a).length=5:=rfl;rw[this,List.drop_append,List.drop_of_length_le (by rw[b];omega),b,show 5+i*5 - 5=i*5 by omega,d,List.nil_append]
theorem Wa {l:List Th} {i:Nat} {t:Th} (h:l[i]?=some t):((eE l).drop (i*5)).take 5=zw t:=by
 rw[Lw];have b:=(List.getElem?_eq_some_iff.1 h);rw[List.drop_eq_getElem_cons b.1,b.2];simp only[eE,List.flatMap_cons];exact List.take_left' rfl
def ix (no:Int):List Th->Option Nat
 |[]=>none
 |t::l=>if t.1=no then some 0 else(ix no l).map (·+1)
def qh (no:Int) (l:List Th):Int:=match ix no l with|some i=>i|none=> -1
def get (no:Int) (l:List Th):Option rI:=(l.find? fun t=>decide (t.1=no)).map (·.2)
def rem (no:Int):List Th->List Th
 |[]=>[]
 |t::l=>if t.1=no then l else t::rem no l
theorem xX {no:Int} {l:List Th} {i:Nat} (h:ix no l=some i):∃x,l[i]?=some (no,x)/\get no l=some x/\rem no l=l.take i++l.drop (i+1)/\i<l.length:=by
 induction l generalizing i with
 |nil=>cases h
 |cons t l k=>
  simp only[ix] at h;by_cases b:t.1=no;rw[aNa b] at h;cases h;exact⟨t.2,by simp[<-b],by simp[get,b],by simp[rem,b],by simp⟩;rw[aN9 b] at h;cases hx:ix no l with
  |none=>rw[hx] at h;cases h
  |some j=>
   rw[hx] at h;cases h;obtain⟨x,f,d,g,m⟩:=k hx;refine⟨x,by simpa using f,?_,?_,by simp;omega⟩;simp only[get,List.find?_cons,decide_eq_false b] at d ⊢;exact d;simp[rem,b,g]
theorem Au {no:Int} {l:List Th} (h:ix no l=none):get no l=none/\rem no l=l:=by
 induction l with
 |nil=>exact⟨rfl,rfl⟩
 |cons t l g=>
  simp only[ix] at h;by_cases b:t.1=no;rw[aNa b] at h;cases h;rw[aN9 b] at h;obtain⟨d,f⟩:=g (by simpa using h);refine⟨?_,by simp[rem,b,f]⟩;simp only[get,List.find?_cons,decide_eq_false b] at d ⊢;exact d
theorem Iu {no:Int} {l:List Th}:(rem no l).length=if(get no l).isSome then l.length - 1 else l.length:=by
 cases h:ix no l with
 |none=>obtain⟨d,b⟩:=Au h;rw[d,b];rfl
 |some i=>
  obtain⟨x,d,b,f,g⟩:=xX h;rw[b,f];simp;omega
structure lE where
 S:Nat->List Th
 al:Int
 aw:Bool
 Xe:Bool
 gl:Int
 gc:rI
 I0:Bool
def lE.new:lE:=⟨fun _=>[],0,false,false,0,rI.zero,false⟩
variable (n:Nat) (ways:Nat) (lines:Int) (core:Int)
def setOf (l:Int):Nat:=(l % (n:Int)).toNat
end
end Go.Ct
namespace Go.Ab
open Go.Ct Go.Hm
section
noncomputable section
end
end
end Go.Ab
namespace Go.Proofs
open Go.Shelf
section
def Tryz.Hg:Go.Shelf.Ren:=⟨fun|169=>60|n=>n,fun|70=>139|9=>9|0=>0|72=>141|37=>93|127=>254|3=>3|5=>5|n=>n,fun|n=>n⟩
theorem Tryz.cg:Go.Proofs.Lays.n169 Tryz.prog Tryz.Hg:={
 mixed:=by kernel_rfl
 f169:=Tryz.func60.trans (congrArg some (by kernel_rfl))
 t0:=Tryz.underlying0
 a0:=Tryz.isAgg0
 z0:=Tryz.sizeOf0
 v0:=Tryz.zeroValue0
 t3:=Tryz.underlying3
 a3:=Tryz.isAgg3
 z3:=Tryz.sizeOf3
 v3:=Tryz.zeroValue3
 t9:=Tryz.underlying9
 a9:=Tryz.isAgg9
 z9:=Tryz.sizeOf9
 v9:=Tryz.zeroValue9
 t37:=Tryz.underlying93
 a37:=Tryz.isAgg93
 z37:=Tryz.sizeOf93
 v37:=Tryz.zeroValue93
 t70:=Tryz.underlying139
 a70:=Tryz.isAgg139
 z70:=Tryz.sizeOf139
 v70:=Tryz.zeroValue139
 t72:=Tryz.underlying141
 a72:=Tryz.isAgg141
 z72:=Tryz.sizeOf141
 v72:=Tryz.zeroValue141
 t127:=Tryz.underlying254
 a127:=Tryz.isAgg254
 z127:=Tryz.sizeOf254
 v127:=Tryz.zeroValue254}
theorem Tryz.uG:Builder.Extra Tryz.prog Tryz.Hg:={
 sizeBuilder:=by kernel_rfl
 liesBuilder:=by kernel_rfl
 t5:=Tryz.underlying5
 a5:=Tryz.isAgg5
 z5:=Tryz.sizeOf5
 v5:=Tryz.zeroValue5
 infoByte:=by kernel_rfl
 cellsByte:=by kernel_rfl
 sizeByte:=by kernel_rfl
 neB5:=by decide}
open Go.RowKit in
def Tryz.Hb:Go.Shelf.Ren:=⟨fun|156=>87|165=>135|166=>56|169=>60|240=>102|241=>192|276=>158|277=>271|n=>n,fun|31=>149|9=>9|3=>3|4=>4|0=>0|20=>20|72=>141|76=>144|70=>139|37=>93|75=>143|127=>254|164=>352|5=>5|80=>148|n=>n,fun|n=>n⟩
theorem Tryz.aCp:Go.Proofs.Lays.n156 Tryz.prog Tryz.Hb:={
 mixed:=by kernel_rfl
 f156:=Tryz.func87.trans (congrArg some (by kernel_rfl))
 f165:=Tryz.func135.trans (congrArg some (by kernel_rfl))
 f166:=Tryz.func56.trans (congrArg some (by kernel_rfl))
 f169:=Tryz.func60.trans (congrArg some (by kernel_rfl))
 f240:=Tryz.func102.trans (congrArg some (by kernel_rfl))
 f241:=Tryz.func192.trans (congrArg some (by kernel_rfl))
 f276:=Tryz.func158.trans (congrArg some (by kernel_rfl))
 f277:=Tryz.func271.trans (congrArg some (by kernel_rfl))
 t0:=Tryz.underlying0
 a0:=Tryz.isAgg0
 z0:=Tryz.sizeOf0
 v0:=Tryz.zeroValue0
 t3:=Tryz.underlying3
 a3:=Tryz.isAgg3
 z3:=Tryz.sizeOf3
 v3:=Tryz.zeroValue3
 t4:=Tryz.underlying4
 a4:=Tryz.isAgg4
 z4:=Tryz.sizeOf4
 v4:=Tryz.zeroValue4
 t9:=Tryz.underlying9
 a9:=Tryz.isAgg9
 z9:=Tryz.sizeOf9
 v9:=Tryz.zeroValue9
 t20:=Tryz.underlying20
 a20:=Tryz.isAgg20
 z20:=Tryz.sizeOf20
 v20:=Tryz.zeroValue20
 t31:=Tryz.underlying149
 a31:=Tryz.isAgg149
 z31:=Tryz.sizeOf149
 v31:=Tryz.zeroValue149
 t37:=Tryz.underlying93
 a37:=Tryz.isAgg93
 z37:=Tryz.sizeOf93
 v37:=Tryz.zeroValue93
 t70:=Tryz.underlying139
 a70:=Tryz.isAgg139
 z70:=Tryz.sizeOf139
 v70:=Tryz.zeroValue139
 t72:=Tryz.underlying141
 a72:=Tryz.isAgg141
 z72:=Tryz.sizeOf141
 v72:=Tryz.zeroValue141
 t75:=Tryz.underlying143
 a75:=Tryz.isAgg143
 z75:=Tryz.sizeOf143
 v75:=Tryz.zeroValue143
 t76:=Tryz.underlying144
 a76:=Tryz.isAgg144
 z76:=Tryz.sizeOf144
 v76:=Tryz.zeroValue144
 t127:=Tryz.underlying254
 a127:=Tryz.isAgg254
 z127:=Tryz.sizeOf254
 v127:=Tryz.zeroValue254
 t164:=Tryz.underlying352
 a164:=Tryz.isAgg352
 z164:=Tryz.sizeOf352
 v164:=Tryz.zeroValue352}
theorem Tryz.Dy:Builder.Extra Tryz.prog Tryz.Hb:={
 sizeBuilder:=by kernel_rfl
 liesBuilder:=by kernel_rfl
 t5:=Tryz.underlying5
 a5:=Tryz.isAgg5
 z5:=Tryz.sizeOf5
 v5:=Tryz.zeroValue5
 infoByte:=by kernel_rfl
 cellsByte:=by kernel_rfl
 sizeByte:=by kernel_rfl
 neB5:=by decide}
open Go.RowKit in
theorem Tryz.strings_Join (bk o c:Nat) (xs:List ByteArray) (sep:ByteArray) (w:World) (b:∀(j:Nat) x,xs[j]?=some x->w.cell? ⟨bk,o+j,none⟩=some (.string x)) (g:bk<w.heap.size) (i:xs.length<=140737488355328) (d:xs.length<=c) (f:(Lib.join (xs.map (·.data.toList)) sep.data.toList).length<=140737488355328):
  Calls Tryz.prog 87 #[.slice (some ⟨bk,o,none⟩) xs.length c,.string sep] w fun e k=>e= .returned (.string ⟨(Lib.join (xs.map (·.data.toList)) sep.data.toList).toArray⟩)/\Below w.heap.size w k:=Any.strings_Join Tryz.aCp Tryz.Dy bk o c xs sep w b g i d f
def Tryz.Qr:Go.Shelf.Ren:=⟨fun|171=>86|243=>134|246=>191|283=>267|284=>268|285=>269|286=>270|129=>266|317=>334|318=>335|319=>336|320=>337|337=>376|338=>377|n=>n,fun|3=>3|9=>9|2=>2|4=>4|171=>437|0=>0|53=>436|37=>93|5=>5|173=>439|212=>498|51=>434|20=>20|213=>499|46=>380|232=>542|233=>543|n=>n,fun|17=>4|18=>10|19=>11|n=>n⟩
theorem Tryz.yn:Go.Proofs.LaysM.n171 Tryz.prog Tryz.Qr:={
 mixed:=by kernel_rfl
 f129:=Tryz.func266.trans (congrArg some (by kernel_rfl))
 f171:=Tryz.func86.trans (congrArg some (by kernel_rfl))
 f243:=Tryz.func134.trans (congrArg some (by kernel_rfl))
 f246:=Tryz.func191.trans (congrArg some (by kernel_rfl))
 f283:=Tryz.func267.trans (congrArg some (by kernel_rfl))
 f284:=Tryz.func268.trans (congrArg some (by kernel_rfl))
 f285:=Tryz.func269.trans (congrArg some (by kernel_rfl))
 f286:=Tryz.func270.trans (congrArg some (by kernel_rfl))
 f317:=Tryz.func334.trans (congrArg some (by kernel_rfl))
 f318:=Tryz.func335.trans (congrArg some (by kernel_rfl))
 f319:=Tryz.func336.trans (congrArg some (by kernel_rfl))
 f320:=Tryz.func337.trans (congrArg some (by kernel_rfl))
 f337:=Tryz.func376.trans (congrArg some (by kernel_rfl))
 f338:=Tryz.func377.trans (congrArg some (by kernel_rfl))
 t0:=Tryz.underlying0
 a0:=Tryz.isAgg0
 z0:=Tryz.sizeOf0
 v0:=Tryz.zeroValue0
 t2:=Tryz.underlying2
 a2:=Tryz.isAgg2
 z2:=Tryz.sizeOf2
 v2:=Tryz.zeroValue2
 t3:=Tryz.underlying3
 a3:=Tryz.isAgg3
 z3:=Tryz.sizeOf3
 v3:=Tryz.zeroValue3
 t4:=Tryz.underlying4
 a4:=Tryz.isAgg4
 z4:=Tryz.sizeOf4
 v4:=Tryz.zeroValue4
 t5:=Tryz.underlying5
 a5:=Tryz.isAgg5
 z5:=Tryz.sizeOf5
 v5:=Tryz.zeroValue5
 t9:=Tryz.underlying9
 a9:=Tryz.isAgg9
 z9:=Tryz.sizeOf9
 v9:=Tryz.zeroValue9
 t20:=Tryz.underlying20
 a20:=Tryz.isAgg20
 z20:=Tryz.sizeOf20
 v20:=Tryz.zeroValue20
 t37:=Tryz.underlying93
 a37:=Tryz.isAgg93
 z37:=Tryz.sizeOf93
 v37:=Tryz.zeroValue93
 t46:=Tryz.underlying380
 a46:=Tryz.isAgg380
 z46:=Tryz.sizeOf380
 v46:=Tryz.zeroValue380
 t51:=Tryz.underlying434
 a51:=Tryz.isAgg434
 z51:=Tryz.sizeOf434
 v51:=Tryz.zeroValue434
 t53:=Tryz.underlying436
 a53:=Tryz.isAgg436
 z53:=Tryz.sizeOf436
 v53:=Tryz.zeroValue436
 t171:=Tryz.underlying437
 a171:=Tryz.isAgg437
 z171:=Tryz.sizeOf437
 v171:=Tryz.zeroValue437
 t173:=Tryz.underlying439
 a173:=Tryz.isAgg439
 z173:=Tryz.sizeOf439
 v173:=Tryz.zeroValue439
 t212:=Tryz.underlying498
 a212:=Tryz.isAgg498
 z212:=Tryz.sizeOf498
 v212:=Tryz.zeroValue498
 t213:=Tryz.underlying499
 a213:=Tryz.isAgg499
 z213:=Tryz.sizeOf499
 t232:=Tryz.underlying542
 a232:=Tryz.isAgg542
 z232:=Tryz.sizeOf542
 v232:=Tryz.zeroValue542
 t233:=Tryz.underlying543
 a233:=Tryz.isAgg543
 z233:=Tryz.sizeOf543
 v233:=Tryz.zeroValue543
 g17:=by kernel_rfl
 g18:=by kernel_rfl
 g19:=by kernel_rfl
 i0:=by kernel_rfl
 i2:=by kernel_rfl
 i3:=by kernel_rfl
 i4:=by kernel_rfl
 i5:=by kernel_rfl
 i9:=by kernel_rfl
 i20:=by kernel_rfl
 i37:=by kernel_rfl
 i46:=by kernel_rfl
 i51:=by kernel_rfl
 i53:=by kernel_rfl
 i171:=by kernel_rfl
 i173:=by kernel_rfl
 i212:=by kernel_rfl
 i232:=by kernel_rfl
 i233:=by kernel_rfl
 m17:=by kernel_rfl
 m18:=by kernel_rfl
 m19:=by kernel_rfl}
open Go.RowKit Go.Sort Go.Lib in
theorem Tryz.strconv_Itoa (n:Int) (d: -9223372036854775808<=n) (f:n<=9223372036854775807) (w:World) (b:Lib.TabIs Tryz.prog w "internal/strconv.uint64pow10" .u64 Lib.pow10Tab):
  Calls Tryz.prog 86 #[.int .i64 n] w fun e i=>e= .returned (.string ⟨(Lib.itoa n).toArray⟩)/\∃k g,i=grow (w.drewN k) g:=Any.strconv_Itoa Tryz.yn n d f w b
def Tryz.Qa:Go.Shelf.Ren:=⟨fun|172=>171|244=>247|245=>248|247=>316|279=>317|280=>318|281=>319|282=>320|287=>367|316=>368|171=>86|205=>369|321=>382|322=>383|243=>134|246=>191|283=>267|284=>268|285=>269|286=>270|129=>266|317=>334|318=>335|319=>336|320=>337|337=>376|338=>377|n=>n,fun|9=>9|3=>3|75=>143|76=>144|4=>4|5=>5|167=>477|37=>93|0=>0|85=>478|2=>2|168=>480|53=>436|175=>521|46=>380|210=>525|127=>254|145=>541|143=>539|21=>21|171=>437|173=>439|212=>498|51=>434|20=>20|213=>499|232=>542|233=>543|80=>148|n=>n,fun|15=>8|16=>9|17=>4|18=>10|19=>11|n=>n⟩
theorem Tryz.J0:Go.Proofs.LaysC.n172 Tryz.prog Tryz.Qa:={
 mixed:=by kernel_rfl
 f129:=Tryz.func266.trans (congrArg some (by kernel_rfl))
 f171:=Tryz.func86.trans (congrArg some (by kernel_rfl))
 f172:=Tryz.func171.trans (congrArg some (by kernel_rfl))
 f205:=Tryz.func369.trans (congrArg some (by kernel_rfl))
 f243:=Tryz.func134.trans (congrArg some (by kernel_rfl))
 f244:=Tryz.func247.trans (congrArg some (by kernel_rfl))
 f245:=Tryz.func248.trans (congrArg some (by kernel_rfl))
 f246:=Tryz.func191.trans (congrArg some (by kernel_rfl))
 f247:=Tryz.func316.trans (congrArg some (by kernel_rfl))
 f279:=Tryz.func317.trans (congrArg some (by kernel_rfl))
 f280:=Tryz.func318.trans (congrArg some (by kernel_rfl))
 f281:=Tryz.func319.trans (congrArg some (by kernel_rfl))
 f282:=Tryz.func320.trans (congrArg some (by kernel_rfl))
 f283:=Tryz.func267.trans (congrArg some (by kernel_rfl))
 f284:=Tryz.func268.trans (congrArg some (by kernel_rfl))
 f285:=Tryz.func269.trans (congrArg some (by kernel_rfl))
 f286:=Tryz.func270.trans (congrArg some (by kernel_rfl))
 f287:=Tryz.func367.trans (congrArg some (by kernel_rfl))
 f316:=Tryz.func368.trans (congrArg some (by kernel_rfl))
 f317:=Tryz.func334.trans (congrArg some (by kernel_rfl))
 f318:=Tryz.func335.trans (congrArg some (by kernel_rfl))
 f319:=Tryz.func336.trans (congrArg some (by kernel_rfl))
 f320:=Tryz.func337.trans (congrArg some (by kernel_rfl))
 f321:=Tryz.func382.trans (congrArg some (by kernel_rfl))
 f322:=Tryz.func383.trans (congrArg some (by kernel_rfl))
 f337:=Tryz.func376.trans (congrArg some (by kernel_rfl))
 f338:=Tryz.func377.trans (congrArg some (by kernel_rfl))
 t0:=Tryz.underlying0
 a0:=Tryz.isAgg0
 z0:=Tryz.sizeOf0
 v0:=Tryz.zeroValue0
 t2:=Tryz.underlying2
 a2:=Tryz.isAgg2
 z2:=Tryz.sizeOf2
 v2:=Tryz.zeroValue2
 t3:=Tryz.underlying3
 a3:=Tryz.isAgg3
 z3:=Tryz.sizeOf3
 v3:=Tryz.zeroValue3
 t4:=Tryz.underlying4
 a4:=Tryz.isAgg4
 z4:=Tryz.sizeOf4
 v4:=Tryz.zeroValue4
 t5:=Tryz.underlying5
 a5:=Tryz.isAgg5
 z5:=Tryz.sizeOf5
 v5:=Tryz.zeroValue5
 t9:=Tryz.underlying9
 a9:=Tryz.isAgg9
 z9:=Tryz.sizeOf9
 v9:=Tryz.zeroValue9
 t20:=Tryz.underlying20
 a20:=Tryz.isAgg20
 z20:=Tryz.sizeOf20
 v20:=Tryz.zeroValue20
 t21:=Tryz.underlying21
 a21:=Tryz.isAgg21
 z21:=Tryz.sizeOf21
 v21:=Tryz.zeroValue21
 t37:=Tryz.underlying93
 a37:=Tryz.isAgg93
 z37:=Tryz.sizeOf93
 v37:=Tryz.zeroValue93
 t46:=Tryz.underlying380
 a46:=Tryz.isAgg380
 z46:=Tryz.sizeOf380
 v46:=Tryz.zeroValue380
 t51:=Tryz.underlying434
 a51:=Tryz.isAgg434
 z51:=Tryz.sizeOf434
 v51:=Tryz.zeroValue434
 t53:=Tryz.underlying436
 a53:=Tryz.isAgg436
 z53:=Tryz.sizeOf436
 v53:=Tryz.zeroValue436
 t75:=Tryz.underlying143
 a75:=Tryz.isAgg143
 z75:=Tryz.sizeOf143
 v75:=Tryz.zeroValue143
 t76:=Tryz.underlying144
 a76:=Tryz.isAgg144
 z76:=Tryz.sizeOf144
 v76:=Tryz.zeroValue144
 t85:=Tryz.underlying478
 a85:=Tryz.isAgg478
 z85:=Tryz.sizeOf478
 v85:=Tryz.zeroValue478
 t127:=Tryz.underlying254
 a127:=Tryz.isAgg254
 z127:=Tryz.sizeOf254
 v127:=Tryz.zeroValue254
 t143:=Tryz.underlying539
 a143:=Tryz.isAgg539
 z143:=Tryz.sizeOf539
 v143:=Tryz.zeroValue539
 t145:=Tryz.underlying541
 a145:=Tryz.isAgg541
 z145:=Tryz.sizeOf541
 v145:=Tryz.zeroValue541
 t167:=Tryz.underlying477
 a167:=Tryz.isAgg477
 z167:=Tryz.sizeOf477
 v167:=Tryz.zeroValue477
 t168:=Tryz.underlying480
 a168:=Tryz.isAgg480
 z168:=Tryz.sizeOf480
 v168:=Tryz.zeroValue480
 t171:=Tryz.underlying437
 a171:=Tryz.isAgg437
 z171:=Tryz.sizeOf437
 v171:=Tryz.zeroValue437
 t173:=Tryz.underlying439
 a173:=Tryz.isAgg439
 z173:=Tryz.sizeOf439
 v173:=Tryz.zeroValue439
 t175:=Tryz.underlying521
 a175:=Tryz.isAgg521
 z175:=Tryz.sizeOf521
 v175:=Tryz.zeroValue521
 t210:=Tryz.underlying525
 a210:=Tryz.isAgg525
 z210:=Tryz.sizeOf525
 v210:=Tryz.zeroValue525
 t212:=Tryz.underlying498
 a212:=Tryz.isAgg498
 z212:=Tryz.sizeOf498
 v212:=Tryz.zeroValue498
 t213:=Tryz.underlying499
 a213:=Tryz.isAgg499
 z213:=Tryz.sizeOf499
 t232:=Tryz.underlying542
 a232:=Tryz.isAgg542
 z232:=Tryz.sizeOf542
 v232:=Tryz.zeroValue542
 t233:=Tryz.underlying543
 a233:=Tryz.isAgg543
 z233:=Tryz.sizeOf543
 v233:=Tryz.zeroValue543
 g15:=by kernel_rfl
 g16:=by kernel_rfl
 g17:=by kernel_rfl
 g18:=by kernel_rfl
 g19:=by kernel_rfl
 t80:=Tryz.underlying148
 a80:=Tryz.isAgg148
 z80:=Tryz.sizeOf148
 v80:=Tryz.zeroValue148
 i0:=by kernel_rfl
 i2:=by kernel_rfl
 i3:=by kernel_rfl
 i4:=by kernel_rfl
 i5:=by kernel_rfl
 i9:=by kernel_rfl
 i20:=by kernel_rfl
 i21:=by kernel_rfl
 i37:=by kernel_rfl
 i46:=by kernel_rfl
 i51:=by kernel_rfl
 i53:=by kernel_rfl
 i75:=by kernel_rfl
 i76:=by kernel_rfl
 i80:=by kernel_rfl
 i85:=by kernel_rfl
 i127:=by kernel_rfl
 i143:=by kernel_rfl
 i145:=by kernel_rfl
 i167:=by kernel_rfl
 i168:=by kernel_rfl
 i171:=by kernel_rfl
 i173:=by kernel_rfl
 i175:=by kernel_rfl
 i210:=by kernel_rfl
 i212:=by kernel_rfl
 i232:=by kernel_rfl
 i233:=by kernel_rfl
 m15:=by kernel_rfl
 m16:=by kernel_rfl
 m17:=by kernel_rfl
 m18:=by kernel_rfl
 m19:=by kernel_rfl
 c0:=by kernel_rfl
 c2:=by kernel_rfl
 c3:=by kernel_rfl
 c4:=by kernel_rfl
 c5:=by kernel_rfl
 c9:=by kernel_rfl
 c20:=by kernel_rfl
 c21:=by kernel_rfl
 c37:=by kernel_rfl
 c46:=by kernel_rfl
 c51:=by kernel_rfl
 c53:=by kernel_rfl
 c75:=by kernel_rfl
 c76:=by kernel_rfl
 c80:=by kernel_rfl
 c85:=by kernel_rfl
 c127:=by kernel_rfl
 c143:=by kernel_rfl
 c145:=by kernel_rfl
 c167:=by kernel_rfl
 c168:=by kernel_rfl
 c171:=by kernel_rfl
 c173:=by kernel_rfl
 c175:=by kernel_rfl
 c210:=by kernel_rfl
 c212:=by kernel_rfl
 c213:=by kernel_rfl
 c232:=by kernel_rfl
 c233:=by kernel_rfl}
open Go.RowKit in
theorem Tryz.strconv_Atoi_ok (s:ByteArray) (b:s.size<=9223372036854775806) (v:Int) (h:Lib.atoiAll s.data.toList= .ok v) (w:World):
  Calls Tryz.prog 171 #[.string s] w fun e d=>e= .returned (.tuple #[.int .i64 v,.nilIface])/\(d=w\/∃t,d=Lib.bytesWorld w 5 t):=Any.strconv_Atoi_ok Tryz.J0 s b v h w
open Go.RowKit in
theorem Tryz.strconv_Atoi_syntax (s:ByteArray) (d:s.size<=281474976710656) (h:Lib.atoiAll s.data.toList=Lib.NumEnd.syntax) (b:Value) (w:World) (i:w.cell? ⟨8,0,none⟩=some b) (f:b= .nilIface\/∃k j,b= .iface k j):
  Calls Tryz.prog 171 #[.string s] w fun e g=>∃N,e= .returned (.tuple #[.int .i64 (0),.iface 480 (.pointer (some ⟨N,0,none⟩))])/\w.heap.size<=N/\g.heap[N]?=some (.cells #[.string ⟨#[65,116,111,105]⟩,.string s,b] 525 (0,0))/\Below w.heap.size w g:=Any.strconv_Atoi_syntax Tryz.J0 s d h b w i f
open Go.RowKit in
theorem Tryz.strconv_Atoi_range (s:ByteArray) (d:s.size<=281474976710656) (h:Lib.atoiAll s.data.toList= .range) (b:Value) (w:World) (i:w.cell? ⟨9,0,none⟩=some b) (f:b= .nilIface\/∃k j,b= .iface k j):
  Calls Tryz.prog 171 #[.string s] w fun e g=>∃N,e= .returned (.tuple #[.int .i64 (Lib.atoiSat s.data.toList),.iface 480 (.pointer (some ⟨N,0,none⟩))])/\w.heap.size<=N/\g.heap[N]?=some (.cells #[.string ⟨#[65,116,111,105]⟩,.string s,b] 525 (0,0))/\Below w.heap.size w g:=Any.strconv_Atoi_range Tryz.J0 s d h b w i f
def Tryz.T9:Go.Shelf.Ren:=⟨fun|219=>245|217=>312|225=>313|224=>314|267=>315|266=>365|314=>366|n=>n,fun|9=>9|3=>3|4=>4|5=>5|46=>380|146=>519|51=>434|n=>n,fun|1=>2|n=>n⟩
theorem Tryz.aB4:Go.Proofs.Lays.n219 Tryz.prog Tryz.T9:={
 mixed:=by kernel_rfl
 f217:=Tryz.func312.trans (congrArg some (by kernel_rfl))
 f219:=Tryz.func245.trans (congrArg some (by kernel_rfl))
 f224:=Tryz.func314.trans (congrArg some (by kernel_rfl))
 f225:=Tryz.func313.trans (congrArg some (by kernel_rfl))
 f266:=Tryz.func365.trans (congrArg some (by kernel_rfl))
 f267:=Tryz.func315.trans (congrArg some (by kernel_rfl))
 f314:=Tryz.func366.trans (congrArg some (by kernel_rfl))
 t3:=Tryz.underlying3
 a3:=Tryz.isAgg3
 z3:=Tryz.sizeOf3
 v3:=Tryz.zeroValue3
 t4:=Tryz.underlying4
 a4:=Tryz.isAgg4
 z4:=Tryz.sizeOf4
 v4:=Tryz.zeroValue4
 t5:=Tryz.underlying5
 a5:=Tryz.isAgg5
 z5:=Tryz.sizeOf5
 v5:=Tryz.zeroValue5
 t9:=Tryz.underlying9
 a9:=Tryz.isAgg9
 z9:=Tryz.sizeOf9
 v9:=Tryz.zeroValue9
 t46:=Tryz.underlying380
 a46:=Tryz.isAgg380
 z46:=Tryz.sizeOf380
 v46:=Tryz.zeroValue380
 t51:=Tryz.underlying434
 a51:=Tryz.isAgg434
 z51:=Tryz.sizeOf434
 v51:=Tryz.zeroValue434
 t146:=Tryz.underlying519
 a146:=Tryz.isAgg519
 z146:=Tryz.sizeOf519
 v146:=Tryz.zeroValue519
 g1:=by kernel_rfl}
open Go.RowKit Go.Lib in
theorem Tryz.stringslite_Index_one (s:ByteArray) (c:UInt8) (w:World):
  Calls Tryz.prog 245 #[.string s,.string ⟨#[c]⟩] w fun e b=>e= .returned (.int .i64 (Lib.indexByte s.data.toList c))/\b=w:=Any.stringslite_Index_one Tryz.aB4 s c w
def Tryz.Wk:Go.Shelf.Ren:=⟨fun|143=>161|219=>245|217=>312|225=>313|224=>314|267=>315|266=>365|314=>366|n=>n,fun|9=>9|3=>3|4=>4|5=>5|46=>380|146=>519|51=>434|n=>n,fun|1=>2|n=>n⟩
theorem Tryz.aBt:Go.Proofs.Lays.n143 Tryz.prog Tryz.Wk:={
 mixed:=by kernel_rfl
 f143:=Tryz.func161.trans (congrArg some (by kernel_rfl))
 f217:=Tryz.func312.trans (congrArg some (by kernel_rfl))
 f219:=Tryz.func245.trans (congrArg some (by kernel_rfl))
 f224:=Tryz.func314.trans (congrArg some (by kernel_rfl))
 f225:=Tryz.func313.trans (congrArg some (by kernel_rfl))
 f266:=Tryz.func365.trans (congrArg some (by kernel_rfl))
 f267:=Tryz.func315.trans (congrArg some (by kernel_rfl))
 f314:=Tryz.func366.trans (congrArg some (by kernel_rfl))
 t3:=Tryz.underlying3
 a3:=Tryz.isAgg3
 z3:=Tryz.sizeOf3
 v3:=Tryz.zeroValue3
 t4:=Tryz.underlying4
 a4:=Tryz.isAgg4
 z4:=Tryz.sizeOf4
 v4:=Tryz.zeroValue4
 t5:=Tryz.underlying5
 a5:=Tryz.isAgg5
 z5:=Tryz.sizeOf5
 v5:=Tryz.zeroValue5
 t9:=Tryz.underlying9
 a9:=Tryz.isAgg9
 z9:=Tryz.sizeOf9
 v9:=Tryz.zeroValue9
 t46:=Tryz.underlying380
 a46:=Tryz.isAgg380
 z46:=Tryz.sizeOf380
 v46:=Tryz.zeroValue380
 t51:=Tryz.underlying434
 a51:=Tryz.isAgg434
 z51:=Tryz.sizeOf434
 v51:=Tryz.zeroValue434
 t146:=Tryz.underlying519
 a146:=Tryz.isAgg519
 z146:=Tryz.sizeOf519
 v146:=Tryz.zeroValue519
 g1:=by kernel_rfl}
open Go.RowKit Go.Lib in
theorem Tryz.strings_Index_one (s:ByteArray) (c:UInt8) (w:World):
  Calls Tryz.prog 161 #[.string s,.string ⟨#[c]⟩] w fun e b=>e= .returned (.int .i64 (Lib.indexByte s.data.toList c))/\b=w:=Any.strings_Index_one Tryz.aBt s c w
def Tryz.Uw:Go.Shelf.Ren:=⟨fun|138=>109|195=>166|218=>167|143=>161|219=>245|217=>312|225=>313|224=>314|267=>315|266=>365|314=>366|n=>n,fun|9=>9|3=>3|4=>4|5=>5|0=>0|46=>380|146=>519|51=>434|n=>n,fun|1=>2|n=>n⟩
theorem Tryz.aAl:Go.Proofs.Lays.n138 Tryz.prog Tryz.Uw:={
 mixed:=by kernel_rfl
 f138:=Tryz.func109.trans (congrArg some (by kernel_rfl))
 f143:=Tryz.func161.trans (congrArg some (by kernel_rfl))
 f195:=Tryz.func166.trans (congrArg some (by kernel_rfl))
 f217:=Tryz.func312.trans (congrArg some (by kernel_rfl))
 f218:=Tryz.func167.trans (congrArg some (by kernel_rfl))
 f219:=Tryz.func245.trans (congrArg some (by kernel_rfl))
 f224:=Tryz.func314.trans (congrArg some (by kernel_rfl))
 f225:=Tryz.func313.trans (congrArg some (by kernel_rfl))
 f266:=Tryz.func365.trans (congrArg some (by kernel_rfl))
 f267:=Tryz.func315.trans (congrArg some (by kernel_rfl))
 f314:=Tryz.func366.trans (congrArg some (by kernel_rfl))
 t0:=Tryz.underlying0
 a0:=Tryz.isAgg0
 z0:=Tryz.sizeOf0
 v0:=Tryz.zeroValue0
 t3:=Tryz.underlying3
 a3:=Tryz.isAgg3
 z3:=Tryz.sizeOf3
 v3:=Tryz.zeroValue3
 t4:=Tryz.underlying4
 a4:=Tryz.isAgg4
 z4:=Tryz.sizeOf4
 v4:=Tryz.zeroValue4
 t5:=Tryz.underlying5
 a5:=Tryz.isAgg5
 z5:=Tryz.sizeOf5
 v5:=Tryz.zeroValue5
 t9:=Tryz.underlying9
 a9:=Tryz.isAgg9
 z9:=Tryz.sizeOf9
 v9:=Tryz.zeroValue9
 t46:=Tryz.underlying380
 a46:=Tryz.isAgg380
 z46:=Tryz.sizeOf380
 v46:=Tryz.zeroValue380
 t51:=Tryz.underlying434
 a51:=Tryz.isAgg434
 z51:=Tryz.sizeOf434
 v51:=Tryz.zeroValue434
 t146:=Tryz.underlying519
 a146:=Tryz.isAgg519
 z146:=Tryz.sizeOf519
 v146:=Tryz.zeroValue519
 g1:=by kernel_rfl}
open Go.RowKit Go.Lib in
theorem Tryz.strings_Count_one (s:ByteArray) (c:UInt8) (w:World):
  Calls Tryz.prog 109 #[.string s,.string ⟨#[c]⟩] w fun e b=>e= .returned (.int .i64 (Lib.countByte s.data.toList c))/\b=w:=Any.strings_Count_one Tryz.aAl s c w
def Tryz.G6:Go.Shelf.Ren:=⟨fun|240=>102|276=>158|n=>n,fun|0=>0|4=>4|9=>9|20=>20|70=>139|72=>141|37=>93|164=>352|n=>n,fun|n=>n⟩
theorem Tryz.dq:Go.Proofs.Lays.n240 Tryz.prog Tryz.G6:={
 mixed:=by kernel_rfl
 f240:=Tryz.func102.trans (congrArg some (by kernel_rfl))
 f276:=Tryz.func158.trans (congrArg some (by kernel_rfl))
 t0:=Tryz.underlying0
 a0:=Tryz.isAgg0
 z0:=Tryz.sizeOf0
 v0:=Tryz.zeroValue0
 t4:=Tryz.underlying4
 a4:=Tryz.isAgg4
 z4:=Tryz.sizeOf4
 v4:=Tryz.zeroValue4
 t9:=Tryz.underlying9
 a9:=Tryz.isAgg9
 z9:=Tryz.sizeOf9
 v9:=Tryz.zeroValue9
 t20:=Tryz.underlying20
 a20:=Tryz.isAgg20
 z20:=Tryz.sizeOf20
 v20:=Tryz.zeroValue20
 t70:=Tryz.underlying139
 a70:=Tryz.isAgg139
 z70:=Tryz.sizeOf139
 v70:=Tryz.zeroValue139
 t72:=Tryz.underlying141
 a72:=Tryz.isAgg141
 z72:=Tryz.sizeOf141
 v72:=Tryz.zeroValue141
 t164:=Tryz.underlying352
 a164:=Tryz.isAgg352
 z164:=Tryz.sizeOf352
 v164:=Tryz.zeroValue352}
theorem Tryz.yJ:Builder.X72 Tryz.prog Tryz.G6:={
 sizeBuilder:=by kernel_rfl
 liesBuilder:=by kernel_rfl}
end
end Go.Proofs
namespace Go.Proofs
open Go.Shelf Go.RowKit
section
variable {P:Program} {ρ:Ren} {w:World}
theorem Tryz.j1 {e:TypeId} (hc:P.cellsOf e=1) (count b n:Nat) (f:b+n<=count):liesAt P P.depth e count b e n=true:=by
 have d:P.depth=(2*(P.types.size+Made.depth)+1)+1:=rfl;rw[d];simp only[liesAt,Bool.or_eq_true];left;rw[d];simp[rowAt,hc,f,sameLayout,Nat.mod_one]
theorem Tryz.Bm (pt it ty e:TypeId) (y:P.underlying pt=some (.pointer e)) (hc:P.cellsOf e=1) (g q cells:Nat) (p:w.shape? g=some (e,cells)) (l:List UInt8) (r:l≠[]) (v:q+l.length<=cells) (t:l.length<=9223372036854775807)
  (b:∀j x,l[j]?=some x->w.cell? ((⟨g,q,none⟩:Addr).add j)=some (.int .u8 x.toNat)):
  (Builtin.unsafeString_ #[pt,it] ty #[.pointer (some ⟨g,q,none⟩),.int .i64 l.length]).run P w= .ok (.string ⟨l.toArray⟩) (w.freeze ⟨g,q,none⟩ l.length):=by
 have u:l.length≠0:=by simpa using r
 have o:=Lib.run_loadBytes (P:=P) w l ⟨g,q,none⟩ .empty b
 have d:=Tryz.j1 (P:=P) hc (cells/P.cellsOf e) q l.length (by rw[hc];simpa using v)
 have f:¬(9223372036854775807:Int)<(l.length:Int):=by omega
 have i:Builtin.unsafeString_ #[pt,it] ty #[.pointer (some ⟨g,q,none⟩),.int .i64 l.length]=
   (do
    let n<-asInt (.int .i64 l.length)
    if n<0 then runtimePanic (.error "unsafe.String: len out of range")
    if n>IntKind.i64.max then unsupported (.unsafePointer "String: a length above the largest int")
    if n=0 then pure (.string .empty)
    else if<-variablesAt ⟨g,q,none⟩ (<-elemOf pt) n.toNat then do
     let s<-loadBytes ⟨g,q,none⟩ .empty n.toNat
     freeze ⟨g,q,none⟩ n.toNat
     pure (.string s)
    else unsupported (.unsafePointer "String: not so many bytes at ptr")):=rfl
 rw[i]
 have k:IntKind.i64.max=9223372036854775807:=rfl
 have m:¬(l.length:Int)<0:=by omega
 simp[asInt,asIntOf,k,f,m,u,variablesAt,p,elemOf,run_underlying y,d,o]
set_option maxHeartbeats 2000000 in
set_option maxRecDepth 100000 in
theorem Tryz.il (L:Lays.n169 P ρ) (X:Builder.Extra P ρ) (b g q cap cells:Nat) (l:List UInt8) (w:World) (hb:w.cell? ⟨b,1,none⟩=some (.slice (some ⟨g,q,none⟩) l.length cap)) (f:cap≠0) (p:l≠[])
  (i:w.shape? g=some (ρ.t 5,cells)) (m:q+l.length<=cells) (r:l.length<=1000000) (d:∀(j:Nat) (x:UInt8),l[j]?=some x->w.cell? ⟨g,q+j,none⟩=some (.int .u8 x.toNat)):
  Calls P (ρ.f 169) #[.pointer (some ⟨b,0,none⟩)] w fun e A=>e= .returned (.string ⟨l.toArray⟩)/\A=w.drew.freeze ⟨g,q,none⟩ l.length:=by
 have B:w.drew.cell? ⟨b,1,none⟩=some (.slice (some ⟨g,q,none⟩) l.length cap):=hb
 have s:(Builtin.unsafeSliceData_ #[(ρ.t 37)] (ρ.t 127) #[.slice (some ⟨g,q,none⟩) l.length cap]).run P w.drew= .ok (.pointer (some ⟨g,q,none⟩)) w.drew:=
  Lib.run_unsafeSliceData_row _ _ _ _ _ _ f
 have t:(Builtin.unsafeString_ #[(ρ.t 127),(ρ.t 3)] (ρ.t 9) #[.pointer (some ⟨g,q,none⟩),.int .i64 l.length]).run P w.drew= .ok (.string ⟨l.toArray⟩) (w.drew.freeze ⟨g,q,none⟩ l.length):=by
  refine Tryz.Bm (w:=w.drew) (ρ.t 127) (ρ.t 3) (ρ.t 9) (ρ.t 5) L.t127 X.cellsByte g q cells i l p m (by omega) ?_;intro j x u;have:=d j x u;have e:(⟨g,q,none⟩:Addr).add j=⟨g,q+j,none⟩:=by
   unfold Addr.add;by_cases k:j=0;subst k;simp;simp[k]
  rw[e];exact this
 clear d i m
 have mixed:=L.mixed
 have t72:=L.t72;have a72:=L.a72;have z72:=L.z72;have v72:=L.v72;have z:=run_underlying L.t72
 have t70:=L.t70;have a70:=L.a70;have z70:=L.z70;have v70:=L.v70;have y:=run_underlying L.t70
 have t37:=L.t37;have a37:=L.a37;have z37:=L.z37;have v37:=L.v37;have v:=run_underlying L.t37
 have t127:=L.t127;have a127:=L.a127;have z127:=L.z127;have v127:=L.v127;have o:=run_underlying L.t127
 have t3:=L.t3;have a3:=L.a3;have z3:=L.z3;have v3:=L.v3;have C:=run_underlying L.t3
 have t9:=L.t9;have a9:=L.a9;have z9:=L.z9;have v9:=L.v9;have E:=run_underlying L.t9
 have t5:=X.t5;have a5:=X.a5;have z5:=X.z5;have v5:=X.v5;have D:=run_underlying X.t5
 go_enter L.f169,Body.n169_ntmps ρ
 go_wp2
 go_region_o
 all_goals (go_wp2;go_ret;exact⟨rfl,rfl⟩)
set_option maxHeartbeats 2000000 in
set_option maxRecDepth 100000 in
theorem Tryz.Xo (L:Lays.n169 P ρ) (X:Builder.Extra P ρ) (b:Nat) (w:World) (hb:w.cell? ⟨b,1,none⟩=some (.slice none 0 0)):
  Calls P (ρ.f 169) #[.pointer (some ⟨b,0,none⟩)] w fun e m=>e= .returned (.string ⟨#[]⟩)/\m=w.drew:=by
 have g:=Any.unsafeString_none L X
 have o:w.drew.cell? ⟨b,1,none⟩=some (.slice none 0 0):=hb
 have f:(Builtin.unsafeSliceData_ #[(ρ.t 37)] (ρ.t 127) #[.slice none 0 0]).run P w.drew= .ok (.pointer none) w.drew:=rfl
 have mixed:=L.mixed
 have t72:=L.t72;have a72:=L.a72;have z72:=L.z72;have v72:=L.v72;have k:=run_underlying L.t72
 have t70:=L.t70;have a70:=L.a70;have z70:=L.z70;have v70:=L.v70;have j:=run_underlying L.t70
 have t37:=L.t37;have a37:=L.a37;have z37:=L.z37;have v37:=L.v37;have i:=run_underlying L.t37
 have t127:=L.t127;have a127:=L.a127;have z127:=L.z127;have v127:=L.v127;have d:=run_underlying L.t127
 have t3:=L.t3;have a3:=L.a3;have z3:=L.z3;have v3:=L.v3;have p:=run_underlying L.t3
 have t9:=L.t9;have a9:=L.a9;have z9:=L.z9;have v9:=L.v9;have r:=run_underlying L.t9
 have t5:=X.t5;have a5:=X.a5;have z5:=X.z5;have v5:=X.v5;have q:=run_underlying X.t5
 go_enter L.f169,Body.n169_ntmps ρ
 go_wp2
 go_region_o
 all_goals (go_wp2;go_ret;exact⟨rfl,rfl⟩)
end
end Go.Proofs
namespace Go.Ab
open Go Go.RowKit
section
variable {P:Program} {H:Type}
def yY (f:DataW H->Option (List Value)) (w:Nat):List (DataW H)->Option (List Value)
 |[]=>some []
 |d::b=>match f d with
  |some c=>if c.length=w then(yY f w b).map (c++·) else none
  |none=>none
def xO (f:TypeId->DataW H->Option (List Value)) (w:TypeId->Nat):List Field->List (DataW H)->Nat->Option (List Value)
 |[],[],_=>some []
 |x::g,d::b,o=>match f x.type d with
  |some c=>if x.offset=o/\c.length=w x.type then(xO f w g b (o+c.length)).map (c++·) else none
  |none=>none
 |_,_,_=>none
def F2 (P:Program):Nat->TypeId->DataW H->Option (List Value)
 |0,_,_=>none
 |n+1,t,d=>match P.underlying t,d with
  |some (.int _),.lit (.int k m)=>some [.int k m]
  |some .bool,.lit (.bool b)=>some [.bool b]
  |some .string,.lit (.string s)=>some [.string ⟨s.toArray⟩]
  |some (.array _ e),.agg f=>match yY (F2 P n e) (P.cellsOf e) f with
   |some l=>if l.length=P.cellsOf t then some l else none
   |none=>none
  |some (.struct g),.agg f=>match xO (F2 P n) P.cellsOf g.toList f 0 with
   |some l=>if l.length=P.cellsOf t then some l else none
   |none=>none
  |_,_=>none
theorem Ll {f:DataW H->Option (List Value)} {w:Nat}:∀{b:List (DataW H)} {l:List Value},yY f w b=some l->l.length=b.length*w
 |[],l,h=>by simp[yY] at h;subst h;simp
 |d::b,l,h=>by
  unfold yY at h;split at h;rename_i c j;split at h;rename_i g;simp only[Option.map_eq_some_iff] at h;obtain⟨r,i,rfl⟩:=h;have:=Ll i;simp[this,g,Nat.succ_mul];omega;cases h;cases h
theorem Pe {f:DataW H->Option (List Value)} {w:Nat} {T:List Value->Option (DataW H×List MemPlace)} (j:∀c x l,T c=some x->f x.1=some l->c=l):∀(xs:List (DataW H×List MemPlace)) (cs l:List Value),
    yY f w (xs.map (·.1))=some l->cs.length=xs.length*w->(∀i,i<xs.length->T ((cs.drop (i*w)).take w)=xs[i]?)->cs=l
 |[],cs,l,h,b,_=>by simp[yY] at h;subst h;exact List.eq_nil_of_length_eq_zero (by simpa using b)
 |x::xs,cs,l,h,b,g=>by
  simp only[List.map_cons,yY] at h;split at h;rename_i c o;split at h;rename_i p;simp only[Option.map_eq_some_iff] at h;obtain⟨r,q,rfl⟩:=h;have d:=g 0 (by simp);simp only[Nat.zero_mul,List.drop_zero,List.getElem?_cons_zero] at d;have k:=j _ _ _ d o;have m:=Pe j xs (cs.drop w) r q (by rw[List.length_drop,b,List.length_cons,Nat.succ_mul];omega) fun i s=>by
   have:=g (i+1) (by simp;omega);rw[List.getElem?_cons_succ] at this;rw[List.drop_drop,<-this,Nat.succ_mul,Nat.add_comm]
  rw[<-List.take_append_drop w cs,k,m];cases h;cases h
theorem Ju {f:TypeId->DataW H->Option (List Value)} {w:TypeId->Nat} {T:TypeId->List Value->Option (DataW H×List MemPlace)} (j:∀t c x l,T t c=some x->f t x.1=some l->c=l) {cs:List Value}:∀(fs:List Field) (xs:List (DataW H×List MemPlace)) (o:Nat) (l:List Value),
    xO f w fs (xs.map (·.1)) o=some l->(∀(i:Nat) (x:Field),fs[i]?=some x->T x.type ((cs.drop x.offset).take (w x.type))=xs[i]?)->(cs.drop o).take l.length=l
 |[],[],o,l,h,_=>by simp[xO] at h;subst h;simp
 |[],_::_,_,_,h,_=>by simp[xO] at h
 |_::_,[],_,_,h,_=>by simp[xO] at h
 |y::fs,x::xs,o,l,h,g=>by
  simp only[List.map_cons,xO] at h;split at h;rename_i c p;split at h;rename_i b;simp only[Option.map_eq_some_iff] at h;obtain⟨r,q,rfl⟩:=h;have m:=g 0 y rfl;have d:=j _ _ _ _ m p;have k:=Ju j fs xs (o+c.length) r q fun i z s=>g (i+1) z s;rw[b.1,<-b.2] at d;rw[List.length_append,List.take_add,List.drop_drop,d,k];cases h;cases h
variable {enc:TypeId×Value->H} {w:World} {base:Nat} {spare:Nat->Bool} {held:Bool}
theorem Y5:∀(n:Nat) {t:TypeId} {cs l:List Value} {x:DataW H×List MemPlace} {fuel:Nat},DataW.trod enc P w base spare held fuel t cs=some x->F2 P n t x.1=some l->cs=l:=by
 intro n;induction n with
 |zero=>intro t cs l x fuel _ h;cases h
 |succ n z=>
  intro t cs l x fuel k h;unfold F2 at h;split at h;rename_i d b;obtain⟨m,rfl,f,_⟩:=DataW.trod_int d k;rw[f] at b;cases b;cases h;rfl;rename_i d b;obtain⟨m,rfl,f⟩:=DataW.trod_bool d k;rw[f] at b;cases b;cases h;rfl;rename_i d b;obtain⟨m,rfl,f,_⟩:=DataW.trod_string d k;rw[f] at b;cases b;cases h;rfl;rename_i d b;obtain⟨u,m,_,f,v,s,g⟩:=DataW.trod_array d k;rw[f] at b;cases b;split at h;rename_i r o;split at h;rename_i j;cases h;have:=Ll o;rw[List.length_map] at this;exact Pe (T:=DataW.trod enc P w base spare held m _) (fun c y l p q=>z p q) u cs l o (by rw[v,<-j,this]) fun i B=>g i (by omega);cases h;cases h;rename_i d b;obtain⟨u,m,_,f,v,s,g⟩:=DataW.trod_struct d k;rw[f] at b;cases b;split at h;rename_i r o;split at h;rename_i j;cases h;have:=Ju (w:=P.cellsOf) (T:=fun t c=>DataW.trod enc P w base spare held m t c) (fun t c y l p q=>z p q) (cs:=cs) _ u 0 l o fun i y A=>g i y (by rw[<-A,Array.getElem?_toList]);rw[List.drop_zero,List.take_of_length_le (by omega)] at this;exact this;cases h;cases h;cases h
theorem yA {n:String} {d:DataW Unit}:∀{laid:List (String×DataW Unit)} {ps:List MemPlace},DataW.LaidVars P w laid ps->(n,d)∈laid->
  ∃g t b fuel p,P.globalNamed n=some g/\(P.globals[g]?).map (·.type)=some t/\w.var? P n=some b/\DataW.trod (fun _=>()) P w 0 (fun _=>true) false fuel t b.toList=some (d,p)
 |[],_,_,f=>by cases f
 |(u,s)::r,ps,h,f=>by
  obtain⟨g,t,b,fuel,p,q,i,j,k,m,o,_⟩:=h;rcases List.mem_cons.1 f with e|e;cases e;exact⟨g,t,b,fuel,p,i,j,k,m⟩;exact yA o e
theorem pR {laid:List (String×DataW Unit)} {n:String} {d:DataW Unit} {g:Nat} {t:TypeId} {l:List Value} (fuel:Nat) (u:(laid.all fun x=>x.2.handleName?.isNone)=true) (h:laidMetH P laid w) (s:(n,d)∈laid)
  (j:P.globalNamed n=some g) (v:(P.globals[g]?).map (·.type)=some t) (hc:F2 P fuel t d=some l):∃e i,w.heap[g]?=some (.cells ⟨l⟩ e i):=by
 rw[Go.MakeChecks.laidMetH_plain _ _ _ u] at h
 obtain⟨A,y,_⟩:=h
 obtain⟨z,B,k,f,p,m,o,b,q⟩:=yA y s
 obtain rfl:=Option.some.inj (j.symm.trans m)
 obtain rfl:=Option.some.inj (v.symm.trans o)
 have:=Y5 fuel q hc
 simp only[World.var?,j,Option.bind_some] at b
 split at b
 .rename_i c e i r;cases b;refine⟨e,i,?_⟩;rw[r];cases k;simp at this;subst this;rfl
 .cases b
end
end Go.Ab
namespace Go.Ab
open Go Go.RowKit Go.ChangeShapes Go.WideShapes Go.ChangeAt
section
variable {H:Type} {enc:TypeId×Value->H}
def Yx (P:Program) (b:List TypeId):Bool:=b.all fun t=>P.readableRec t&&decide (t<P.types.size)
theorem Oq {P:Program} (r:laidOutB P=true) {W k:World} (hb:Below W.heap.size W k):∀(f:List TypeId) {vs:List Value} {g:List (DataW H)} {ps:List MemPlace},Yx P f=true->
  DataW.TrodAll enc P W 0 (fun _=>true) true f vs g ps->DataW.TrodAll enc P k 0 (fun b=>decide (b<W.heap.size)) true f vs g ps
 |[],vs,g,ps,_,h=>by
  obtain⟨rfl,rfl,rfl⟩:=trodAll_nil h;exact trodAll_mk0
 |t::f,vs,g,ps,i,h=>by
  obtain⟨v,z,d,s,p,q,rfl,rfl,rfl,o,u⟩:=trodAll_cons h;simp only[Yx,List.all_cons,Bool.and_eq_true,decide_eq_true_eq] at i;have j:∀x∈p,x.block<W.heap.size:=by obtain⟨m,y⟩:=o;exact DataW.trod_lt m _ _ _ y
  exact trodAll_cons_mk (Below.trod r i.1.1 i.1.2 o hb j) (Oq r hb f i.2 u)
theorem fa {P:Program} {w:World} {base:Nat} {spare:Nat->Bool} {held:Bool}:∀(f:List TypeId) {vs:List Value} {b:List (DataW H)} {ps:List MemPlace},
    DataW.TrodAll enc P w base spare held f vs b ps->b.length=f.length
 |[],vs,b,ps,h=>by obtain⟨rfl,rfl,rfl⟩:=trodAll_nil h;rfl
 |t::f,vs,b,ps,h=>by
  obtain⟨v,j,d,g,p,q,rfl,rfl,rfl,k,i⟩:=trodAll_cons h;simp[fa f i]
theorem Kt {C:Checked} {os:Os} (started:os.Started) {f:FuncId} {b:Func} {s:ChangeSpec} {laid:List (String×DataW Unit)} {I:TypeId} {fresh handsOn:Bool}
  (own:ownKnob C.prog.godebug=none) (k:C.prog.inits.idxOf? f=none) (z:C.prog.funcs[f]?=some b) (A:laidOutB C.prog=true) (B:Yx C.prog b.params.toList=true)
  (u:b.resultTypes= #[I]) (D:C.prog.underlying I=some .bool) (d:s.vars=[])
  (o:∀g:List (DataW H),g.length=b.params.size->s.fn H g={results:=[.lit (.bool true)],args:=g})
  (witness:∃(w:World) (tape:Tape) (i:Input),w.os=os/\(w.forCall tape i).Shaped C.prog/\i.vars=[]/\Input.okWide C.prog (w.forCall tape i) .any w.heap.size f i/\
   ((s.pre enc C.prog b [] false (w.forCall tape i).memory i.args/\laidMetH C.prog laid (w.forCall tape i).memory)/\sizedMet enc C.prog b (OpenSpec.ofChange s) false (w.forCall tape i).memory i.args)/\({}:Assume).holds C.prog (lone (Frame.enter C.prog f i.args .normal) [] (w.forCall tape i)))
  (walk:∀(W:World) (base:Nat) (args:List Value) (g:List (DataW H)) (ps:List MemPlace),DataW.TrodAll enc C.prog W 0 (fun _=>true) true b.params.toList args g ps->
   (∀(j:Nat) t v,b.params[j]?=some t->args[j]?=some v->Value.okWide C.prog W .any base t v)->laidMetH C.prog laid W->Calls C.prog f ⟨args⟩ W fun e E=>e= .returned (.bool true)/\Below W.heap.size W E):
  ReturnsInHanded {} C os f .any (fun w args=>(s.pre enc C.prog b [] false w args/\laidMetH C.prog laid w)/\sizedMet enc C.prog b (OpenSpec.ofChange s) false w args) (s.post enc C.prog b false fresh handsOn false):=by
 refine returnsInHanded_of_change_and (C:=C) (X:=fun w _=>laidMetH C.prog laid w) (fun _ _ _ S h=>h.of_heap S) own started k z witness ?_
 intro W base args g gs before x hW _ _ O _
 have y:=hW
 obtain⟨p,q,hA,hV,rfl,R,T⟩:=hW
 rw[d] at hV
 obtain⟨rfl,rfl⟩:=trodVars_none hV
 have m:=o g (by rw[fa _ hA];simp)
 obtain⟨args⟩:=args
 refine(walk W base args g p hA (fun j t v J N=>x j t v J (by simpa using N)) O).mono fun e E ⟨Q,r⟩=>?_
 subst Q
 refine⟨_,rfl,g,[],_,[],p,[],y,?_,?_,?_,r.frame _,fun h=>by cases h⟩
 .rw[List.append_nil,m,u];exact trodAll_mk1 (shut_bool D _)
 .rw[List.append_nil,m];exact Oq A r _ B hA
 .rw[List.append_nil,m,d];rfl
theorem tE {k:IntKind} {b:List (Option IntKind)} {l:List Value} (h:Flat (some k::b) l):∃(n:Int) (d:List Value),l= .int k n::d/\Flat b d:=by
 cases l with
 |nil=>exact h.elim
 |cons v l=>obtain⟨⟨n,rfl,_⟩,h⟩:=h;exact⟨n,l,rfl,h⟩
theorem wI {k:IntKind} {b:List (Option IntKind)} {l:List Value} (h:Flat (some k::b) l):∃(n:Int) (d:List Value),l= .int k n::d/\(Lit.int k n).wf=true/\Flat b d:=by
 cases l with
 |nil=>exact h.elim
 |cons v l=>obtain⟨⟨n,rfl,f⟩,h⟩:=h;exact⟨n,l,rfl,f,h⟩
theorem wf_i64 {n:Int} (h:(Lit.int .i64 n).wf=true): -9223372036854775808<=n/\n<=9223372036854775807:=by
 simp[Lit.wf,IntKind.min,IntKind.max,IntKind.signed,IntKind.bits] at h;omega
theorem Km {l:List Value} (h:Flat [] l):l=[]:=by
 cases l with
 |nil=>rfl
 |cons v l=>exact h.elim
end
section
variable {H:Type} {enc:TypeId×Value->H}
theorem tm {P:Program} {W:World} {base:Nat} {t:TypeId} {fs:Array Field} {v:Value} (d:P.underlying t=some (.struct fs)) (b:Value.okWide P W .any base t v):∃l,v= .agg ⟨l⟩/\l.length=P.cellsOf t:=by
 simp only[Value.okWide,d] at b;obtain⟨⟨l⟩,rfl,h,_⟩:=b;exact⟨l,rfl,h⟩
theorem pY {P:Program} {W:World} {t e:TypeId} {fs:Array Field} {i:Nat} {f:Field} {l:List Value} {d:DataW H} {p:List MemPlace} {n:Nat} {k:List (Option IntKind)} (A:P.underlying t=some (.struct fs)) (r:fs[i]?=some f)
  (B:P.underlying f.type=some (.slice e)) (v:P.cellsOf f.type=1) (x:tF P n e=some k) (hc:P.cellsOf e=k.length) (u:0<k.length)
  (h:DataW.Trod enc P W 0 (fun _=>true) true t (.agg ⟨l⟩) d p):∃a len b,l[f.offset]?=some (.slice a len b)/\lL k W a len b:=by
 obtain⟨fuel,o⟩:=h
 obtain⟨D,m,_,_,I,C,g⟩:=DataW.trod_struct A o
 have s:=g i f r
 have q:i<D.length:=by rw[C];exact(Array.getElem?_eq_some_iff.1 r).1
 rw[List.getElem?_eq_getElem q] at s
 obtain⟨a,len,b,j,y⟩:=O6 B x hc u s
 refine⟨a,len,b,?_,y⟩
 rw[v] at j
 have E:(Value.cells (.agg ⟨l⟩)).toList=l:=by simp[Value.cells]
 have:=congrArg (fun z=>z[0]?) j
 simpa [Value.cells] using this
end
section
theorem sX {α:Type} {f:α->List Value} {R:α->Prop} {W n:Nat} {at':Nat->List Value} (hex:∀i,i<n->∃x,at' i=f x/\R x):
  ∃l:List α,l.length=n/\(∀x∈l,R x)/\∀(G:Bg) (v:Value),kU G W v n at'->kU G W v (l.map f).length (fun i=>(l.map f).getD i []):=by
 let l:List α:=(List.finRange n).map fun i=>(hex i.1 i.2).choose
 have j:l.length=n:=by simp[l]
 have r:∀i,(d:i<n)->l[i]?=some (hex i d).choose:=fun i d=>by
  simp[l,List.getElem?_map,List.getElem?_eq_getElem (show i<(List.finRange n).length by simp;exact d)]
 refine⟨l,j,fun x t=>?_,fun G v s=>?_⟩
 .obtain⟨i,_,rfl⟩:=List.mem_map.1 t;exact(hex i.1 i.2).choose_spec.2
 .obtain⟨a,c,rfl,g⟩:=s;rw[List.length_map,j];refine⟨a,c,rfl,fun i d=>?_⟩;obtain⟨b,o,cells,k,m,p,q⟩:=g i d;refine⟨b,o,cells,k,m,?_,q⟩;rw[p,(hex i d).choose_spec.1];show f _=(l.map f).getD i [];rw[List.getD_eq_getElem?_getD,List.getElem?_map,r i d];rfl
theorem uc {H:Type} {enc:TypeId×Value->H} {P:Program} {w:World} {base fuel:Nat} {spare:Nat->Bool} {held:Bool} {t:TypeId} {ms:Array (String×TypeId)} {cs:List Value} {x:DataW H×List MemPlace} (d:P.underlying t=some (.interface ms))
  (h:DataW.trod enc P w base spare held fuel t cs=some x):∃b,cs=[b]/\(b= .nilIface\/∃g f,b= .iface g f):=by
 cases fuel with
 |zero=>simp[DataW.trod] at h
 |succ n=>
  unfold DataW.trod at h
  rw[d] at h
  match cs,h with
  |[],h=>simp at h
  |[v],h=>
   refine⟨v,rfl,?_⟩
   cases v<;>simp at h
   .exact .inr ⟨_,_,rfl⟩
   .exact .inl rfl
  |_::_::_,h=>simp at h
theorem I7 {P:Program} {w:World} {laid:List (String×DataW Unit)} {n:String} {d:DataW Unit} {g:Nat} {t:TypeId} {ms:Array (String×TypeId)} (z:(laid.all fun x=>x.2.handleName?.isNone)=true) (h:laidMetH P laid w) (y:(n,d)∈laid)
  (o:P.globalNamed n=some g) (A:(P.globals[g]?).map (·.type)=some t) (B:P.underlying t=some (.interface ms)):∃b e j,w.heap[g]?=some (.cells ⟨[b]⟩ e j)/\(b= .nilIface\/∃E D,b= .iface E D):=by
 rw[Go.MakeChecks.laidMetH_plain _ _ _ z] at h
 obtain⟨J,C,_⟩:=h
 obtain⟨I,N,q,f,p,r,s,i,u⟩:=yA C y
 obtain rfl:=Option.some.inj (o.symm.trans r)
 obtain rfl:=Option.some.inj (A.symm.trans s)
 obtain⟨b,m,k⟩:=uc B u
 simp only[World.var?,o,Option.bind_some] at i
 split at i
 .rename_i c e j v;cases i;refine⟨b,e,j,?_,k⟩;rw[v];cases q;simp at m;subst m;rfl
 .cases i
def Vd (G:Bg) (v:Value) (n:Nat):Prop:=(v= .slice none 0 0/\n=0)\/(v= .slice (some ⟨0,0,some 0⟩) 0 0/\n=0)\/
 ∃k o c cells e b,v= .slice (some ⟨k,o,none⟩) n c/\0<n/\n<=c/\k<G.base/\G.old k=some (.cells cells e b false)
theorem Ac {w:World} (P:Program) {d:List (Option IntKind)} {a:Option Addr} {len cap:Nat} (h:lL d w a len cap):∃(r:OB) (t:Nat->Value),Zh P w r/\
  (∀ρ k,ρ k=r.2->aE ρ (t k) (.slice a len cap))/\∃at':Nat->List Value,(∀i,i<len->Flat d (at' i))/\∀(G:Bg) k,k<G.base->G.old k=r.1->kU G d.length (t k) len at'/\Vd G (t k) len:=by
 rcases h with⟨rfl,rfl,rfl⟩|⟨x,rfl,rfl⟩|⟨x,cc,e,j,rfl,y,v,z,m,A,p⟩
 .refine⟨(none,none),fun _=> .slice none 0 0,⟨fun o h=>by(cases h),fun b s h=>by cases h⟩,fun ρ k _=>by simp only[aE],fun _=>[],fun i f=>by omega,fun G k _ _=>⟨⟨none,0,rfl,fun i f=>by omega⟩,.inl ⟨rfl,rfl⟩⟩⟩
 .refine⟨(none,none),fun _=> .slice (some ⟨0,0,some 0⟩) 0 0,⟨fun o h=>by(cases h),fun b s h=>by cases h⟩,fun ρ k _=>?_,fun _=>[],fun i f=>by omega,fun G k _ _=>⟨⟨some ⟨0,0,some 0⟩,0,rfl,fun i f=>by omega⟩,.inr (.inl ⟨rfl,rfl⟩)⟩⟩;simp only[aE];exact⟨trivial,trivial,x,cap,fun h=>by omega,fun h=>by omega,rfl⟩
 .refine⟨(some (.cells (cc.toList.map san) e j false),some (x.block,(0,0))),fun k=> .slice (some ⟨k,x.off,none⟩) len cap,⟨fun o h b s g=>?_,fun b s g=>?_⟩,fun ρ k g=>?_,fun i=>(cc.toList.drop (x.off+i*d.length)).take d.length,p,fun G k u q=>?_⟩
  .cases h;cases g;refine⟨_,m,fun ρ=>⟨cc,rfl,?_,by simp,fun h=>by cases h⟩⟩;rw[List.length_map,List.drop_zero,List.take_of_length_le (by simp)];exact ca _
  .cases g;exact(Array.getElem?_eq_some_iff.1 m).1
  .simp only[aE];exact⟨x.block,(0,0),cap,g,Nat.le_refl _,by simp,by cases x;simp at v;subst v;rfl⟩
  .refine⟨⟨_,_,rfl,fun i f=>⟨k,x.off,_,rfl,⟨u,e,j,false,q⟩,?_,?_⟩⟩,.inr (.inr ⟨k,x.off,cap,_,e,j,rfl,y,z,u,q⟩)⟩
   .rw[<-List.map_drop,<-List.map_take];exact I4 (p i f)
   .rw[List.length_map];have:i*d.length<=len*d.length:=Nat.mul_le_mul_right _ (by omega);simp;omega
variable {G:Bg} {h:AH} {L:List HP}
theorem aK0 {n d m:Nat} (h:n<=m):jZ (some (I n)) d m=some n:=by
 unfold jZ;simp;omega
theorem aDq {d m:Nat}:jZ none d m=some d:=rfl
theorem q9 {W n N:Nat} {v:Value} {at':Nat->List Value} {k:Value->Prop} (p:kU G W v N at') (q:Vd G v N) (z:n<=N) (f:∀j,kU G W j n at'->k j):aY (uU W h v none (some (I n)) none) k:=by
 rcases q with⟨rfl,rfl⟩|⟨rfl,rfl⟩|⟨b,o,c,cells,e,s,rfl,t,x,u,y⟩;obtain rfl:n=0:=by omega
 exact⟨_,rfl,f _ ⟨none,0,rfl,fun i g=>by omega⟩⟩;obtain rfl:n=0:=by omega
 exact⟨_,rfl,f _ ⟨some ⟨0,0,some 0⟩,0,rfl,fun i g=>by omega⟩⟩;refine⟨.slice (some ⟨b,o,none⟩) n c,?_,f _ ⟨_,_,rfl,fun i g=>?_⟩⟩;unfold uU;simp only[aDq,Option.isNone_some,Bool.false_and,Bool.false_eq_true,if_false];rw[aK0 (by omega)];simp only[Option.isSome_none,Bool.false_eq_true,if_false];rw[aae,aab];simp[Addr.add];obtain⟨a,r,m,d⟩:=p;cases m;exact d i (by omega)
end
end Go.Ab
section
namespace Go.Ab
noncomputable section
variable {P:Program} {K:FuncId->List Value->Option iJ}
theorem eW.cons {a:Ek} {env:List Value} (i:eW a env) {d:Nat} {v:Value} {k:Kn} (o:d<env.length) (hb:∀x,k= .b x->v= .bool x) (p:k= .sk->v=undef):eW ((d,v,k)::a) (env.set d v):=by
 intro t u j b;unfold Ek.lk at b;split at b;rename_i e;have:=Nat.eq_of_beq_eq_true e;grind;rename_i e;obtain⟨f,g⟩:=i t u j b;refine⟨?_,g⟩;rw[List.getElem?_set_ne (fun m=>by simp_all)];exact f
theorem eW.aJv {a:Ek} {env:List Value} (g:eW a env) {d:Nat} {v:Value} {k _k':Kn} (i:a.lk d=some (v,k)) {b:Bool} (m:v= .bool b):eW ((d,.bool b,.b b)::a) env:=by
 intro t u j h;unfold Ek.lk at h;split at h;rename_i e;have:=Nat.eq_of_beq_eq_true e;subst this;cases h;exact⟨by rw[<-m];exact(g _ _ _ i).1,fun x f=>(by cases f;rfl),fun f=>(by cases f)⟩;exact g t u j h
def Rj (n:Nat) (a:Ek) (d:Option Tmp) (v:Value) (k:Kn) (q:Ek->Prop):Prop:=match d with
 |none=>q a
 |some d=>(match Nat.blt d n with
  |true=>q ((d,v,k)::a)
  |false=>hF)
theorem rB {n:Nat} {a:Ek} {env:List Value} (j:eW a env) (g:env.length=n) {d:Option Tmp} {v:Value} {k:Kn} {q:Ek->Prop} (hb:∀x,k= .b x->v= .bool x) (m:k= .sk->v=undef) (b:Rj n a d v k q):
  ∃i,eW i (iO env d v)/\(iO env d v).length=n/\q i:=by
 unfold Rj at b
 split at b
 .exact⟨a,j,g,b⟩
 .rename_i d;split at b
  .rename_i f;have:d<n:=Nat.le_of_ble_eq_true f;exact⟨_,j.cons (g.symm▸this) hb m,by simp[iO,g],b⟩
  .cases b
def wG (oO:Nat->Option Tmp) (a:Ek) (g:Option (Nat×Bool)) (p s:Ek->Prop):Prop:=match g with
 |none=>p a
 |some (j,want)=>match oO j with
  |none=>hF
  |some d=>match a.lk d with
   |some (_,.b x)=>(match x,want with
    |true,true=>p a
    |false,false=>p a
    |_,_=>s a)
   |some (_,.sk)=>s a
   |some (v,_)=>(match want with
    |true=>Br v (p ((d,.bool true,.b true)::a)) (s ((d,.bool false,.b false)::a))
    |false=>Br v (s ((d,.bool true,.b true)::a)) (p ((d,.bool false,.b false)::a)))
   |none=>hF
theorem aJn {all:Array Oper} {a:Ek} {env:List Value} (i:eW a env) {o:Oper} {p s:Ek->Prop} (f:wG (fun j=>(all[j]?).bind (·.dst)) a o.guard p s):
  ∃t,eW t env/\((dO all env o=some true/\p t)\/(dO all env o=some false/\s t)):=by
 unfold wG at f
 unfold dO
 split at f
 .grind
 .rename_i j want z;rw[z];simp only;split at f
  .cases f
  .rename_i d g;replace g:(all[j]?).bind (·.dst)=some d:=g;rw[g];simp only[Option.bind_some];split at f
   .rename_i x m;obtain⟨q,u,_⟩:=i _ _ _ m;have:=u x rfl;subst this;rw[q];split at f
    .grind
    .grind
    .rename_i B C;refine⟨a,i,.inr ⟨?_,f⟩⟩;cases x<;>cases want<;>grind
   .rename_i m;obtain⟨q,_,u⟩:=i _ _ _ m;have:=u rfl;subst this;rw[q];exact⟨a,i,.inr ⟨rfl,f⟩⟩
   .rename_i v k _ _ m;have q:=(i _ _ _ m).1;rw[q];split at f
    .obtain⟨b,r,A,y⟩:=f;refine⟨_,i.aJv (_k':= .un) m r,?_⟩;subst r;cases b with
     |true=>grind
     |false=>grind
    .obtain⟨b,r,A,y⟩:=f;refine⟨_,i.aJv (_k':= .un) m r,?_⟩;subst r;cases b with
     |true=>grind
     |false=>grind
   .cases f
def di (a:Ek) (op:Op):Option Operand:=match op with
 |.pick (.tmp c) x y=>(match a.lk c with
  |some (_,.b true)=>some x
  |some (_,.b false)=>some y
  |_=>none)
 |.move x=>some x
 |.assign x=>some x
 |_=>none
theorem ig {a:Ek} {env:List Value} (i:eW a env) {op:Op} {x:Operand} (h:di a op=some x):kindOf op= .yK/\∀f,bN P (cQ P env) f op=some (cQ P env x):=by
 unfold di at h;split at h;rename_i c x y;split at h;rename_i g;cases h;obtain⟨b,d,_⟩:=i _ _ _ g;exact⟨rfl,fun f=>by simp[bN,cQ,List.getD_eq_getElem?_getD,b,d true rfl]⟩;rename_i g;cases h;obtain⟨b,d,_⟩:=i _ _ _ g;exact⟨rfl,fun f=>by simp[bN,cQ,List.getD_eq_getElem?_getD,b,d false rfl]⟩;cases h;cases h;exact⟨rfl,fun _=>rfl⟩;cases h;exact⟨rfl,fun _=>rfl⟩;cases h
def knW (a:Ek) (x:Operand):Kn:=match x with
 |.const (.bool y)=> .b y
 |.tmp t=>(match a.lk t with
  |some (_,.b y)=> .b y
  |_=> .un)
 |_=> .un
theorem u7 {a:Ek} {env:List Value} (f:eW a env) {x:Operand}:(∀y,knW a x= .b y->cQ P env x= .bool y)/\knW a x≠.sk:=by
 unfold knW;split;exact⟨fun y h=>(by cases h;simp[cQ,dR]),fun h=>(by cases h)⟩;split;rename_i g;obtain⟨b,d,_⟩:=f _ _ _ g;exact⟨fun y h=>(by cases h;simp[cQ,List.getD_eq_getElem?_getD,b,d _ rfl]),fun h=>(by cases h)⟩;grind;grind
def sb (M:Nat) (op:Op) (d:Option Tmp) (q:Kn->Prop):Prop:=match op,d with
 |.assign _,_=>hP (q .un)
 |_,some d=>(match Nat.beq (Nat.land (Nat.shiftRight M d) 1) 1 with
  |true=>q .un
  |false=>q .ex)
 |_,none=>q .un
theorem Yo {M:Nat} {op:Op} {d:Option Tmp} {q:Kn->Prop} (h:sb M op d q):q .un\/q .ex:=by
 unfold sb at h;split at h;exact .inl h;grind;exact .inl h
def wKn (M:Nat) (op:Op) (d:Option Tmp) (a:Ek) (x:Operand) (q:Kn->Prop):Prop:=match knW a x with
 |.b y=>q (.b y)
 |_=>sb M op d q
theorem aE6 {M:Nat} {op:Op} {d:Option Tmp} {a:Ek} {x:Operand} {q:Kn->Prop} (h:wKn M op d a x q):(∃y,knW a x= .b y/\q (.b y))\/q .un\/q .ex:=by
 unfold wKn at h;split at h;grind;exact .inr (Yo h)
def ups:Op->List Operand
 |.move x|.assign x|.load _ x|.nilCheck x|.unOp _ _ x|.convert _ _ x|.fieldAddr _ x _|.field _ x _|.box _ x=>[x]
 |.store _ x y|.binOp _ _ x y _|.indexAddr _ x y|.index _ x y=>[x,y]
 |.slice _ x d b f=>x::(d.toList++(b.toList++f.toList))
 |.call c=>c.args.toList
 |_=>[]
def rmK (t:Nat):Ek->(Ek->Prop)->Prop
 |[],q=>hP (q [])
 |(b,v,k)::a,q=>(match Nat.beq b t with
  |true=>(match k with
   |.ex=>q ((b,undef,.no)::a)
   |k=>q ((b,v,k)::a))
  |false=>rmK t a fun a=>q ((b,v,k)::a))
theorem aDx {t:Nat}:∀{a:Ek} {q:Ek->Prop},rmK t a q->∃d,(∀x r,Ek.lk d x=some r->a.lk x=some r)/\q d
 |[],_,h=>⟨_,fun _ _ h=>h,h⟩
 |(j,v,k)::a,q,h=>by
  unfold rmK at h;split at h;split at h;refine⟨_,fun x r b=>?_,h⟩;unfold Ek.lk at b ⊢;grind;grind;obtain⟨g,i,f⟩:=aDx h;refine⟨_,fun x r b=>?_,f⟩;unfold Ek.lk at b ⊢;grind
def jc:List Operand->Ek->(Ek->Prop)->Prop
 |[],a,q=>hP (q a)
 |x::l,a,q=>(match x with
  |.tmp t=>rmK t a fun a=>jc l a q
  |_=>jc l a q)
theorem Sd {env:List Value}:∀{l:List Operand} {a:Ek} {q:Ek->Prop},eW a env->jc l a q->∃d,eW d env/\q d
 |[],a,_,b,h=>⟨a,b,h⟩
 |x::l,a,q,b,h=>by
  unfold jc at h;split at h;obtain⟨j,f,g⟩:=aDx h;exact Sd (l:=l) (fun t v k i=>b t v k (f _ _ i)) g;exact Sd (l:=l) b h
def wOp (P:Program) (K:FuncId->List Value->Option iJ) (a:Ek) (h:AH) (q:Value->AH->Prop) (op:Op):Prop:=match kindOf op with
 |.yK=>wL P a h (fun v=>q v h) op
 |.alloc=>wA P a (Bj h) (tW h) q op
 |.store=>wH P K a h q op
 |.call=>wH P K a h q op
 |.other=>hF
theorem aDv {a:Ek} {env:List Value} (d:eW a env) {h:AH} {q:Value->AH->Prop} {op:Op} (b:wOp P K a h q op):∃n v f,lC P (run P K n) env h op=some (v,f)/\q v f:=by
 refine X1 ?_;unfold wOp at b;unfold wpOp;split at b<;>(rename_i i;simp only[i]);exact aI2 d b;exact aJ1 d (fun W e l n c k g=>g) b;exact aEt d b;exact aEt d b;exact b
def aGo (P:Program) (K:FuncId->List Value->Option iJ) (M n:Nat) (oO:Nat->Option Tmp) (o:Oper) (b:Ek->AH->(Ek->AH->Prop)->Prop) (a:Ek) (h:AH) (q:Ek->AH->Prop):Prop:=match o with
 |⟨dst,op,_,_,_,guard⟩=>wG oO a guard
  (fun a=>jc (ups op) a fun d=>(match di a op with
   |some x=>wKn M op dst a x fun k=>vI P a x fun v=>Rj n d dst v k fun a=>b a h q
   |none=>sb M op dst fun k=>wOp P K a h (fun v f=>Rj n d dst v k fun a=>b a f q) op))
  (fun a=>Rj n a dst undef .sk fun a=>b a h q)
def aAs (P:Program) (K:FuncId->List Value->Option iJ) (M n:Nat) (oO:Nat->Option Tmp) (os:List Oper):Ek->AH->(Ek->AH->Prop)->Prop:=
 List.rec (fun a h q=>q a h) (fun o _ b=>aGo P K M n oO o b) os
theorem aI6 {M n:Nat} {op:Op} {dst:Option Tmp} {a g:Ek} {env:List Value} {x:Operand} {q:Ek->Prop} (d:eW a env) (b:eW g env) (f:env.length=n) (hb:wKn M op dst a x fun k=>vI P a x fun v=>Rj n g dst v k q):
  ∃i,eW i (iO env dst (cQ P env x))/\(iO env dst (cQ P env x)).length=n/\q i:=by
 obtain⟨m,_⟩:=u7 (P:=P) (x:=x) d
 rcases aE6 hb with⟨y,j,hb⟩|hb|hb
 .exact rB b f (fun z e=>by grind) (fun e=>by cases e) (eT d hb)
 .exact rB b f (fun _ e=>by cases e) (fun e=>by cases e) (eT d hb)
 .exact rB b f (fun _ e=>by cases e) (fun e=>by cases e) (eT d hb)
theorem X6 {M n:Nat} {all:Array Oper}:∀{os:List Oper} {a:Ek} {env:List Value} {h:AH} {q:Ek->AH->Prop},eW a env->env.length=n->aAs P K M n (fun j=>(all[j]?).bind (·.dst)) os a h q->
  ∃m o s k,run P K m (.ops all os env) h=some (o,s)/\eW k o.env/\o.env.length=n/\q k s
 |[],a,env,h,q,D,u,C=>⟨1,_,h,a,rfl,D,u,C⟩
 |o::os,a,env,h,q,D,u,C=>by
  change aGo P K M n (fun j=>(all[j]?).bind (·.dst)) o (aAs P K M n (fun j=>(all[j]?).bind (·.dst)) os) a h q at C;unfold aGo at C;obtain⟨U,d,hb⟩:=aJn (o:=o) D C;rcases hb with⟨b,hb⟩|⟨b,hb⟩;obtain⟨k,p,hb⟩:=Sd d hb;obtain⟨f,v,y,i,Q,E,I,r⟩:∃f v y i,lC P (run P K f) env h o.op=some (v,y)/\eW i (iO env o.dst v)/\(iO env o.dst v).length=n/\aAs P K M n (fun j=>(all[j]?).bind (·.dst)) os i y q:=by
   split at hb;rename_i x T;obtain⟨R,S⟩:=ig (P:=P) d T;obtain⟨i,z,A,B⟩:=aI6 d p u hb;exact⟨0,_,h,i,by simp only[lC,R,S];rfl,z,A,B⟩;rcases Yo hb with hb|hb;obtain⟨f,v,y,Q,J⟩:=aDv d hb;obtain⟨i,z,A,B⟩:=rB p u (fun _ e=>by cases e) (fun e=>by cases e) J;grind;obtain⟨f,v,y,Q,J⟩:=aDv d hb;obtain⟨i,z,A,B⟩:=rB p u (fun _ e=>by cases e) (fun e=>by cases e) J;grind
  obtain⟨g,out,s,k,O,N⟩:=X6 E I r;refine⟨max f g+1,out,s,k,?_,N⟩;show rE P (fun t h=>run P K (max f g) t h) all (o::os) env h=_;simp only[rE,b];rw[show(fun t h=>run P K (max f g) t h)=run P K (max f g) from rfl,Oz (jV (Nat.le_max_left f g)) Q];exact jV (Nat.le_max_right f g) _ _ _ O;obtain⟨i,z,A,B⟩:=rB d u (fun _ e=>by cases e) (fun _=>rfl) hb;obtain⟨g,out,s,k,O,N⟩:=X6 z A B;refine⟨g+1,out,s,k,?_,N⟩;show rE P (fun t h=>run P K g t h) all (o::os) env h=_;simp only[rE,b];exact O
end
end Go.Ab
end
