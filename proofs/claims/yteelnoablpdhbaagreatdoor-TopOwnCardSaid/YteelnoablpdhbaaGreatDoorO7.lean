/- A part of the proof. -/
import Derived.Test.YteelnoablpdhbaaGreatDoorO5
import Derived.Test.YteelnoablpdhbaaGreatDoorO6
import Derived.Test.YteelnoablpdhbaaGreatDoorO4
set_option linter.all false
open Go Go.Ab
variable {P:Program} {env:EK} {k:Value->Prop} {t:TypeId} {o:IC} {q:Value->AH->Prop} {op:Op} {n:Nat}
namespace Go.Ab
variable {fs:Array Field} {g:Array TypeId}
noncomputable section
variable {K:FuncId->EK->HQ}
def hA:Unit:=Function.const _ () @Cl
def hB:Unit:=Function.const _ () hA
def hC:Unit:=Function.const _ () hB
def hD:Unit:=Function.const _ () hC
def hE:Unit:=Function.const _ () hD
def hG:Unit:=Function.const _ () hE
def hP (p:Prop):Prop:=(fun _:Unit=>p) hG
def hF:Prop:=hP False
inductive Kn where
 |un|ex|b (x:Bool)|sk|no
abbrev Ek:=List<|Nat×Value×Kn
def Ek.lk:Ek->Nat->Option (Value×Kn)
 |[],_=>none
 |(b,v,k)::a,t=>match Nat.beq b t with
  |true=>(match k with
   |.no=>none
   |k=>some (v,k))
  |false=>Ek.lk a t
def gU (a:Ek) (env:EK):Prop:=∀t v k,a.lk t=some (v,k)->env[t]?=some v/\(∀x,k= .b x->v= .bool x)/\(k= .sk->v=undef)
def aSx (v:Value) (k:Value->Prop):Prop:=match v with
 |.int .i64 n=>k (I n)
 |v=>hP<|k v
def Cs (P:Program) (a:Ek) (x:Operand) (k:Value->Prop):Prop:=match x with
 |.tmp t=>(match a.lk t with
  |some (v,_)=>k v
  |none=>hF)
 |.const v=>(match gR v with
  |true=>aSx v k
  |false=>k Yb)
 |.global g=>(match Nat.blt g P.globals.size with
  |true=>k (.pointer<|some ⟨g,0,none⟩)
  |false=>k Yb)
 |.func f=>k<|.func (.func f) #[] #[]
theorem iX {a:Ek} (f:gU a env) {x:Operand} (h:Cs P a x k):k (eC P env x):=by
 unfold Cs at h;split at h;split at h;rename_i b;have:=(f _ _ _ b).1;grind[eC];cases h;split at h;rename_i i;simp only[eC,i,e9];unfold aSx at h;split at h<;>exact h;simp_all[eC,aO,c9];split at h;simp_all[l7,eC,e9];rename_i g _ d;have:¬g<P.globals.size:=fun b=>by rw[show Nat.blt g P.globals.size=true from k6 b] at d;cases d
 simpa only[eC,this,c9] using h;exact h
def aMa (P:Program) (a:Ek) (x:Option Operand) (k:EO->Prop):Prop:=match x with
 |none=>k none
 |some x=>Cs P a x fun v=>k<|some v
def jo {a:Ek} (b:gU a env) {x:Option Operand} {k:EO->Prop} (h:aMa P a x k):k (x.map<|eC P env):=by
 cases x with
 |none=>exact h
 |some x=>exact iX b h
def bu (P:Program) (a:Ek):List Operand->(EK->Prop)->Prop
 |[],k=>k []
 |x::l,k=>Cs P a x fun v=>bu P a l fun b=>k (v::b)
theorem Gy {a:Ek} {env:EK} (b:gU a env):∀{l:List Operand} {k:EK->Prop},bu P a l k->k (l.map<|eC P env)
 |[],_,h=>h
 |_::l,k,h=>by
  have d:=Gy b<|iX b h;exact d
def fcL {α:Type}:List α->(List α->Prop)->Prop
 |[],k=>hP (k [])
 |v::l,k=>fcL l fun l=>k (v::l)
theorem Pn {α:Type}:∀{l:List α} {k:List α->Prop},fcL l k->k l
 |[],_,h=>h
 |_::l,k,h=>Pn (l:=l) h
def gu (P:Program) (t:TypeId) (k:Nat->Prop):Prop:=match P.info? t with
 |some ⟨_,_,n,_,_,_,_,_,_,_⟩=>k n
 |none=>hF
theorem zI {k:Nat->Prop} (h:gu P t k):(P.info? t).isSome=true/\k (P.cellsOf t):=by
 unfold gu at h;split at h;grind[Program.cellsOf];cases h
def Qh (P:Program) (a:Ek) (place:Nat->(Nat->Nat->Prop)->Prop):List (Nat×Operand)->(List (Nat×Nat×Value)->Prop)->Prop
 |[],k=>k []
 |(i,x)::rest,k=>place i fun b size=>Cs P a x fun v=>Qh P a place rest fun l=>k ((b,size,v)::l)
theorem Hv {a:Ek} {env:EK} (b:gU a env) {place:Nat->(Nat->Nat->Prop)->Prop} {pl:Nat->Option (Nat×Nat)} (d:∀i k,place i k->∃o s,pl i=some (o,s)/\k o s):
  ∀{l:List (Nat×Operand)} {k:List (Nat×Nat×Value)->Prop},Qh P a place l k->∃r,Bf pl (eC P env) l=some r/\k r
 |[],_,h=>⟨_,rfl,h⟩
 |(i,x)::rest,_,h=>by
  obtain⟨o,s,g,f⟩:=d _ _ h;obtain⟨r,j,m⟩:=Hv b d<|iX b f;grind[Bf]
def plS (P:Program) (fs:Array Field) (i:Nat) (k:Nat->Nat->Prop):Prop:=match fs[i]? with
 |some ⟨_,t,b,_,_,_,_⟩=>gu P t fun n=>k b n
 |none=>hF
def aSv (i:Nat) (k:Nat->Nat->Prop) (h:plS P fs i k):∃o s,((fs[i]?).map fun f=>(f.offset,P.cellsOf f.type))=some (o,s)/\k o s:=by
 unfold plS at h;split at h;rename_i b;exact⟨_,_,by rw[b];rfl,(zI h).2⟩;cases h
def plA (n:Nat) (i:Nat) (k:Nat->Nat->Prop):Prop:=hP<|k (i*n) n
def wZ (P:Program) (t:TypeId) (k:EK->Prop):Prop:=match pH P t with
 |some z=>fcL z k
 |none=>hF
theorem yw {k:EK->Prop} (h:wZ P t k):∃z,pH P t=some z/\k z:=by
 unfold wZ at h;split at h;grind[Pn];cases h
def aS1 (l:EM):Nat->EM->EM
 |0,acc=>acc
 |n+1,acc=>aS1 l n<|l++acc
def kF (P:Program):Nat->TypeId->IC
 |0,_=>none
 |d+1,t=>match P.underlying t with
  |some .bool=>some [1]
  |some (.int _)=>some [0]
  |some .string=>some [2]
  |some (.array n e)=>(match kF P d e with
   |some l=>some (aS1 l n [])
   |none=>none)
  |some (.struct g)=>g.toList.foldr (fun f r=>match kF P d f.type,r with
   |some a,some b=>some (a++b)
   |_,_=>none) (some [])
  |_=>none
def kEq:IC->EM->Bool
 |some l,m=>l==m
 |none,_=>false
theorem aN4 {l:EM} (h:kEq o l=true):o=some l:=by
 unfold kEq at h;grind
def wB (P:Program) (op:BinOp) (t:TypeId) (x y:Operand) (a b:Value) (q:Value->Prop):Prop:=
 match P.underlying t with
 |some (.int _)=>bQ (vX op a b) q
 |some (.pointer _)=>bQ (Sn op a b) q
 |some (.slice _)=>bQ (Rx op a b) q
 |some (.func _ _ _)=>bQ (biF op a b) q
 |some (.interface _)=>(match Cg x||Cg y with
  |true=>bQ (R8 true op a b) q
  |false=>bQ (R8 false op a b) q)
 |some (.struct _)|some (.array _ _)=>(match kF P 20 t with
  |some d=>fcL d fun d=>R0 (kEq (Nc P t) d) d op a b q
  |none=>hF)
 |_=>hF
theorem aUx {op:BinOp} {x y:Operand} {a b:Value} {q:Value->Prop} (h:wB P op t x y a b q):Z4 P op t x y a b q bQ:=by
 unfold wB at h;unfold Z4;split at h;case h_5=>
  grind
 case h_6=>
  split at h;obtain⟨f,h⟩:=Pn h;grind[aN4];cases h
 case h_7=>
  split at h;obtain⟨f,h⟩:=Pn h;grind[aN4];cases h
 all_goals first|(rename_i d;rw[d];exact h)|cases h
def wL (P:Program) (a:Ek) (h:AH) (q:Value->Prop):Op->Prop
 |.move x=>Cs P a x q
 |.assign x=>Cs P a x q
 |.build t d=>wZ P t fun z=>(match P.underlying t with
  |some (.struct j)=>(match j.toList.all (fun f=>(P.info? f.type).isSome) with
   |true=>Qh P a (plS P j) d.toList fun l=>bQ (rL z l) fun c=>q (.agg ⟨c⟩)
   |false=>hF)
  |some (.array _ e)=>gu P e fun n=>Qh P a (plA n) d.toList fun l=>bQ (rL z l) fun c=>q (.agg ⟨c⟩)
  |_=>hF)
 |.load t x=>Cs P a x fun x=>(match lY P t with
  |some true=>gu P t fun n=>bQ (vD h n x) q
  |some false=>bQ (sA h x) q
  |none=>hF)
 |.nilCheck x=>Cs P a x fun x=>bQ (pV x) q
 |.binOp op t x y _=>Cs P a x fun u=>Cs P a y fun v=>wB P op t x y u v q
 |.unOp op _ x=>Cs P a x fun x=>bQ (Xm op x) q
 |.makeInterface t x=>Cs P a x fun x=>(match P.underlying t with
  |some (.interface _)=>hF
  |some _=>q (.iface t x)
  |none=>hF)
 |.makeFunc r first b=>(match r with
  |.func f=>bu P a first.toList fun x=>bu P a b.toList fun y=>q (.func (.func f) ⟨x⟩ ⟨y⟩)
  |_=>hF)
 |.slice t x o k p=>Cs P a x fun x=>aMa P a o fun o=>aMa P a k fun k=>aMa P a p fun p=>(match P.underlying t with
  |some (.slice e)=>gu P e fun n=>bQ (Ao n h x o k p) q
  |_=>hF)
 |.fieldAddr s x f=>Cs P a x fun x=>(match P.underlying s with
  |some (.struct j)=>(match j[f]? with
   |some ⟨_,t,g,_,_,_,_⟩=>gu P t fun n=>(match Nat.beq n 0 with
    |true=>hF
    |false=>bQ (iZ g x) q)
   |none=>hF)
  |_=>hF)
 |.field t x f=>Cs P a x fun x=>(match P.underlying t with
  |some (.struct j)=>(match j[f]? with
   |some ⟨_,t,g,_,_,_,_⟩=>(match lY P t with
    |some true=>gu P t fun n=>bQ (rQ g n x) q
    |some false=>bQ (sH g x) q
    |none=>hF)
   |none=>hF)
  |_=>hF)
 |.indexAddr t x i=>Cs P a x fun x=>Cs P a i fun i=>(match P.underlying t with
  |some (.array n e)=>gu P e fun m=>bQ (qJ n m x i) q
  |some (.slice e)=>gu P e fun m=>bQ (mQ m x i) q
  |_=>hF)
 |.index t x i=>Cs P a x fun x=>Cs P a i fun i=>(match P.underlying t with
  |some (.array n e)=>gu P e fun m=>(match lY P e with
   |some true=>bQ (Ub n m x i) q
   |some false=>bQ (Qv n m x i) q
   |none=>hF)
  |_=>hF)
 |.extract t i=>Cs P a t fun t=>bQ (tD i t) q
 |.lookup t x ix ok=>Cs P a x fun x=>Cs P a ix fun ix=>(match Ky P t with
  |some e=>(match gh P e with
   |some z=>bQ (lkV z h x ix ok) q
   |none=>hF)
  |none=>hF)
 |_=>hF
theorem aTc {a:Ek} (d:gU a env) {h:AH} {q:Value->Prop} (b:wL P a h q op):oO P (eC P env) h q op:=by
 unfold wL at b;split at b;case h_1=>exact iX d b
 case h_2=>exact iX d b
 case h_3=>
  obtain⟨z,v,b⟩:=yw b;unfold oO;split at b;rename_i j;split at b;rename_i o;obtain⟨r,m,p⟩:=Hv d aSv b;grind;cases b;rename_i e j;obtain⟨u,b⟩:=zI b;obtain⟨r,m,p⟩:=Hv d (fun i k t=>⟨_,_,rfl,t⟩) b;grind;cases b
 case h_4=>
  have b:=iX d b;unfold oO;split at b;rename_i j;simp only[j];exact(zI b).2;grind;cases b
 case h_5=>exact iX d b
 case h_6=>exact aUx<|iX d<|iX d b
 case h_7=>exact iX d b
 case h_8=>
  have b:=iX d b;unfold oO;split at b;cases b;grind;cases b
 case h_9=>
  unfold oO;split at b;simpa only[List.map_toArray,<-BX] using(Gy d<|Gy d b);cases b
 case h_10=>
  have b:=jo d<|jo d<|jo d<|iX d b;unfold oO;split at b;grind[zI];cases b
 case h_11=>
  have b:=iX d b;unfold oO;split at b;rename_i g;simp only[g];split at b;rename_i f;simp only[f];obtain⟨_,b⟩:=zI b;split at b;cases b;rw[aXf fun e=>FY];exact b;cases b;cases b
 case h_12=>
  have b:=iX d b;unfold oO;split at b;rename_i g;simp only[g];split at b;rename_i f;simp only[f];split at b;rename_i s;simp only[s];exact(zI b).2;grind;cases b;cases b;cases b
 case h_13=>
  have b:=iX d<|iX d b;unfold oO;split at b;grind[zI];grind[zI];cases b
 case h_14=>
  have b:=iX d<|iX d b;unfold oO;split at b;obtain⟨m,b⟩:=zI b;split at b;grind;grind;cases b;cases b
 case h_15=>exact iX d b
 case h_16=>
  have b:=iX d<|iX d b;unfold oO;split at b;split at b;grind;cases b;cases b
 case h_17=>cases b
def isI (v:Value) (p:Prop):Prop:=∃k n,v= .int k n/\p
def aSj {n:Int} {p:Prop} (b:p):isI (I n) p:=⟨_,n,rfl,b⟩
def aW8:EM:=[0,1,2,3,4,5,6,7,8,9,10,11,12,13,14,15,16,17,18,19,20,21,22,23,24,25,26,27,28,29,30,31,32,33,34,35,36,37,38,39,40,41,42,43,44,45,46,47,48,49,50,51,52,53,54,55,56,57,58,59,60,61,62,63,64,65,66,67,68,69,70,71,72,73,74,75,76,77,78,79,80,81,82,83,84,85,86,87,88,89,90,91,92,93,94,95,96,97,98,99]
def nK (n:Nat) (k:Nat->Prop):Prop:=match aW8[n]? with
 |some m=>(match Nat.beq m n with
  |true=>k m
  |false=>hF)
 |none=>k n
theorem aGp {k:Nat->Prop} (h:nK n k):k n:=by
 unfold nK at h;split at h;split at h;simp_all;cases h;exact h
def bzW (P:Program) (t:TypeId) (k:Nat->Prop):Prop:=match P.info? t with
 |some ⟨_,_,_,n,_,_,_,_,_,_⟩=>k n
 |none=>hF
theorem aN6 {k:Nat->Prop} (h:bzW P t k):k (P.bytesOf t):=by
 unfold bzW at h;split at h;grind[Program.bytesOf];cases h
def wBI (P:Program) (h:AH) (q:Value->AH->Prop) (d:Array TypeId):Builtin->EK->Prop
 |.len,[x]=>match(d[0]?).bind P.underlying with
  |some (.slice _)=>bQ (pG x) fun v=>q v h
  |some (.array n _)=>q (I n) h
  |some (.map _ _)=>bQ (aHs h x) fun v=>q v h
  |_=>hF
 |.append,[s,x]=>match(d[0]?).bind P.underlying with
  |some (.slice e)=>(match Ns P d with
   |true=>wZ P e fun _=>gu P e fun n=>bzW P e fun m=>bQ (kH n m e h s x) fun r=>(match r with|(v,b)=>q v b)
   |false=>hF)
  |_=>hF
 |.clear,[x]=>match(d[0]?).bind P.underlying with
  |some (.slice e)=>wZ P e fun z=>bQ (jX z h x) fun r=>(match r with|(v,b)=>q v b)
  |_=>hF
 |.min,[x,y]=>bQ (B0 x y) fun v=>q v h
 |.delete,[m,k]=>(match d[0]? with
  |some t=>(match Ky P t with
   |some _=>bQ (T7 h m k) fun b=>q (.tuple #[]) b
   |none=>hF)
  |none=>hF)
 |_,_=>hF
theorem aMy {h:AH} {b:Builtin} {l:EK} (d:wBI P h q g b l):Al P h q g b l:=by
 unfold wBI at d;unfold Al;split at d;split at d<;>(rename_i f;simp only[f];exact d);split at d;rename_i f;simp only[f];split at d;obtain⟨z,i,d⟩:=yw d;rw[aXg ES];exact aN6<|(zI d).2;cases d;cases d;split at d;grind[yw];cases d;exact d;split at d;split at d;grind;cases d;cases d;cases d
def wH (P:Program) (K:FuncId->EK->HQ) (a:Ek) (h:AH) (q:Value->AH->Prop):Op->Prop
 |.store t p x=>gu P t fun n=>Cs P a p fun p=>Cs P a x fun x=>bQ (vT h n p x) fun d=>q undef d
 |.call c=>(match c.callee with
  |.builtin b=>bu P a c.args.toList fun l=>wBI P h q c.argTypes b l
  |.value (.func g)=>(match iR P g with
   |true=>bu P a c.args.toList fun l=>Cl P K g l h q
   |false=>hF)
  |.value f=>Cs P a f fun f=>bu P a c.args.toList fun l=>Cx P K f l h q
  |.invoke _ _=>hF)
 |.mapUpdate t m k x=>(match Ky P t with
  |some _=>Cs P a m fun m=>Cs P a k fun k=>Cs P a x fun x=>bQ (Up h m k x) fun d=>q undef d
  |none=>hF)
 |_=>hF
theorem aO4 {a:Ek} (d:gU a env) {h:AH} (b:wH P K a h q op):Ix P K (eC P env) h q op:=by
 unfold wH at b;unfold Ix;split at b;obtain⟨i,b⟩:=zI b;grind[iX];split at b;grind[aMy,Gy];rename_i f;simp only[f];split at b;rename_i g;simp only[g,e9];exact Gy d b;cases b;grind[Gy,iX];cases b;split at b;grind[iX];cases b;cases b
def wA (P:Program) (a:Ek) (mk:oU->(Nat->AH->Prop)->Prop) (Jw:Nat->TypeId->EK->Nat->Nat->(Value->AH->Prop)->Prop) (q:Value->AH->Prop):Op->Prop
 |.alloc e=>wZ P e fun z=>mk (.cells z e (0,0) true) fun p d=>q (IE p) d
 |.box e x=>Cs P a x fun x=>bQ (nA e x) fun b=>mk b fun p d=>q (IE p) d
 |.buildSlice t len f=>match P.underlying t with
  |some (.slice e)=>wZ P e fun z=>gu P e fun n=>(match Nat.ble (len*n) 16777216 with
   |true=>Qh P a (plA n) f.toList fun g=>fcL (gB z len) fun i=>bQ (rL i g) fun l=>Jw n e l len len q
   |false=>hF)
  |_=>hF
 |.makeSlice t l c=>match P.underlying t with
  |some (.slice e)=>wZ P e fun z=>gu P e fun n=>bzW P e fun m=>Cs P a l fun l=>Cs P a c fun c=>bQ (aVg m l c) fun r=>Jw n e (gB z r.2) r.1 r.2 q
  |_=>hF
 |.makeMap _ none=>mk (.map [] 0) fun p d=>q (jE p) d
 |.makeMap t (some x)=>match P.underlying t with
  |some (.map _ _)=>Cs P a x fun x=>isI x (mk (.map [] 0) fun p d=>q (jE p) d)
  |_=>hF
 |_=>hF where
      aVg:=Go.Ab.Jw
theorem aRs {a:Ek} (g:gU a env) {mk:oU->(Nat->AH->Prop)->Prop} {Jw:Nat->TypeId->EK->Nat->Nat->(Value->AH->Prop)->Prop}
  (v:∀W e l n c k,Jw W e l n c k->mk (.cells l e (0,0) true) fun p m=>k (aI0 n c p) m) (d:wA P a mk Jw q op):
  I8 P (eC P env) (fun b f=>mk b fun i m=>q (f i) m) op:=by
 unfold wA at d
 unfold I8
 split at d
 .obtain⟨z,j,d⟩:=yw d;simp only[j];exact d
 .exact iX g d
 .split at d
  .rename_i o;simp only[o];obtain⟨z,j,d⟩:=yw d;obtain⟨_,d⟩:=zI d;simp only[j];split at d
   .rename_i t;rw[aXg<|l7 t];obtain⟨r,s,d⟩:=Hv g (fun i k u=>⟨_,_,rfl,u⟩) d;simp only[s];exact(Pn d).mono ES
   .cases d
  .cases d
 .split at d
  .rename_i o;simp only[o];obtain⟨z,j,d⟩:=yw d;simp only[j];exact(iX g<|iX g<|aN6<|(zI d).2).mono ES
  .cases d
 .exact d
 .split at d
  .obtain⟨k,n,s,d⟩:=iX g d;grind
  .cases d
 .cases d
end
end Go.Ab
variable {x:Int} {l:EL} {W b c cl i j:Nat} {v:Value} {d f:Nat->EO} {Q:Value->AH->Prop} {e:TypeId} {a:EN}
namespace Go.Ab
variable {K:FuncId->EK->HQ} {G:Bg} {h:AH} {L L' M:HL}
abbrev ME:=Nat×Value×Nat
abbrev HZ:=List ME
def yE (es:HZ):List (Value×Value×Nat):=es.map fun x=>(I x.1,x.2.1,x.2.2)
def X8 (n:Int):HZ->Nat->Option (Nat×Value)
 |[],_=>none
 |x::b,i=>if n=(x.1:Int) then some (i,x.2.1) else X8 n b (i+1)
theorem Fg (n:Int):∀(es:HZ) (i:Nat),Ax .i64 n (yE es) i=some (X8 n es i)
 |[],i=>rfl
 |x::es,i=>by
  show(if IntKind.i64=IntKind.i64 then(if n=(x.1:Int) then some _ else Ax .i64 n (yE es) _) else none)=_;rw[aXg rfl,Fg n es _];by_cases e:n=(x.1:Int);simp_all[aXg,X8];simp_all[aXf,X8]
structure MOk (es:HZ) (clock:Nat):Prop where
 nd:(es.map (·.1)).Nodup
 st:∀x∈es,x.2.2<clock
 sd:(es.map (·.2.2)).Nodup
 kb:∀x∈es,x.1<16
def oR (es:HZ) (k:Nat):EO:=(X8 k es 0).map (·.2)
theorem Wn {n:Int}:∀{es:HZ} {i j:Nat} {v:Value},X8 n es i=some (j,v)->i<=j/\∃x,es[j - i]?=some x/\(x.1:Int)=n/\x.2.1=v
 |[],i,j,v,h=>EY
 |x::es,i,j,v,h=>by
  unfold X8 at h;split at h;grind;obtain⟨b,y,d,f,g⟩:=Wn h;grind
def S0 {n:Int}:∀{es:HZ} {i:Nat},(X8 n es<|i+1).map (·.2)=(X8 n es i).map (·.2)
 |[],_=>rfl
 |x::es,i=>by
  unfold X8;split;rfl;exact S0
variable {es:HZ}
theorem rA {x:ME} {k:Nat}:oR (x::es) k=if k=x.1 then some x.2.1 else oR es k:=by
 unfold oR;rw[X8];by_cases e:k=x.1;grind;rw[aab,aXf e];exact S0
theorem x6 {x:ME} {k:Nat}:oR (es++[x]) k=(oR es k).or (if k=x.1 then some x.2.1 else none):=by
 induction es with
 |nil=>grind[rA,oR,X8]
 |cons y es b=>grind[rA]
theorem B8 {k:Nat}:oR es k=none↔k∉es.map (·.1):=by
 induction es with
 |nil=>simp[oR,X8]
 |cons y es b=>grind[rA]
theorem zo {x:ME} {k:Nat} (b:es[i]?=some x) (d:(es.map (·.1)).Nodup):oR (es.modify i fun e=>(x.1,v,e.2.2)) k=if k=x.1 then some v else oR es k:=by
 induction es generalizing i with
 |nil=>simp at b
 |cons y es f=>
  cases i with
  |zero=>
   grind[List.getElem?_cons_zero,Option.some.injEq,List.modify_zero_cons,rA]
  |succ i=>
   grind[List.getElem?_cons_succ,List.mem_of_getElem?,List.modify_succ_cons,rA]
theorem xl {x:ME} {k:Nat} (b:es[i]?=some x) (d:(es.map (·.1)).Nodup):oR (es.eraseIdx i) k=if k=x.1 then none else oR es k:=by
 induction es generalizing i with
 |nil=>simp at b
 |cons y es f=>
  cases i with
  |zero=>
   grind[List.getElem?_cons_zero,Option.some.injEq,List.eraseIdx_cons_zero,rA,B8]
  |succ i=>
   grind[List.getElem?_cons_succ,List.mem_of_getElem?,rA]
def Py {α:Type} (f:Nat->α) (i:Nat) (v:α):Nat->α:=fun j=>if j=i then v else f j
def oB (b:Nat) (f:Nat->EO):HP:=xC fun x:HZ×Nat=>sp [xG (MOk x.1 x.2/\∀k,oR x.1 k=f k),ot b<|.map (yE x.1) x.2]
def Eh (g:Hs G h (oB b f::L)):∃d cl,(MOk d cl/\∀k,oR d k=f k)/\Hs G h (ot b (.map (yE d) cl)::L):=by
 obtain⟨⟨d,cl⟩,g⟩:=g.uI;obtain⟨i,g⟩:=(Hs.dT g).X6;exact⟨d,cl,i,g⟩
def wY (d:MOk es cl) (g:∀k,oR es k=f k) (i:Hs G h (ot b (.map (yE es) cl)::L)):Hs G h (oB b f::L):=
 Hs.tG (A:=fun x:HZ×Nat=>sp [xG (MOk x.1 x.2/\∀k,oR x.1 k=f k),ot b<|.map (yE x.1) x.2]) (es,cl) (Hs.kC (A:=[_,_])<|Hs.Xg ⟨d,g⟩ i)
def aDe {k:Nat->AH->Prop} (f:Hs G h L) (d:∀p b,Hs G b (oB p (fun _=>none)::L)->k p b):F4 h (.map [] 0) k:=
 d _ _ (wY (es:=[]) (cl:=0) ⟨EV,EV,EV,EV⟩ (fun _=>rfl)<|f.aO5 rfl)
def Qp {o:oU} (d:Oz o=true) (f:Hs G h (ot b o::L)):h.get b=some o/\h.base<=b:=⟨(Hs.Dz (o':=o) d f).1,(Hs.Dz (o':=o) d f).2.1⟩
theorem aV6 {z:Value} {n:Int} {ok:Bool} (g:Hs G h L) [m:dH (oB b) L f L']
  (i:k (match(if 0<=n then f n.toNat else none) with
   |some v=>if ok then .tuple ⟨[v,.bool true]⟩ else v
   |none=>if ok then .tuple ⟨[z,.bool false]⟩ else z)):bQ (lkV z h (jE b) (I n) ok) k:=by
 obtain⟨d,cl,⟨o,q⟩,g⟩:=Eh<|m.of g
 have j:pj h (jE b)=some (yE d):=by unfold pj jE;simp only[(Qp rfl g).1]
 have e:(X8 n d 0).map (·.2)=if 0<=n then f n.toNat else none:=by
  split;grind[oR];cases hx:X8 n d 0 with
  |none=>rfl
  |some p=>
   obtain⟨_,x,_,r,_⟩:=Wn hx;omega
 rw[<-e] at i
 unfold lkV
 rw[j]
 simp only[Fg]
 cases hx:X8 n d 0 with
 |none=>simp_all
 |some p=>simp_all
theorem aPb {x:ME} (b:es[i]?=some x):(es.modify i fun e=>(x.1,v,e.2.2)).map (·.1)=es.map (·.1)/\(es.modify i fun e=>(x.1,v,e.2.2)).map (·.2.2)=es.map (·.2.2):=by
 induction es generalizing i with
 |nil=>simp at b
 |cons y es d=>
  grind
theorem aBu {x:ME} (b:es[i]?=some x):(yE es).modify i (fun e=>(I x.1,v,e.2.2))=yE (es.modify i fun e=>(x.1,v,e.2.2)):=by
 unfold yE;induction es generalizing i with
 |nil=>simp at b
 |cons y es d=>
  grind
def au:∀{es:HZ} {i:Nat},(yE es).eraseIdx i=yE (es.eraseIdx i)
 |[],_=>rfl
 |x::es,0=>rfl
 |x::es,i+1=>by
  show(_::(yE es).eraseIdx i)=(_::yE _);rw[au]
theorem V8 {k:AH->Prop} (r:Hs G h L) [m:dH (oB b) L f L'] (Q:i<16) (B:∀w,Hs G w (oB b (Py f i<|some v)::L')->k w):bQ (Up h (jE b) (I i) v) k:=by
 obtain⟨q,cl,⟨g,H⟩,r⟩:=Eh<|m.of r;obtain⟨D,O⟩:=Qp rfl r;unfold Up jE;simp only[D,aXf<|show ¬b<h.base by omega];unfold aKa;simp only[Fg];cases d:X8 _ q 0 with
 |none=>
  have R:oR q i=none:=by unfold oR;rw[d];rfl
  refine⟨_,rfl,B _ ?_⟩;have e:yE q++[(Value.int .i64 (i:Int),v,cl)]=yE (q++[(i,v,cl)]):=by unfold yE;grind
  rw[e];refine wY ⟨?_,?_,?_,?_⟩ ?_ (Hs.Dz rfl r).2.2;rw[k8,CN];refine⟨g.nd,EV,?_⟩;grind[B8];intro x d;rcases cL.1 d with d|d;have:=g.st x d;omega;grind;rw[k8,CN];refine⟨g.sd,EV,?_⟩;intro a C c A e;have A:c=cl:=by simpa using A
  obtain⟨x,d,rfl⟩:=gL.1 C;have:=g.st x d;omega;intro x d;rcases cL.1 d with d|d;exact g.kb x d;grind;intro j;rw[x6];unfold Py;grind
 |some p=>
  obtain⟨_,x,t,J,N⟩:=Wn d;rw[DZ] at t;have s:x.1=i:=ER
  refine⟨_,rfl,B _ ?_⟩;have:=aBu (v:=v) t;rw[s] at this;rw[this];obtain⟨n1,n2⟩:=aPb (v:=v) t;rw[s] at n1 n2;refine wY ⟨by rw[n1];exact g.nd,?_,by rw[n2];exact g.sd,?_⟩ ?_ (Hs.Dz rfl r).2.2;intro y E;have:y.2.2∈(q.modify p.1 fun e=>(i,v,e.2.2)).map (·.2.2):=ES;rw[n2] at this;obtain⟨z,u,o⟩:=gL.1 this;rw[<-o];exact g.st z u;intro y E;have:y.1∈(q.modify p.1 fun e=>(i,v,e.2.2)).map (·.1):=ES;rw[n1] at this;obtain⟨z,u,o⟩:=gL.1 this;rw[<-o];exact g.kb z u;intro j;have:=zo (v:=v) (k:=j) t g.nd;grind[Py]
theorem aOd {k:AH->Prop} (o:Hs G h L) [m:dH (oB b) L f L'] (v:∀t,Hs G t (oB b (Py f i none)::L')->k t):bQ (T7 h (jE b)<|I i) k:=by
 obtain⟨q,cl,⟨g,w⟩,o⟩:=Eh<|m.of o;obtain⟨z,C⟩:=Qp rfl o;unfold T7 jE;simp only[z,aXf<|show ¬b<h.base by omega,Fg];cases hx:X8 _ q 0 with
 |none=>
  have D:oR q i=none:=by unfold oR;rw[hx];rfl
  refine⟨_,rfl,v _<|wY g (fun j=>?_) (Hs.Dz rfl o).2.2⟩;unfold Py;grind
 |some p=>
  obtain⟨_,x,u,A,B⟩:=Wn hx;rw[DZ] at u;have r:x.1=i:=ER
  refine⟨_,rfl,v _ ?_⟩;rw[au];have d:=List.eraseIdx_sublist q p.1;refine wY ⟨(d.map _).nodup g.nd,fun y s=>g.st y<|d.mem s,(d.map _).nodup g.sd,fun y s=>g.kb y<|d.mem s⟩ (fun j=>?_) (Hs.Dz rfl o).2.2;rw[xl u g.nd,r,w j];rfl
theorem aOz (d:Hs G h L) [m:dH (oB b) L f L'] (i:∀n:Nat,k<|I n):bQ (aHs h<|jE b) k:=by
 obtain⟨g,cl,_,d⟩:=Eh<|m.of d;obtain⟨j,_⟩:=Qp rfl d;refine⟨I (yE g).length,?_,i _⟩;grind[aHs,pj,jE]
variable {y:Int}
theorem df:y∈Hb x l↔y=x\/y∈l:=by
 induction l with
 |nil=>simp[Hb]
 |cons a l b=>unfold Hb;grind
theorem T6:y∈yD l↔y∈l:=by
 induction l with
 |nil=>simp[yD]
 |cons a l b=>grind[yD,df]
theorem ga (h:l.Pairwise (·<·)) (b:x∉l):(Hb x l).Pairwise (·<·):=by
 induction l with
 |nil=>simp[Hb]
 |cons a l d=>
  grind[List.pairwise_cons,Hb,df]
def Wb (h:l.Nodup):(yD l).Pairwise (·<·):=by
 induction l with
 |nil=>simp[yD]
 |cons a l f=>
  obtain⟨b,d⟩:=AE.1 h;exact ga (f d) fun e=>b<|T6.1 e
theorem my {m:EL} (d:l.Pairwise (·<·)) (f:m.Pairwise (·<·)) (h:∀x,x∈l↔x∈m):l=m:=by
 induction l generalizing m with
 |nil=>
  cases m with
  |nil=>rfl
  |cons y m=>exact absurd ((h y).2 EV) EV
 |cons x l o=>
  cases m with
  |nil=>grind
  |cons y m=>
   obtain⟨a1,g⟩:=CI.1 d;obtain⟨i,j⟩:=CI.1 f;have e:x=y:=by
    have b:=(h x).1 EV;have k:=(h y).2 EV;rcases j2.1 b with e|b;exact e;grind
   grind
def Gf (f:Nat->EO):EM:=(List.range 16).filter fun k=>(f k).isSome
theorem jf (es:HZ):Hq (yE es)=some (es.map fun x=>(x.1:Int)):=by
 induction es with
 |nil=>rfl
 |cons x es b=>
  grind[Hq,yE]
def Vs (n:Nat):(List.range n).Pairwise (·<·):=List.pairwise_lt_range
theorem Lj (d:MOk es cl) (g:∀k,oR es k=f k):yD (es.map fun x=>(x.1:Int))=(Gf f).map fun k:Nat=>(k:Int):=by
 refine my (Wb ?_) ?_ fun x=>?_;have:=d.nd;grind;exact List.Pairwise.map (R:=(·<·)) _ ER<|List.Pairwise.filter _<|Vs 16;rw[T6];simp only[gL,Gf,BB,k7];constructor;rintro ⟨y,j,rfl⟩;refine⟨y.1,⟨d.kb y j,?_⟩,rfl⟩;rw[<-g];cases hl:oR es y.1 with
 |none=>grind[absurd,B8]
 |some v=>rfl
 rintro ⟨k,⟨_,b⟩,rfl⟩;rw[<-g] at b;have:k∈es.map (·.1):=by
  refine AY fun i=>?_;rw[B8.2 i] at b;cases b
 grind
theorem O9 {cl:Nat}:∀{es:HZ},(∀x∈es,x.2.2<cl)->(es.map (·.2.2)).Nodup->E2 cl (yE es)=true
 |[],_,_=>rfl
 |x::es,h,d=>by
  simp only[kx,AE] at d;show(Nat.blt x.2.2 cl&&((yE es).all fun y=> !Nat.beq _ x.2.2)&&E2 cl (yE es))=true;rw[O9 (fun y b=>h y<|eK _ b) d.2,CV,dn];refine⟨k6<|h x EV,?_⟩;rw[lP];intro y b;obtain⟨z,f,rfl⟩:=gL.1 b;have:z.2.2≠x.2.2:=ES;cases hb:Nat.beq _ _ with
  |false=>rfl
  |true=>simp_all
theorem cm:∀{l:EM},(∀x∈l,x<16)->l.Nodup->Uc (l.map fun k:Nat=>(k:Int))=true
 |[],_,_=>rfl
 |x::l,h,d=>by
  obtain⟨f,b⟩:=AE.1 d;show((Lit.int .i64 (x:Int)).wf&&((l.map fun k:Nat=>(k:Int)).all fun y=> !(y==(x:Int)))&&Uc _)=true;rw[cm ES b,CV,dn];refine⟨?_,?_⟩;have:x=0\/x=1\/x=2\/x=3\/x=4\/x=5\/x=6\/x=7\/x=8\/x=9\/x=10\/x=11\/x=12\/x=13\/x=14\/x=15:=by have:=h x EV;omega
  rcases this with rfl|rfl|rfl|rfl|rfl|rfl|rfl|rfl|rfl|rfl|rfl|rfl|rfl|rfl|rfl|rfl<;>rfl;grind
theorem aHz:(Hb x l).length=l.length+1:=by
 induction l with
 |nil=>rfl
 |cons a l b=>grind[Hb]
theorem aAm:(yD l).length=l.length:=by
 induction l with
 |nil=>rfl
 |cons a l b=>grind[yD,aHz]
theorem aIy (b:MOk es cl):es.length<=16:=by
 have h:=eb List.length<|Lj b fun _=>rfl;rw[aAm,js,js] at h;rw[h];exact rk (fun k=>(oR es k).isSome)<|List.range 16
theorem uL {f:FuncId} {args:EK} {F:AH->Option (Value×AH)} {h':AH} (d:K f args=some (.Aa F)) (hF:F h=some (v,h')) (b:Q v h'):Cl P K f args h Q:=by
 refine⟨1,(⟨.nI,[],[],v⟩,h'),?_,b⟩;show oK P K _ f args h=_;grind[oK]
theorem aGw {f:FuncId} {args:EK} {e2:TypeId} (J:K f args=some (.Aa<|Fb e c)) (O:Hs G h (aG c 0 [jE b]::mt c (e2,true,1)::oB b d::L))
  (V:∀a cp C,Hs G C (dJ 1 e a cp ((Gf d).length,(Gf d).map fun k:Nat=>I k)::oB b d::L)->Q (.slice a (Gf d).length cp) C):Cl P K f args h Q:=by
 have m:=O
 obtain⟨o,cl,⟨j,R⟩,z⟩:=Eh<|(O.cR<|(List.Perm.swap _ _ _).cons _).cR<|List.Perm.swap _ _ _
 obtain⟨T,hb⟩:=Qp rfl z
 have g:∃B,h.get c=some (.cells [jE b] B (0,0) true):=by
  obtain⟨r,r2,X,t,hd,U,s⟩:=m.fst;obtain⟨r3,r4,u,Y,p,rfl⟩:=t;cases X;cases u;obtain⟨i1,i2⟩:=(dQ.gQ p).1 s;obtain⟨_,c',D,S⟩:=i1.mt c e2 true 1 EV;obtain⟨_,c2,e3,x3,E,H⟩:=U.fK c 0 (jE b) (by simp[uC]);rw[D] at E;cases E;refine⟨e2,?_⟩;rw[D];obtain⟨v,rfl⟩:=BL.1 S;simp only[r5,Option.some.injEq] at H;rw[H]
 obtain⟨B,g⟩:=g
 have hF:Fb e c h=some (qs h e<|yD<|o.map fun x=>(x.1:Int)):=by
  unfold Fb;simp only[g,jE,T,jf];rw[aXg];rw[dn,dn];refine⟨⟨?_,O9 j.st j.sd⟩,?_⟩;grind[aIy,List.length_map,Nat.ble_eq_true_of_le];rw[show(o.map fun x=>(x.1:Int))=(o.map (·.1)).map fun k:Nat=>(k:Int) by simp_all];exact cm (fun x Z=>by obtain⟨y,hy,rfl⟩:=gL.1 Z;exact j.kb y hy) j.nd
 rw[Lj j R] at hF
 have w:=m.tail.tail
 cases hkf:Gf d with
 |nil=>
  rw[hkf] at hF
  refine uL J hF ?_
  simp_all[none,iY]
 |cons x l=>
  rw[hkf] at hF
  refine uL J hF ?_
  have i:=V (some ⟨h.next,0,none⟩) (Gf d).length<|h.alloc<|.cells (((Gf d).map fun k:Nat=>(k:Int)).map<|Value.int .i64) e (0,0) false
  rw[hkf] at i
  simp only[k5,kx,js] at i ⊢
  refine i ?_
  refine Hs.join (A:=[_,_]) (w.lK (c:=Value.int .i64 (x:Int)::((l.map fun k:Nat=>(k:Int)).map<|Value.int .i64)) (e:=e) (x:=false)) fun q N=>?_
  have N:=sL N
  refine⟨EV,?_,.inr<|.inr ⟨ba _,_,[],[],false,rfl,EV,?_⟩⟩
  .simp[gA]
  grind[List.map_map,Function.comp_def]
class Fx {α:Type} (enc:α->EK) (W:outParam Nat):Prop where
 len:∀x,(enc x).length=W
 cel:∀x,(enc x).all gA=true
def eL {α:Type} (enc:α->EK) (l:List α):EK:=l.flatMap enc
variable {α:Type}
section
variable {enc:α->EK} [F:Fx enc W]
omit F in
@[simp] theorem aO2:eL enc []=[]:=rfl
omit F in
def qV {x:α} {l:List α}:eL enc (x::l)=enc x++eL enc l:=rfl
omit F in
theorem aE8 {l m:List α}:eL enc (l++m)=eL enc l++eL enc m:=by simp[eL]
theorem Dc {l:List α}:(eL enc l).length=l.length*W:=by
 induction l with
 |nil=>simp
 |cons x l b=>rw[qV,bj,F.len,b,k5,ux];omega
include F in
theorem Kw {l:List α}:(eL enc l).all gA=true:=by
 induction l with
 |nil=>rfl
 |cons x l b=>rw[qV,DC,F.cel,b];rfl
def Vp {l:List α}:∀{i:Nat},(eL enc l).drop (i*W)=eL enc (l.drop i):=by
 induction l with
 |nil=>intro i;simp
 |cons x l b=>
  intro i;cases i with
  |zero=>simp
  |succ i=>
   rw[qV,CE,ux,CR,eg<|by rw[F.len];omega,F.len,show i*W+W - W=i*W by omega,b,hZ]
def se {l:List α}:∀{i:Nat},(eL enc l).take (i*W)=eL enc (l.take i):=by
 induction l with
 |nil=>intro i;simp
 |cons x l b=>
  intro i;cases i with
  |zero=>simp
  |succ i=>
   rw[qV,BF,qV,ux,CP,e8<|by rw[F.len];omega,F.len,show i*W+W - W=i*W by omega,b]
def aDw {l:List α} {x:α} (h:l[i]?=some x):((eL enc l).drop<|i*W).take W=enc x:=by
 obtain⟨d,b⟩:=eh.1 h;rw[Vp,k9 d,qV,b];exact List.take_left'<|F.len x
theorem I4 {l:List α} {x:α} (h:l[i]?=some x) (d:(enc x)[j]?=some v):(eL enc l)[i*W+j]?=some v:=by
 have b:=aDw (enc:=enc) h;grind
def aD3 {l:List α} {y:α} (b:i<l.length):dU (eL enc l) (i*W) (enc y)=eL enc (l.set i y):=by
 rw[<-rO _ _ _ (by rw[Dc,F.len,<-ux];exact p9 _ b)];unfold dK;rw[se,F.len,<-ux,Vp,List.set_eq_take_append_cons_drop,aXg b,aE8,qV,dx]
def ls (enc:α->EK) (W:Nat) (e:TypeId) (a:EN) (c:Nat) (l:List α):HP:=dJ W e a c (l.length,eL enc l)
omit F in
def oI [Fx enc W] {e:TypeId} (b:Hs G h L):Hs G h (ls enc W e none 0 []::L):=iY b
variable {l:List α}
omit F in
def nH {x:α} (b:Hs G h (dJ W e a c (1,enc x)::L)):Hs G h (ls enc W e a c [x]::L):=by
 unfold ls;rw[qV,aO2,hX];exact b
theorem vS {i:Int} {x:α} (g:Hs G h L) [m:dH (ls enc W e a c) L l L'] (d:0<W) (b:0<=i) (o:l[i.toNat]?=some x) (f:k (.agg ⟨enc x⟩)):bQ (mQ W (.slice a l.length c)<|I i) fun p=>bQ (vD h W p) k:=by
 obtain⟨j,rfl⟩:=cb b;exact aD8 (e:=e) (show Hs G h (dJ W e a c (l.length,eL enc l)::L') from m.of g) d ES (aDw o) (F.len x) f
theorem aFx {i:Int} {x:α} {u:Value} (f:Hs G h L) [m:dH (ls enc W e a c) L l L'] (b:0<=i) (o:l[i.toNat]?=some x) (g:(enc x)[j]?=some u) (d:k u):bQ (mQ W (.slice a l.length c)<|I i) fun p=>bQ (iZ j p) fun q=>bQ (sA h q) k:=by
 obtain⟨n,rfl⟩:=cb b;exact aF9 (e:=e) (show Hs G h (dJ W e a c (l.length,eL enc l)::L') from m.of f) ES (I4 o g) d
theorem W1 {i:Int} {y:α} {k:AH->Prop} (r:Hs G h L) [m:dH (ls enc W e a c) L l L'] (s:0<W) (q:0<=i) (t:i<l.length) (u:∀f,Hs G f (ls enc W e a c (l.set i.toNat y)::L')->k f):bQ (mQ W (.slice a l.length c)<|I i) fun p=>bQ (vT h W p<|.agg ⟨enc y⟩) k:=by
 obtain⟨n,rfl⟩:=cb q;have g:n<l.length:=ER
 obtain⟨b,o,rfl,j⟩:=(m.of r).gF ER;refine dR g ?_;rw[show pt b _ 0=pt b o (n*W) by simp[pt]];have hle:n*W+W<=(eL enc l).length:=by rw[Dc,<-ux];exact p9 _ g
 refine bS j (F.len y) (k6 hle) (F.cel y) (k6 ER) fun f d=>?_;rw[aD3 g] at d;grind[Int.toNat_natCast,ls,List.length_set,Hs.kZ,Dc,Kw]
omit F in
theorem jO [Fx enc W] {bytes c2:Nat} {a2:EN} {l2:List α} {k:Value×AH->Prop} (g:Hs G h L) [m:dH (ls enc W e a c) L l L'] [m2:dH (ls enc W e a2 c2) L' l2 M] (j:(l.length+l2.length)*(bytes+1)<=2^46)
  (o:∀b d f,Hs G f (ls enc W e b d (l++l2)::ls enc W e a2 c2 l2::M)->k (.slice b (l++l2).length d,f)):bQ (kH W bytes e h (.slice a l.length c)<|.slice a2 l2.length c2) k:=by
 have i:Hs G h (dJ W e a c (l.length,eL enc l)::dJ W e a2 c2 (l2.length,eL enc l2)::M):=(((m.of g).cR<|(m2.cR.cons _).trans<|List.Perm.swap _ _ _)).oN
 grind[vO,ls,List.length_append,aE8]
end
def aQd {a b:Int} (d:k (I<|if b<a then b else a)):bQ (B0 (I a)<|I b) k:=⟨_,rfl,d⟩
theorem aLf {enc:α->EK} {l:List α} (v:Hs G h L) [m:dH (ls enc W e a c) L l L'] (A:i<l.length) (s:i<=j) (B:j<=l.length)
  (t:∀b o,a=some ⟨b,o,none⟩->k (.slice (some ⟨b,o+i*W,none⟩) (j - i)<|c - i)):bQ (Ao W h (.slice a l.length c) (some<|I i) (some<|I j) none) k:=by
 have w:l.length<=c/\∃b o,a=some ⟨b,o,none⟩:=(m.of v).tq fun r u=>by
  obtain⟨_,_,⟨d,_⟩|⟨d,_⟩|⟨d,b,x,f,ex,y,_⟩⟩:=u;grind;grind;grind
 obtain⟨z,b,o,rfl⟩:=w
 refine⟨_,?_,t b o rfl⟩
 have g:qI none c c=some c:=by simp[qI]
 have p:qI (some<|I j) l.length c=some j:=by simp[qI];omega
 have q:qI (some<|I i) 0 j=some i:=by simp[qI];omega
 unfold Ao
 simp only[g,p,q,AX,u7,aO,c9,dd]
 rw[aae,aab,dZ]
def aPs {enc:α->EK} [F:Fx enc W] {o:Nat} {l:List α} {x:α} (p:Hs G h L) [m:dH (ls enc W e (some ⟨b,o,none⟩) c) L l L'] (g:0<W) (f:l[n]?=some x) (j:k (.agg ⟨enc x⟩)):bQ (vD h W<|pt b (o+n*W) 0) k:=by
 have r:=(eh.1 f).1;obtain⟨q,s,i,d⟩:=(m.of p).gF ER;cases i;rw[show pt b _ 0=pt b o (n*W) by simp[pt]];exact aX d g (aDw f) (F.len x) j
end Go.Ab
variable {B:Nat}
namespace Go.Hm
structure bT where
 aE:Int
 bB:Int
 bL:Int
 ways:Int
 eT:Int
 lI:Int
 bF:Int
 deriving DecidableEq
def bT.aMd (C:bT):EL:=[C.aE,C.bB,C.bL,C.ways,C.eT,C.lI,C.bF]
def bT.enc (C:bT):EK:=[I C.aE,I C.bB,I C.bL,I C.ways,I C.eT,I C.lI,I C.bF]
def aNu:EL:=[4,16,8,4,16,8,4]
def fO:EK:=[I 4,I 16,I 8,I 4,I 16,I 8,I 4]
def bT.ckF (C:bT):Nat->Nat->Int
 |0,_=>0
 |f+1,i=>if C.aMd.getD i 0<1\/aNu.getD i 0<C.aMd.getD i 0 then 10 else C.ckF f (i+1)
def bT.Ok (C:bT):Prop:=(1<=C.aE/\C.aE<=4)/\(1<=C.bB/\C.bB<=16)/\(1<=C.bL/\C.bL<=8)/\(1<=C.ways/\C.ways<=4)/\(1<=C.eT/\C.eT<=16)/\(1<=C.lI/\C.lI<=8)/\(1<=C.bF/\C.bF<=4)
instance (C:bT):Decidable C.Ok:=by unfold bT.Ok;infer_instance
theorem bT.aSr (C:bT):C.ckF 7 0=if C.Ok then 0 else 10:=by
 simp only[bT.ckF,bT.aMd,aNu,List.getD_cons_zero,List.getD_cons_succ];by_cases h:C.Ok;simp_all[aXg,bT.Ok,aXf];grind[bT.Ok]
def bT.aF (C:bT):Nat:=(C.bB*2).toNat
theorem bT.eJ {C:bT} (h:C.Ok):(C.aF:Int)=C.bB*2/\2<=C.aF/\C.aF<=32:=by
 grind[bT.Ok,bT.aF]
abbrev Ln:=Int×Int
abbrev IA:=List Ln
def qZ (l:Ln):EK:=[I l.1,I l.2]
def mI (n B i:Nat):Nat:=(n+B - 1 - i)/B
def zr (b:i<B):mI 0 B i=0:=AU ER
theorem Ui (f:i<B):mI (n+1) B i=if i=n % B then mI n B i+1 else mI n B i:=by
 have b:=EC n B;have d:=AA n (show 0<B by omega);unfold mI;generalize n/B=q at b;generalize n % B=r at b d ⊢;subst b;split;rename_i h;subst h;rw[show B*q+i+1+B - 1 - i=B*q+B by omega,show B*q+i+B - 1 - i=B*q+(B - 1) by omega];rw[BC ER,BC ER,Nat.div_self ER,AU ER];rcases ts i r with h1|h1;rw[show B*q+r+1+B - 1 - i=B*q+(B+(r - i)) by omega,show B*q+r+B - 1 - i=B*q+(B+(r - i - 1)) by omega];rw[BC ER,BC ER,Nat.add_div_left _ ER,Nat.add_div_left _ ER,AU ER,AU ER];rw[show B*q+r+1+B - 1 - i=B*q+(B+r - i) by omega,show B*q+r+B - 1 - i=B*q+(B+r - i - 1) by omega];rw[BC ER,BC ER,AU ER,AU ER]
theorem I7 {l:Nat} (hB:0<B) (d:l<n):l/B<mI n B (l % B):=by
 unfold mI;have b:=EC l B;rw[Nat.lt_div_iff_mul_lt hB];grind
theorem Wf {l k:Nat} (b:i<B):k*B+i=l↔k=l/B/\i=l % B:=by
 constructor;grind[Nat.mul_comm,Nat.mul_add_div,Nat.mul_add_mod,Nat.div_eq_of_lt,Nat.mod_eq_of_lt];grind[Nat.div_add_mod,Nat.mul_comm]
theorem bT.bk {C:bT} (h:C.Ok):(C.bF.toNat:Int)=C.bF/\0<C.bF.toNat/\C.bF.toNat<=4:=by grind[bT.Ok]
def V3 (B i:Nat) (mem:Nat->Ln):Nat->EK:=fun k=>qZ<|mem<|k*B+i
variable {mem:Nat->Ln}
def Nv (k:Nat):(V3 B i mem k).length=2:=rfl
theorem rM {α:Type} {f:Nat->α}:bJ f i (f i)=f:=by
 grind[bJ]
theorem lz {l:Nat} (hB:0<B):V3 B (l % B) mem (l/B)=qZ (mem l):=by
 grind[V3,Wf,Nat.mod_lt]
theorem Nk {l:Nat} {v:Ln} (hB:0<B):bJ (V3 B (l % B) mem) (l/B) (qZ v)=V3 B (l % B) (bJ mem l v):=by
 funext k;unfold V3 bJ;have:=(Wf (l:=l) (k:=k)<|AA l hB);grind
theorem aF1 {l:Nat} {v:Ln} (b:i<B) (h:i≠l % B):V3 B i (bJ mem l v)=V3 B i mem:=by
 unfold V3 bJ;simp_all[aXf,Wf]
def rb (hB:0<B):mI n B i<=n:=by
 refine Nat.le_of_lt_succ<|Nat.div_lt_of_lt_mul ?_;rw[Nat.mul_succ];have:n<=B*n:=Nat.le_mul_of_pos_left _ hB;omega
def sU:Nat->Ln:=fun _=>(0,0)
structure aI where
 kind:Int
 core:Int
 bA:Int
 bG:Int
 state:Int
 d0:Int
 d1:Int
 Cw:Bool
 no:Int
 deriving DecidableEq
abbrev HM:=List aI
def aI.enc (n:aI):EK:=[I n.kind,I n.core,I n.bA,I n.bG,I n.state,I n.d0,I n.d1,.bool n.Cw,I n.no]
def aI.zero:aI:=⟨0,0,0,0,0,0,0,false,0⟩
def gK (l:HM):EK:=l.flatMap aI.enc
def Bn (l m:HM):gK (l++m)=gK l++gK m:=by simp[gK]
@[simp] theorem O4 (n:aI) (l:HM):gK (n::l)=n.enc++gK l:=rfl
@[simp] theorem Tv:gK []=[]:=rfl
structure cU where
 owner:Int
 sh:Nat->Bool
 aY:HM
 busy:Bool
 cD:aI
 bG:Int
 iH:Nat->Bool
 eZ:Bool
 qu:Bool
 d0:Int
 d1:Int
def cU.enc (r:cU) (a:EN) (c:Nat):EK:=
 [I r.owner,.bool<|r.sh 0,.bool<|r.sh 1,.bool<|r.sh 2,.bool<|r.sh 3,.slice a r.aY.length c,.bool r.busy,I r.cD.kind,I r.cD.core,I r.cD.bA,I r.cD.bG,I r.cD.state,I r.cD.d0,I r.cD.d1,.bool r.cD.Cw,I r.cD.no,
   I r.bG,.bool<|r.iH 0,.bool<|r.iH 1,.bool<|r.iH 2,.bool<|r.iH 3,.bool r.eZ,.bool r.qu,I r.d0,I r.d1]
def cU.aBq (r:cU):EK:=[I r.owner,.bool<|r.sh 0,.bool<|r.sh 1,.bool<|r.sh 2,.bool<|r.sh 3]
def cU.mw (r:cU) (a:EN) (c:Nat):EK:=
 [.slice a r.aY.length c,.bool r.busy,I r.cD.kind,I r.cD.core,I r.cD.bA,I r.cD.bG,I r.cD.state,I r.cD.d0,I r.cD.d1,.bool r.cD.Cw,I r.cD.no,
   I r.bG,.bool<|r.iH 0,.bool<|r.iH 1,.bool<|r.iH 2,.bool<|r.iH 3,.bool r.eZ,.bool r.qu,I r.d0,I r.d1]
def yG (f:Nat->Bool) (i:Int) (v:Bool):Nat->Bool:=fun j=>if(j:Int)=i then v else f j
def cU.iW (r:cU):cU:={r with busy:=false,eZ:=false,qu:=false,cD:=aI.zero,bG:=0,d0:=0,d1:=0}
def cU.jI (r:cU) (core:Int):cU:={r with sh:=yG r.sh core false,owner:=if r.owner=core then -1 else r.owner}
def cU.vB (r:cU) (but:Int) (i:Nat):Bool:=decide ((i:Int)≠but)&&(r.sh i||decide ((i:Int)=r.owner))
theorem aFd {r:cU} (h:(i:Int)≠x) (b:r.sh i=true):r.vB x i=true:=by grind[cU.vB]
theorem aGz {r:cU} (h:(i:Int)≠x) (b:(i:Int)=r.owner):r.vB x i=true:=by
 grind[cU.vB,decide_eq_true]
theorem vn {r:cU} (h:(i:Int)=x):r.vB x i=false:=by
 grind[cU.vB,decide_eq_false]
theorem Xd {r:cU} (h:r.sh i=false) (b:(i:Int)≠r.owner):r.vB x i=false:=by
 grind[cU.vB,decide_eq_false]
def cU.Cd (r:cU) (but:Int):Nat->Nat->Int
 |0,_=> -1
 |f+1,i=>if r.vB but i then i else r.Cd but f (i+1)
def cU.first (r:cU) (but:Int):Int:=r.Cd but 4 0
def cU.kL (r:cU) (but:Int):Nat->Nat->EM
 |0,_=>[]
 |f+1,i=>if r.vB but i then i::r.kL but f (i+1) else r.kL but f (i+1)
def cU.oJ (r:cU) (but:Int):EM:=r.kL but 4 0
def cU.kV (r:cU) (l:EM):cU:={r with iH:=fun j=>r.iH j||l.contains j}
def kT (bA state:Int) (l:EM):HM:=l.map fun(i:Nat)=>{aI.zero with kind:=11,core:=(i:Int),bA:=bA,state:=state}
def cU.qT (r:cU):Bool:= !(r.iH 0||r.iH 1||r.iH 2||r.iH 3)
abbrev rU:=cU×Ln
def cU.jl (r:cU) (m:Ln):Ln:=if r.qu then(r.d0,r.d1) else m
def cU.vP (r:cU) (bA st:Int) (d:Ln):aI:=⟨8,r.cD.core,bA,r.bG,st,d.1,d.2,false,0⟩
def cU.jK (r:cU) (bA:Int) (d:Ln):cU×HM:=
 if r.cD.kind=2 then({r with owner:=r.cD.core,sh:=fun _=>false,eZ:=true},[r.vP bA 4 d])
 else if r.first r.cD.core= -1 then({r with owner:=r.cD.core,sh:=yG r.sh r.cD.core false,eZ:=true},[r.vP bA 2 d])
 else({r with sh:=yG r.sh r.cD.core true,eZ:=true},[r.vP bA 1 d])
def U1 (s:Int):Bool:=decide (0<=s/\s<5)&&decide (s≠0)
def cU.qG (r:cU) (n:aI):cU:={r with iH:=yG r.iH n.core false}
def cU.Ko (r:cU) (n:aI):cU:={r with owner:= -1,sh:=yG r.sh n.core (U1 n.state)}
def cU.vL (r:cU) (n:aI):cU:={r with qu:=true,d0:=n.d0,d1:=n.d1}
def cU.mC (r:cU) (n:aI):cU:=
 if r.cD.kind≠1 then(r.qG n).jI n.core
 else if n.state≠3 then(if n.Cw then((r.qG n).Ko n).vL n else(r.qG n).Ko n)
 else if n.Cw then(r.qG n).vL n else r.qG n
def cU.Xr (r:cU) (m:Ln) (n:aI):Ln:=if r.cD.kind≠1/\n.Cw=true then(n.d0,n.d1) else m
def cU.rest (r:cU) (bA:Int) (m:Ln):cU×HM:=
 if r.qT then(if r.cD.kind=0 then(r.iW,[]) else r.jK bA (r.jl m)) else(r,[])
def rU.S6 (x:rU) (bA:Int) (n:aI):rU×HM:=
 let m:=x.1.Xr x.2 n
 let g:=(x.1.mC n).rest bA m
 ((g.1,m),g.2)
def cU.pJ (r:cU) (n:aI) (bG:Int):cU:={r with busy:=true,cD:=n,bG:=bG}
def cU.qy (r:cU) (bA:Int) (m:Ln):cU×HM:=
 if r.first r.cD.core≠ -1 then(r.kV<|r.oJ r.cD.core,kT bA 0<|r.oJ r.cD.core) else r.jK bA (r.jl m)
def cU.il (r:cU) (bA:Int) (m:Ln):cU×HM:=
 if r.owner≠ -1 then(r.kV [r.owner.toNat],kT bA 1 [r.owner.toNat]) else r.jK bA (r.jl m)
def cU.xK (r:cU):cU:=if r.owner=r.cD.core then {r with owner:= -1} else r
def cU.get (r:cU) (bA:Int) (m:Ln) (n:aI) (bG:Int):cU×HM:=
 let r:=r.pJ n bG
 if n.kind=2 then r.qy bA m else r.xK.il bA m
def cU.mX (r:cU) (n:aI):cU:={r with aY:=r.aY++[n]}
def cU.next (r:cU) (w:HM):cU:={r with aY:=w}
def cU.Vn (r:cU) (n:aI):cU:={r with busy:=true,cD:=n}
def rU.take (x:rU) (bA:Int) (n:aI):rU×HM×Int:=
 if n.kind=4 then(if x.1.eZ=false\/x.1.cD.core≠n.core then(x,[],16) else((x.1.iW,x.2),[],0))
 else if n.kind=5 then(if x.1.iH n.core.toNat=false then(x,[],16) else let g:=rU.S6 x bA n;(g.1,g.2,0))
 else((x.1.mX n,x.2),[],0)
def Hd (bA:Int):aI:={aI.zero with bA:=bA}
def rU.aN0 (x:rU) (bA:Int):rU:=(x.1.mX<|Hd bA,x.2)
def Ed (kind core bA:Int):aI:={aI.zero with kind:=kind,core:=core,bA:=bA}
def cU.kN (r:cU) (bA:Int) (m:Ln) (n:aI) (j:Int->Int×Bool):rU×HM:=
 if n.kind=3 then((r.jI n.core,if r.owner=n.core/\n.Cw=true then(n.d0,n.d1) else m),[Ed 10 n.core bA])
 else if n.kind=1\/n.kind=2 then(if(j n.bG).2=true then let g:=r.get bA m n (j n.bG).1;((g.1,m),g.2) else((r,m),[Ed 9 n.core bA]))
 else if r.first (-1)= -1 then((r,m),[])
 else(((r.Vn n).kV<|r.oJ<|-1,m),kT bA 0<|r.oJ<|-1)
def rU.fX (x:rU) (bA:Int) (j:Int->Int×Bool):rU×HM×Int:=
 if x.1.busy=true then(x,[],16)
 else match x.1.aY with
  |[]=>(x,[],12)
  |n::w=>let g:=cU.kN (x.1.next w) bA x.2 n j;(g.1,g.2,0)
abbrev kQ:=Nat->rU
def G9:cU:=⟨-1,fun _=>false,[],false,aI.zero,0,fun _=>false,false,false,0,0⟩
theorem Lm {r:cU}:∀(f i:Nat),i+f=4->(∀c∈r.kL x f i,c<4)/\(r.kL x f i).length<=f:=by
 intro f;induction f with
 |zero=>grind[cU.kL]
 |succ f b=>
  grind[cU.kL]
def pn {r:cU}:∀c∈r.oJ x,c<4:=(Lm 4 0 rfl).1
theorem Ef {r:cU}:(r.oJ x).length<=4:=(Lm 4 0 rfl).2
def bT.fY (C:bT) (l:Int):Prop:=0<=l/\l<C.aF
instance (C:bT) (l:Int):Decidable (C.fY l):=by unfold bT.fY;infer_instance
def dN (k:Int):Prop:=k=1\/k=2\/k=3\/k=4\/k=5
instance (k:Int):Decidable (dN k):=by unfold dN;infer_instance
def gJ (C:bT) (H:kQ) (n:aI):kQ×HM×Int:=
 if ¬dN n.kind then(H,[],15)
 else if(0<=n.core/\n.core<C.aE)/\C.fY n.bA then(bJ H n.bA.toNat (rU.take (H n.bA.toNat) n.bA n).1,(rU.take (H n.bA.toNat) n.bA n).2)
 else(H,[],10)
def oW (C:bT) (H:kQ) (l:Int):kQ×Int:=if C.fY l then(bJ H l.toNat<|rU.aN0 (H l.toNat) l,0) else(H,10)
def kJ (C:bT) (H:kQ) (l:Int) (j:Int->Int×Bool):kQ×HM×Int:=
 if C.fY l then(bJ H l.toNat (rU.fX (H l.toNat) l j).1,(rU.fX (H l.toNat) l j).2) else(H,[],10)
structure cU.pK (r:cU):Prop where
 core:0<=r.cD.core/\r.cD.core<4
 owner: -1<=r.owner/\r.owner<4
 aY:∀n∈r.aY,0<=n.core/\n.core<4
def yT (C:bT) (H:kQ) (N:Nat):Prop:=∀l,l<C.aF->(H l).1.pK/\(H l).1.aY.length<=N
def Ig (C:bT) (H:kQ) (l:Int):Int:=if C.fY l then((H l.toNat).1.aY.length:Int) else 0
def vH (n:Nat):kQ:=fun i=>if i<n then(G9,(0,0)) else({G9 with owner:=0},(0,0))
theorem zm:bJ (vH n) n (G9,(0,0))=vH (n+1):=by
 unfold bJ vH;grind
def aI.aMe (n r:aI) (len:Nat):Prop:=
 n.bA=r.bA/\n.no=0/\((n.kind=8/\n.core=r.core/\len=1/\(r.kind=1\/r.kind=2))\/(n.kind=9/\n.bG=0/\n.core=r.core/\len=1/\(r.kind=1\/r.kind=2))\/
  (n.kind=10/\n.bG=0/\n.core=r.core/\len=1/\r.kind=3)\/(n.kind=11/\n.bG=0/\n.core≠r.core/\(r.kind=1\/r.kind=2\/(r.kind=0/\n.state=0))))
end Go.Hm
variable {no:Int}
namespace Go.Ct
open Go.Hm
def ff (s:Int):Bool:=decide<|1<=s/\s<=4
def He (s:Int):Bool:=decide<|s=2\/s=4
def qE (s:Int):Bool:=decide<|s=3\/s=4
def K6 (s:Int):Bool:=decide<|2<=s/\s<=4
def isS (s:Int):Bool:=decide<|0<=s/\s<5
def Wm (s:Int):Int:=if s=2 then 1 else if s=4 then 3 else s
def yZ (s:Int) (w:Bool):Bool:=if w then He s else ff s
structure tJ where
 st:Int
 w:Int
 d:Ln
 deriving DecidableEq
def tJ.enc (x:tJ):EK:=[I x.st,I x.w,I x.d.1,I x.d.2]
def tJ.zero:tJ:=⟨0,0,(0,0)⟩
abbrev Th:=Int×tJ
abbrev HN:=List Th
def C0 (t:Th):EK:=I t.1::t.2.enc
def dM (l:HN):EK:=l.flatMap C0
theorem mO (l:HN):(dM l).length=l.length*5:=by
 induction l with
 |nil=>rfl
 |cons a t b=>simp only[dM,xc,bj] at b ⊢;grind[C0,tJ.enc]
def tU (l:HN):(dM l).all gA=true:=by
 induction l with
 |nil=>rfl
 |cons a t b=>simp only[dM,xc,DC,dn] at b ⊢;exact⟨rfl,b⟩
def yd (l m:HN):dM (l++m)=dM l++dM m:=by simp[dM]
theorem lj (l:HN) (i:Nat):(dM l).take (i*5)=dM (l.take i):=by
 induction l generalizing i with
 |nil=>simp[dM]
 |cons a t b=>
  cases i with
  |zero=>simp[dM]
  |succ i=>
   simp only[dM,xc,BF] at b ⊢;grind[List.take_append,List.take_of_length_le,C0,tJ.enc]
theorem Qx (l:HN) (i:Nat):(dM l).drop (i*5)=dM (l.drop i):=by
 induction l generalizing i with
 |nil=>simp[dM]
 |cons a t b=>
  cases i with
  |zero=>simp[dM]
  |succ i=>
   have:(i+1)*5=5+i*5:=ER
   simp only[dM,xc,CE] at b ⊢;have d:(C0 a).length=5:=rfl;simp_all[CR,eg,hZ]
theorem ca {l:HN} {t:Th} (h:l[i]?=some t):((dM l).drop<|i*5).take 5=C0 t:=by
 rw[Qx];have b:=(eh.1 h);rw[k9 b.1,b.2];exact List.take_left' rfl
def ix (no:Int):HN->Option Nat
 |[]=>none
 |t::l=>if t.1=no then some 0 else(ix no l).map (·+1)
def ixI (no:Int) (l:HN):Int:=match ix no l with|some i=>i|none=> -1
def get (no:Int) (l:HN):Option tJ:=(l.find? fun t=>decide<|t.1=no).map (·.2)
def xI (no:Int):HN->HN
 |[]=>[]
 |t::l=>if t.1=no then l else t::xI no l
theorem Bu {l:HN} (h:ix no l=some i):∃x,l[i]?=some (no,x)/\get no l=some x/\xI no l=l.take i++l.drop (i+1)/\i<l.length:=by
 induction l generalizing i with
 |nil=>cases h
 |cons t l b=>
  simp only[ix] at h;split at h;grind[get,xI];cases hx:ix no l with
  |none=>grind
  |some j=>
   grind[get,decide_eq_false,xI]
theorem E0 {l:HN} (h:ix no l=none):get no l=none/\xI no l=l:=by
 induction l with
 |nil=>exact⟨rfl,rfl⟩
 |cons t l d=>
  simp only[ix] at h;by_cases b:t.1=no;grind;rw[aXf b] at h;obtain⟨f,g⟩:=d GK;grind[xI,get,decide_eq_false]
theorem Ij {l:HN}:(xI no l).length=if(get no l).isSome then l.length - 1 else l.length:=by
 cases h:ix no l with
 |none=>grind[E0]
 |some i=>
  grind[Bu]
structure iJ where
 S:Nat->HN
 al:Int
 aw:Bool
 pY:Bool
 gl:Int
 gc:tJ
 uF:Bool
def iJ.lK:iJ:=⟨fun _=>[],0,false,false,0,tJ.zero,false⟩
variable (n:Nat) (ways:Nat) (aF:Int) (core:Int)
def cB (l:Int):Nat:=(l % (n:Int)).toNat
end Go.Ct
namespace Go.Ab
open Go.Ct Go.Hm
noncomputable section
def j7 (x:Th):HN->HN
 |[]=>[x]
 |y::l=>if x.1<=y.1 then x::y::l else y::j7 x l
def qO:HN->HN
 |[]=>[]
 |x::l=>j7 x<|qO l
def Mp:HN->Bool
 |[]=>true
 |x::l=>(l.all fun y=> !(y.1==x.1))&&Mp l
def Lu:Nat->EK->Option (HN)
 |0,[]=>some []
 |n+1,.int .i64 a:: .int .i64 s:: .int .i64 w:: .int .i64 d:: .int .i64 e::l=>(Lu n l).map fun r=>(a,⟨s,w,(d,e)⟩)::r
 |_,_=>none
def Iq (b o n:Nat):AH->Option (Value×AH):=fun h=>
 match dE h ⟨b,o,none⟩ (n*5) with
 |some d=>match Lu n d with
  |some l=>if Nat.ble l.length 1000&&Mp l then(fL h ⟨b,o,none⟩<|dM<|qO l).map fun f=>(.tuple ⟨[]⟩,f) else none
  |none=>none
 |none=>none
def Lh (e:TypeId) (n:Int):AH->Option (Value×AH):=fun h=>
 if n=0 then some (.slice none 0 0,h) else if 0<n/\n<=1000 then some (.slice (some ⟨h.next,0,some 2⟩) 0 0,h.alloc<|.cells [] e (0,0) false) else none
end
def T8:∀l:HN,Lu l.length (dM l)=some l
 |[]=>rfl
 |x::l=>by
  show(Lu l.length<|dM l).map _=_;rw[T8 l];rfl
def Qa:∀{n:Nat} {cs:EK} {l:HN},Lu n cs=some l->cs=dM l/\l.length=n
 |0,[],l,h=>by simp[Lu] at h;subst h;exact⟨rfl,rfl⟩
 |0,_::_,l,h=>by simp[Lu] at h
 |n+1,cs,l,h=>by
  unfold Lu at h;split at h;rename_i b;omega;rename_i m a s w d e r b;obtain rfl:n=m:=ER
  simp only[aV] at h;obtain⟨i,g,rfl⟩:=h;obtain⟨rfl,f⟩:=Qa g;exact⟨rfl,by simp[f]⟩;cases h
def K3 (x:Th):∀l:HN,(j7 x l).Perm (x::l)
 |[]=>AB _
 |y::l=>by
  unfold j7;split;exact AB _;exact((K3 x l).cons y).trans (List.Perm.swap x y l)
def nE:∀l:HN,(qO l).Perm l
 |[]=>AB _
 |x::l=>(K3 x<|qO l).trans<|(nE l).cons x
def Mn (x:Th):∀l:HN,l.Pairwise (fun a b=>a.1<=b.1)->(j7 x l).Pairwise (fun a b=>a.1<=b.1)
 |[],_=>by simp[j7]
 |y::l,h=>by
  unfold j7;split;rename_i f;refine List.Pairwise.cons (fun z d=>?_) h;rcases j2.1 d with rfl|d;exact f;exact Int.le_trans f<|AZ h d;rename_i f;refine List.Pairwise.cons (fun z d=>?_)<|Mn x l h.of_cons;rcases j2.1 ((K3 x l).mem_iff.1 d) with rfl|d;omega;exact AZ h d
def Je:∀l:HN,(qO l).Pairwise (fun a b=>a.1<=b.1)
 |[]=>List.Pairwise.nil
 |x::l=>Mn x _<|Je l
def Yx:∀{l:HN},Mp l=true->∀a∈l,∀b∈l,a.1=b.1->a=b
 |[],_,a,g,_,_,_=>by cases g
 |x::l,h,a,g,b,o,e=>by
  simp only[Mp,dn,lP,BS,beq_eq_false_iff_ne] at h;obtain⟨k,m⟩:=h;rcases j2.1 g with i|d<;>rcases j2.1 o with j|f;rw[i,j];subst i;exact absurd e.symm<|k b f;subst j;exact absurd e<|k a d;exact Yx m a d b f e
abbrev ltT (x y:Th):Bool:=decide<|x.1<y.1
end Go.Ab
