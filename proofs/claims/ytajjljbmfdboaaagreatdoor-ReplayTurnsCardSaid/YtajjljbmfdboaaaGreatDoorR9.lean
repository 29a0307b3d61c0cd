/- A part of the proof. -/
import Derived.Test.YtajjljbmfdboaaaGreatDoorR8
import Derived.Test.YtajjljbmfdboaaaGreatDoorR5
section
namespace Go.Ab
noncomputable section
variable {P:Program} {K:FuncId->List Value->Option jI}
def hA:Unit:=Function.const _ () @Cl
def hB:Unit:=Function.const _ () hA
def hC:Unit:=Function.const _ () hB
def hD:Unit:=Function.const _ () hC
def hE:Unit:=Function.const _ () hD
def hG:Unit:=Function.const _ () hE
def hP (p:Prop):Prop:=(fun _:Unit=>p) hG
def hF:Prop:=hP False
inductive Kn where
 |un|ex|b (x:Bool)|sk|no
abbrev Ek:=List (Nat×Value×Kn)
def Ek.lk:Ek->Nat->Option (Value×Kn)
 |[],_=>none
 |(d,v,k)::a,t=>match Nat.beq d t with
  |true=>(match k with
   |.no=>none
   |k=>some (v,k))
  |false=>Ek.lk a t
def fK (a:Ek) (env:List Value):Prop:=∀t v k,a.lk t=some (v,k)->env[t]?=some v/\(∀x,k= .b x->v= .bool x)/\(k= .sk->v=undef)
def aGm (v:Value) (k:Value->Prop):Prop:=match v with
 |.int .i64 n=>k (I n)
 |v=>hP (k v)
def vQ (P:Program) (a:Ek) (x:Operand) (k:Value->Prop):Prop:=match x with
 |.tmp t=>(match a.lk t with
  |some (v,_)=>k v
  |none=>hF)
 |.const v=>(match dT v with
  |true=>aGm v k
  |false=>k top)
 |.global g=>(match Nat.blt g P.globals.size with
  |true=>k (.pointer (some ⟨g,0,none⟩))
  |false=>k top)
 |.func f=>k (.func (.func f) #[] #[])
theorem fH {a:Ek} {env:List Value} (m:fK a env) {x:Operand} {k:Value->Prop} (h:vQ P a x k):k (dH P env x):=by
 unfold vQ at h;split at h;split at h;rename_i i;have:=(m _ _ _ i).1;simpa only[dH,List.getD_eq_getElem?_getD,this,Option.getD_some] using h;cases h;split at h;rename_i j;simp only[dH,j,if_true];unfold aGm at h;split at h<;>exact h;rename_i j;simpa only[dH,j,Bool.false_eq_true,if_false] using h;split at h;rename_i g _ d;have:g<P.globals.size:=Nat.le_of_ble_eq_true d;simpa only[dH,this,if_true] using h;rename_i g _ d;have:¬g<P.globals.size:=fun i=>by rw[show Nat.blt g P.globals.size=true from Nat.ble_eq_true_of_le i] at d;cases d
 simpa only[dH,this,if_false] using h;exact h
def zu (P:Program) (a:Ek) (x:Option Operand) (k:Option Value->Prop):Prop:=match x with
 |none=>k none
 |some x=>vQ P a x fun v=>k (some v)
theorem Xc {a:Ek} {env:List Value} (d:fK a env) {x:Option Operand} {k:Option Value->Prop} (h:zu P a x k):k (x.map (dH P env)):=by
 cases x with
 |none=>exact h
 |some x=>exact fH d h
def Vi (P:Program) (a:Ek):List Operand->(List Value->Prop)->Prop
 |[],k=>k []
 |x::l,k=>vQ P a x fun v=>Vi P a l fun d=>k (v::d)
theorem Da {a:Ek} {env:List Value} (d:fK a env):∀{l:List Operand} {k:List Value->Prop},Vi P a l k->k (l.map (dH P env))
 |[],_,h=>h
 |_::l,k,h=>by
  have g:=fH d h;have i:=Da d (l:=l) g;exact i
def fcL {α:Type}:List α->(List α->Prop)->Prop
 |[],k=>hP (k [])
 |v::l,k=>fcL l fun l=>k (v::l)
theorem Kx {α:Type}:∀{l:List α} {k:List α->Prop},fcL l k->k l
 |[],_,h=>h
 |_::l,_k,h=>Kx (l:=l) h
def Sq (P:Program) (t:TypeId) (k:Nat->Prop):Prop:=match P.info? t with
 |some ⟨_,_,n,_,_,_,_,_,_,_⟩=>k n
 |none=>hF
theorem rV {t:TypeId} {k:Nat->Prop} (h:Sq P t k):(P.info? t).isSome=true/\k (P.cellsOf t):=by
 unfold Sq at h;split at h;rename_i d;exact⟨by rw[d];rfl,by unfold Program.cellsOf;rw[d];exact h⟩;cases h
def Jo (P:Program) (a:Ek) (place:Nat->(Nat->Nat->Prop)->Prop):List (Nat×Operand)->(List (Nat×Nat×Value)->Prop)->Prop
 |[],k=>k []
 |(i,x)::rest,k=>place i fun d size=>vQ P a x fun v=>Jo P a place rest fun l=>k ((d,size,v)::l)
theorem El {a:Ek} {env:List Value} (d:fK a env) {place:Nat->(Nat->Nat->Prop)->Prop} {pl:Nat->Option (Nat×Nat)} (g:∀i k,place i k->∃o s,pl i=some (o,s)/\k o s):
  ∀{l:List (Nat×Operand)} {k:List (Nat×Nat×Value)->Prop},Jo P a place l k->∃r,xX pl (dH P env) l=some r/\k r
 |[],_,h=>⟨_,rfl,h⟩
 |(i,x)::rest,_,h=>by
  obtain⟨o,s,j,m⟩:=g _ _ h;obtain⟨r,n,q⟩:=El d g (fH d m);exact⟨_,by simp only[xX,j,n],q⟩
def plS (P:Program) (fs:Array Field) (i:Nat) (k:Nat->Nat->Prop):Prop:=match fs[i]? with
 |some ⟨_,t,d,_,_,_,_⟩=>Sq P t fun n=>k d n
 |none=>hF
theorem aG5 {fs:Array Field} (i:Nat) (k:Nat->Nat->Prop) (h:plS P fs i k):∃o s,((fs[i]?).map fun f=>(f.offset,P.cellsOf f.type))=some (o,s)/\k o s:=by
 unfold plS at h;split at h;rename_i d;exact⟨_,_,by rw[d];rfl,(rV h).2⟩;cases h
def plA (n:Nat) (i:Nat) (k:Nat->Nat->Prop):Prop:=hP (k (i*n) n)
def wZ (P:Program) (t:TypeId) (k:List Value->Prop):Prop:=match zeroOf P t with
 |some z=>fcL z k
 |none=>hF
theorem de {t:TypeId} {k:List Value->Prop} (h:wZ P t k):∃z,zeroOf P t=some z/\k z:=by
 unfold wZ at h;split at h;exact⟨_,by assumption,Kx h⟩;cases h
def aEz (l:List Nat):Nat->List Nat->List Nat
 |0,acc=>acc
 |n+1,acc=>aEz l n (l++acc)
def kF (P:Program):Nat->TypeId->Option (List Nat)
 |0,_=>none
 |d+1,t=>match P.underlying t with
  |some .bool=>some [1]
  |some (.int _)=>some [0]
  |some .string=>some [2]
  |some (.array n e)=>(match kF P d e with
   |some l=>some (aEz l n [])
   |none=>none)
  |some (.struct g)=>g.toList.foldr (fun f r=>match kF P d f.type,r with
   |some a,some b=>some (a++b)
   |_,_=>none) (some [])
  |_=>none
def kEq:Option (List Nat)->List Nat->Bool
 |some l,m=>l==m
 |none,_=>false
theorem aB9 {o:Option (List Nat)} {l:List Nat} (h:kEq o l=true):o=some l:=by
 unfold kEq at h;grind
def wB (P:Program) (op:BinOp) (t:TypeId) (x y:Operand) (a b:Value) (q:Value->Prop):Prop:=
 match P.underlying t with
 |some (.int _)=>bG (vE op a b) q
 |some .string=>bG (V9 op a b) q
 |some .bool=>bG (V4 op a b) q
 |some (.pointer _)=>bG (Ro op a b) q
 |some (.slice _)=>bG (Ps op a b) q
 |some (.func _ _ _)=>bG (Vv op a b) q
 |some (.interface _)=>(match isConst x||isConst y with
  |true=>bG (Qm true op a b) q
  |false=>bG (Qm false op a b) q)
 |some (.struct _)|some (.array _ _)=>(match kF P 20 t with
  |some d=>fcL d fun d=>Nb (kEq (H9 P t) d) d op a b q
  |none=>hF)
 |_=>hF
theorem aH8 {op:BinOp} {t:TypeId} {x y:Operand} {a b:Value} {q:Value->Prop} (h:wB P op t x y a b q):Vc P op t x y a b q bG:=by
 unfold wB at h;unfold Vc;split at h;case h_7=>
  grind
 case h_8=>
  rename_i d;rw[d];split at h;obtain⟨g,h⟩:=Kx h;simp only[aB9 g];exact h;cases h
 case h_9=>
  rename_i d;rw[d];split at h;obtain⟨g,h⟩:=Kx h;simp only[aB9 g];exact h;cases h
 all_goals first|(rename_i d;rw[d];exact h)|cases h
def wL (P:Program) (a:Ek) (h:AH) (q:Value->Prop):Op->Prop
 |.move x=>vQ P a x q
 |.assign x=>vQ P a x q
 |.pick c x y=>vQ P a c fun c=>vQ P a x fun x=>vQ P a y fun y=>bG (tX c x y) q
 |.build t j=>wZ P t fun z=>(match P.underlying t with
  |some (.struct r)=>(match r.toList.all (fun f=>(P.info? f.type).isSome) with
   |true=>Jo P a (plS P r) j.toList fun l=>bG (oN z l) fun c=>q (.agg ⟨c⟩)
   |false=>hF)
  |some (.array _ e)=>Sq P e fun n=>Jo P a (plA n) j.toList fun l=>bG (oN z l) fun c=>q (.agg ⟨c⟩)
  |_=>hF)
 |.load t x=>vQ P a x fun x=>(match jH P t with
  |some true=>Sq P t fun n=>bG (sD h n x) q
  |some false=>bG (pK h x) q
  |none=>hF)
 |.nilCheck x=>vQ P a x fun x=>bG (mT x) q
 |.binOp op t x y _=>vQ P a x fun u=>vQ P a y fun v=>wB P op t x y u v q
 |.unOp op _ x=>vQ P a x fun x=>bG (Vm op x) q
 |.convert s d x=>vQ P a x fun x=>(match P.underlying s with
  |some .string=>(match P.underlying d with
   |some (.int k)=>bG (oA k x) q
   |some .string=>bG (rY x) q
   |_=>hF)
  |some (.slice e)=>(match P.underlying d with
   |some .string=>(match P.underlying e with
    |some (.int .u8)=>bG (strOf h x) q
    |_=>hF)
   |_=>hF)
  |some _=>(match P.underlying d with
   |some (.int k)=>bG (oA k x) q
   |_=>hF)
  |none=>hF)
 |.makeInterface t x=>vQ P a x fun x=>(match P.underlying t with
  |some (.interface _)=>hF
  |some _=>q (.iface t x)
  |none=>hF)
 |.makeFunc C first g=>(match C with
  |.func f=>Vi P a first.toList fun x=>Vi P a g.toList fun y=>q (.func (.func f) ⟨x⟩ ⟨y⟩)
  |_=>hF)
 |.slice t x A w B=>vQ P a x fun x=>zu P a A fun A=>zu P a w fun w=>zu P a B fun B=>(match P.underlying t with
  |some (.slice e)=>Sq P e fun n=>bG (xK n h x A w B) q
  |some (.array n e)=>Sq P e fun m=>bG (V7 n m x A w B) q
  |some .string=>(match B with
   |none=>bG (V8 x A w) q
   |some _=>hF)
  |_=>hF)
 |.fieldAddr s x f=>vQ P a x fun x=>(match P.underlying s with
  |some (.struct r)=>(match r[f]? with
   |some ⟨_,t,o,_,_,_,_⟩=>Sq P t fun n=>(match Nat.beq n 0 with
    |true=>hF
    |false=>bG (gX o x) q)
   |none=>hF)
  |_=>hF)
 |.field t x f=>vQ P a x fun x=>(match P.underlying t with
  |some (.struct r)=>(match r[f]? with
   |some ⟨_,t,o,_,_,_,_⟩=>(match jH P t with
    |some true=>Sq P t fun n=>bG (pJ o n x) q
    |some false=>bG (rG o x) q
    |none=>hF)
   |none=>hF)
  |_=>hF)
 |.indexAddr t x i=>vQ P a x fun x=>vQ P a i fun i=>(match P.underlying t with
  |some (.array n e)=>Sq P e fun m=>bG (oL n m x i) q
  |some (.slice e)=>Sq P e fun m=>bG (lB m x i) q
  |_=>hF)
 |.index t x i=>vQ P a x fun x=>vQ P a i fun i=>(match P.underlying t with
  |some (.array n e)=>Sq P e fun m=>(match jH P e with
   |some true=>bG (Sp n m x i) q
   |some false=>bG (Nc n m x i) q
   |none=>hF)
  |some .string=>bG (V2 x i) q
  |_=>hF)
 |.extract t i=>vQ P a t fun t=>bG (rA i t) q
 |.lookup t x ix ok=>vQ P a x fun x=>vQ P a ix fun ix=>(match G4 P t with
  |some e=>(match zeroV P e with
   |some z=>bG (lkV z h x ix ok) q
   |none=>hF)
  |none=>hF)
 |_=>hF
theorem aF3 {a:Ek} {env:List Value} (g:fK a env) {h:AH} {q:Value->Prop} {op:Op} (d:wL P a h q op):jL P (dH P env) h q op:=by
 unfold wL at d;split at d;case h_1=>exact fH g d
 case h_2=>exact fH g d
 case h_3=>exact fH g (fH g (fH g d))
 case h_4=>
  obtain⟨z,B,d⟩:=de d;unfold jL;simp only[B];split at d;rename_i t;simp only[t];split at d;rename_i n;rw[Array.all_toList] at n;simp only[n,if_true];obtain⟨r,m,s⟩:=El g aG5 d;grind;cases d;rename_i e t;simp only[t];obtain⟨y,d⟩:=rV d;simp only[y,if_true];obtain⟨r,m,s⟩:=El (pl:=fun i=>some (i*P.cellsOf e,P.cellsOf e)) g (fun i k A=>⟨_,_,rfl,A⟩) d;grind;cases d
 case h_5=>
  have d:=fH g d;unfold jL;split at d;rename_i t;simp only[t];exact(rV d).2;grind;cases d
 case h_6=>exact fH g d
 case h_7=>exact aH8 (fH g (fH g d))
 case h_8=>exact fH g d
 case h_9=>
  have d:=fH g d;unfold jL;split at d;rename_i j;simp only[j];split at d<;>first|(rename_i o;simp only[o];exact d)|cases d
  rename_i j;simp only[j];split at d;rename_i o;simp only[o];split at d<;>first|(rename_i o;simp only[o];exact d)|cases d
  cases d;rename_i m s j;simp only[j];split at d<;>first|(rename_i o;simp only[o];exact d)|cases d
  cases d
 case h_10=>
  have d:=fH g d;unfold jL;split at d;cases d;grind;cases d
 case h_11=>
  unfold jL;split at d;have d:=Da g (Da g d);simpa only[List.map_toArray,<-Array.toList_map] using d;cases d
 case h_12=>
  have d:=Xc g (Xc g (Xc g (fH g d)));unfold jL;split at d;rename_i j;simp only[j];obtain⟨m,s⟩:=rV d;grind;rename_i j;simp only[j];obtain⟨m,s⟩:=rV d;grind;rename_i j;simp only[j];split;exact d;exact d.elim;cases d
 case h_13=>
  have d:=fH g d;unfold jL;split at d;rename_i j;simp only[j];split at d;rename_i u;simp only[u];obtain⟨_,d⟩:=rV d;split at d;cases d;rename_i w;rw[aJ6 (fun e=>by rw[e] at w;cases w)];exact d;cases d;cases d
 case h_14=>
  have d:=fH g d;unfold jL;split at d;rename_i j;simp only[j];split at d;rename_i u;simp only[u];split at d;rename_i x;simp only[x];exact(rV d).2;grind;cases d;cases d;cases d
 case h_15=>
  have d:=fH g (fH g d);unfold jL;split at d;rename_i j;simp only[j];obtain⟨m,s⟩:=rV d;grind;rename_i j;simp only[j];obtain⟨m,s⟩:=rV d;grind;cases d
 case h_16=>
  have d:=fH g (fH g d);unfold jL;split at d;rename_i j;simp only[j];obtain⟨m,d⟩:=rV d;simp only[m,if_true];split at d;grind;grind;cases d;grind;cases d
 case h_17=>exact fH g d
 case h_18=>
  have d:=fH g (fH g d);unfold jL;split at d;rename_i j;simp only[j];split at d;grind;cases d;cases d
 case h_19=>cases d
end
end Go.Ab
end
section
namespace Go.Ab
noncomputable section
variable {P:Program} {K:FuncId->List Value->Option jI}
def isI (v:Value) (p:Prop):Prop:=∃k n,v= .int k n/\p
theorem aGr {n:Int} {p:Prop} (d:p):isI (I n) p:=⟨_,n,rfl,d⟩
def lits:List Nat:=[0,1,2,3,4,5,6,7,8,9,10,11,12,13,14,15,16,17,18,19,20,21,22,23,24,25,26,27,28,29,30,31,32,33,34,35,36,37,38,39,40,41,42,43,44,45,46,47,48,49,50,51,52,53,54,55,56,57,58,59,60,61,62,63,64,65,66,67,68,69,70,71,72,73,74,75,76,77,78,79,80,81,82,83,84,85,86,87,88,89,90,91,92,93,94,95,96,97,98,99]
def nK (n:Nat) (k:Nat->Prop):Prop:=match lits[n]? with
 |some m=>(match Nat.beq m n with
  |true=>k m
  |false=>hF)
 |none=>k n
theorem wj {n:Nat} {k:Nat->Prop} (h:nK n k):k n:=by
 unfold nK at h;split at h;split at h;simp_all;cases h;exact h
def bzW (P:Program) (t:TypeId) (k:Nat->Prop):Prop:=match P.info? t with
 |some ⟨_,_,_,n,_,_,_,_,_,_⟩=>k n
 |none=>hF
theorem aB6 {t:TypeId} {k:Nat->Prop} (h:bzW P t k):k (P.bytesOf t):=by
 unfold bzW at h;split at h;rename_i d;unfold Program.bytesOf;rw[d];exact h;cases h
def wBI (P:Program) (h:AH) (q:Value->AH->Prop) (i:Array TypeId):Builtin->List Value->Prop
 |.len,[x]=>match(i[0]?).bind P.underlying with
  |some .string=>bG (zA x) fun v=>q v h
  |some (.slice _)=>bG (kU x) fun v=>q v h
  |some (.array n _)=>q (I n) h
  |some (.pointer e)=>(match P.underlying e with
   |some (.array n _)=>q (I n) h
   |_=>hF)
  |some (.map _ _)=>bG (iv h x) fun v=>q v h
  |_=>hF
 |.append,[s,x]=>match(i[0]?).bind P.underlying with
  |some (.slice e)=>(match I2 P i with
   |true=>wZ P e fun _=>Sq P e fun n=>bzW P e fun m=>bG (jK n m e h s x) fun r=>(match r with|(v,g)=>q v g)
   |false=>hF)
  |_=>hF
 |.copy,[d,x]=>match(i[0]?).bind P.underlying with
  |some (.slice e)=>Sq P e fun n=>bG (copyV n h d x) fun r=>(match r with|(v,g)=>q v g)
  |_=>hF
 |.clear,[x]=>match(i[0]?).bind P.underlying with
  |some (.slice e)=>wZ P e fun z=>bG (iQ z h x) fun r=>(match r with|(v,g)=>q v g)
  |_=>hF
 |.min,[x,y]=>bG (yU x y) fun v=>q v h
 |.max,[x,y]=>bG (Ao x y) fun v=>q v h
 |.delete,[m,k]=>(match i[0]? with
  |some t=>(match G4 P t with
   |some _=>bG (P0 h m k) fun g=>q (.tuple #[]) g
   |none=>hF)
  |none=>hF)
 |_,_=>hF
theorem aBh {h:AH} {q:Value->AH->Prop} {j:Array TypeId} {b:Builtin} {l:List Value} (d:wBI P h q j b l):vT P h q j b l:=by
 unfold wBI at d;unfold vT;split at d;split at d<;>(rename_i g;simp only[g];exact d);split at d;rename_i g;simp only[g];split at d;rename_i m;obtain⟨z,i,d⟩:=de d;obtain⟨_,d⟩:=rV d;rw[aJ7 ⟨m,by rw[i];rfl⟩];exact aB6 d;cases d;cases d;split at d;rename_i g;simp only[g];obtain⟨n,d⟩:=rV d;grind;cases d;split at d;rename_i g;simp only[g];obtain⟨z,i,d⟩:=de d;grind;cases d;exact d;exact d;split at d;rename_i g;simp only[g];split at d;grind;cases d;cases d;cases d
def wH (P:Program) (K:FuncId->List Value->Option jI) (a:Ek) (h:AH) (q:Value->AH->Prop):Op->Prop
 |.store t p x=>Sq P t fun n=>vQ P a p fun p=>vQ P a x fun x=>bG (tZ h n p x) fun d=>q undef d
 |.call c=>(match c.callee with
  |.builtin b=>Vi P a c.args.toList fun l=>wBI P h q c.argTypes b l
  |.value (.func g)=>(match callable P g with
   |true=>Vi P a c.args.toList fun l=>Cl P K g l h q
   |false=>hF)
  |.value f=>vQ P a f fun f=>Vi P a c.args.toList fun l=>yO P K f l h q
  |.invoke _ _=>hF)
 |.mapUpdate t m k x=>(match G4 P t with
  |some _=>vQ P a m fun m=>vQ P a k fun k=>vQ P a x fun x=>bG (Ov h m k x) fun d=>q undef d
  |none=>hF)
 |_=>hF
theorem aDl {a:Ek} {env:List Value} (g:fK a env) {h:AH} {q:Value->AH->Prop} {op:Op} (d:wH P K a h q op):Bj P K (dH P env) h q op:=by
 unfold wH at d;unfold Bj;split at d;obtain⟨j,d⟩:=rV d;simp only[j,if_true];exact fH g (fH g d);split at d;rename_i i;simp only[i];exact aBh (Da g d);rename_i i;simp only[i];split at d;rename_i m;simp only[m,if_true];exact Da g d;cases d;rename_i i;simp only[i];exact Da g (fH g d);cases d;split at d;rename_i n;simp only[n];exact fH g (fH g (fH g d));cases d;cases d
def wA (P:Program) (a:Ek) (mk:nI->(Nat->AH->Prop)->Prop) (Hn:Nat->TypeId->List Value->Nat->Nat->(Value->AH->Prop)->Prop) (q:Value->AH->Prop):Op->Prop
 |.alloc e=>wZ P e fun z=>mk (.cells z e (0,0) true) fun p d=>q (pt p 0 0) d
 |.box e x=>vQ P a x fun x=>bG (lG e x) fun b=>mk b fun p d=>q (pt p 0 0) d
 |.buildSlice t len g=>match P.underlying t with
  |some (.slice e)=>wZ P e fun z=>Sq P e fun n=>(match Nat.ble (len*n) 16777216 with
   |true=>Jo P a (plA n) g.toList fun i=>fcL (eJ z len) fun j=>bG (oN j i) fun l=>Hn n e l len len q
   |false=>hF)
  |_=>hF
 |.makeSlice t l c=>match P.underlying t with
  |some (.slice e)=>wZ P e fun z=>Sq P e fun n=>bzW P e fun m=>vQ P a l fun l=>vQ P a c fun c=>bG (aI0 m l c) fun r=>Hn n e (eJ z r.2) r.1 r.2 q
  |_=>hF
 |.makeMap _ none=>mk (.map [] 0) fun p d=>q (gH p) d
 |.makeMap t (some x)=>match P.underlying t with
  |some (.map _ _)=>vQ P a x fun x=>isI x (mk (.map [] 0) fun p d=>q (gH p) d)
  |_=>hF
 |_=>hF
where aI0:=Go.Ab.Hn
theorem aG3 {a:Ek} {env:List Value} (g:fK a env) {mk:nI->(Nat->AH->Prop)->Prop} {Hn:Nat->TypeId->List Value->Nat->Nat->(Value->AH->Prop)->Prop}
  (u:∀W e l n c k,Hn W e l n c k->mk (.cells l e (0,0) true) fun p o=>k (mz n c p) o) {q:Value->AH->Prop} {op:Op} (d:wA P a mk Hn q op):
  Bm P (dH P env) (fun b f=>mk b fun i o=>q (f i) o) op:=by
 unfold wA at d
 unfold Bm
 split at d
 .obtain⟨z,m,d⟩:=de d;simp only[m];exact d
 .exact fH g d
 .split at d
  .rename_i j;simp only[j];obtain⟨z,m,d⟩:=de d;obtain⟨_,d⟩:=rV d;simp only[m];split at d
   .rename_i w;rw[aJ7 (Nat.le_of_ble_eq_true w)];obtain⟨r,t,d⟩:=El (pl:=fun i=>some (i*P.cellsOf _,P.cellsOf _)) g (fun i k x=>⟨_,_,rfl,x⟩) d;simp only[t];exact(Kx d).mono fun v s=>u _ _ _ _ _ _ s
   .cases d
  .cases d
 .split at d
  .rename_i j;simp only[j];obtain⟨z,m,d⟩:=de d;obtain⟨_,d⟩:=rV d;simp only[m];exact(fH g (fH g (aB6 d))).mono fun v s=>u _ _ _ _ _ _ s
  .cases d
 .exact d
 .split at d
  .rename_i j;simp only[j];obtain⟨k,n,t,d⟩:=fH g d;grind
  .cases d
 .cases d
end
end Go.Ab
end
section
namespace Go.Ab
noncomputable section
variable {P:Program} {K:FuncId->List Value->Option jI}
theorem fK.cons {a:Ek} {env:List Value} (n:fK a env) {d:Nat} {v:Value} {k:Kn} (q:d<env.length) (hb:∀x,k= .b x->v= .bool x) (r:k= .sk->v=undef):fK ((d,v,k)::a) (env.set d v):=by
 intro t u j g;unfold Ek.lk at g;split at g;rename_i e;have:=Nat.eq_of_beq_eq_true e;grind;rename_i e;obtain⟨i,m⟩:=n t u j g;refine⟨?_,m⟩;rw[List.getElem?_set_ne (fun o=>by simp_all)];exact i
theorem fK.aF4 {a:Ek} {env:List Value} (i:fK a env) {d:Nat} {v:Value} {k _k':Kn} (m:a.lk d=some (v,k)) {b:Bool} (n:v= .bool b):fK ((d,.bool b,.b b)::a) env:=by
 intro t u j h;unfold Ek.lk at h;split at h;rename_i e;have:=Nat.eq_of_beq_eq_true e;subst this;cases h;exact⟨by rw[<-n];exact(i _ _ _ m).1,fun x g=>(by cases g;rfl),fun g=>(by cases g)⟩;exact i t u j h
def P9 (n:Nat) (a:Ek) (d:Option Tmp) (v:Value) (k:Kn) (q:Ek->Prop):Prop:=match d with
 |none=>q a
 |some d=>(match Nat.blt d n with
  |true=>q ((d,v,k)::a)
  |false=>hF)
theorem rQ {n:Nat} {a:Ek} {env:List Value} (o:fK a env) (j:env.length=n) {d:Option Tmp} {v:Value} {k:Kn} {q:Ek->Prop} (hb:∀x,k= .b x->v= .bool x) (r:k= .sk->v=undef) (g:P9 n a d v k q):
  ∃m,fK m (jJ env d v)/\(jJ env d v).length=n/\q m:=by
 unfold P9 at g
 split at g
 .exact⟨a,o,j,g⟩
 .rename_i d;split at g
  .rename_i i;have:d<n:=Nat.le_of_ble_eq_true i;exact⟨_,o.cons (j.symm▸this) hb r,by simp[jJ,j],g⟩
  .cases g
def wG (pF:Nat->Option Tmp) (a:Ek) (g:Option (Nat×Bool)) (p s:Ek->Prop):Prop:=match g with
 |none=>p a
 |some (j,want)=>match pF j with
  |none=>hF
  |some d=>match a.lk d with
   |some (_,.b x)=>(match x,want with
    |true,true=>p a
    |false,false=>p a
    |_,_=>s a)
   |some (_,.sk)=>s a
   |some (v,_)=>(match want with
    |true=>Br v (p ((d,.bool true,.b true)::a)) (s ((d,.bool false,.b false)::a))
    |false=>Br v (s ((d,.bool true,.b true)::a)) (p ((d,.bool false,.b false)::a)))
   |none=>hF
theorem aFa {all:Array Oper} {a:Ek} {env:List Value} (m:fK a env) {o:Oper} {p s:Ek->Prop} (g:wG (fun j=>(all[j]?).bind (·.dst)) a o.guard p s):
  ∃t,fK t env/\((aWanted all env o=some true/\p t)\/(aWanted all env o=some false/\s t)):=by
 unfold wG at g
 unfold aWanted
 split at g
 .grind
 .rename_i j want y;rw[y];simp only;split at g
  .cases g
  .rename_i d i;replace i:(all[j]?).bind (·.dst)=some d:=i;rw[i];simp only[Option.bind_some];split at g
   .rename_i x n;obtain⟨q,u,_⟩:=m _ _ _ n;have:=u x rfl;subst this;rw[q];split at g
    .grind
    .grind
    .rename_i A B;refine⟨a,m,.inr ⟨?_,g⟩⟩;cases x<;>cases want<;>grind
   .rename_i n;obtain⟨q,_,u⟩:=m _ _ _ n;have:=u rfl;subst this;rw[q];exact⟨a,m,.inr ⟨rfl,g⟩⟩
   .rename_i v k _ _ n;have q:=(m _ _ _ n).1;rw[q];split at g
    .obtain⟨b,r,z,w⟩:=g;refine⟨_,m.aF4 (_k':= .un) n r,?_⟩;subst r;cases b with
     |true=>grind
     |false=>grind
    .obtain⟨b,r,z,w⟩:=g;refine⟨_,m.aF4 (_k':= .un) n r,?_⟩;subst r;cases b with
     |true=>grind
     |false=>grind
   .cases g
def bq (a:Ek) (op:Op):Option Operand:=match op with
 |.pick (.tmp c) x y=>(match a.lk c with
  |some (_,.b true)=>some x
  |some (_,.b false)=>some y
  |_=>none)
 |.move x=>some x
 |.assign x=>some x
 |_=>none
theorem cm {a:Ek} {env:List Value} (m:fK a env) {op:Op} {x:Operand} (h:bq a op=some x):kindOf op= .zW/\∀i,bY P (dH P env) i op=some (dH P env x):=by
 unfold bq at h;split at h;rename_i c x y;split at h;rename_i j;cases h;obtain⟨d,g,_⟩:=m _ _ _ j;exact⟨rfl,fun i=>by simp[bY,dH,List.getD_eq_getElem?_getD,d,g true rfl]⟩;rename_i j;cases h;obtain⟨d,g,_⟩:=m _ _ _ j;exact⟨rfl,fun i=>by simp[bY,dH,List.getD_eq_getElem?_getD,d,g false rfl]⟩;cases h;cases h;exact⟨rfl,fun _=>rfl⟩;cases h;exact⟨rfl,fun _=>rfl⟩;cases h
def knW (a:Ek) (x:Operand):Kn:=match x with
 |.const (.bool y)=> .b y
 |.tmp t=>(match a.lk t with
  |some (_,.b y)=> .b y
  |_=> .un)
 |_=> .un
theorem xk {a:Ek} {env:List Value} (i:fK a env) {x:Operand}:(∀y,knW a x= .b y->dH P env x= .bool y)/\knW a x≠.sk:=by
 unfold knW;split;exact⟨fun y h=>(by cases h;simp[dH,dT]),fun h=>(by cases h)⟩;split;rename_i j;obtain⟨d,g,_⟩:=i _ _ _ j;exact⟨fun y h=>(by cases h;simp[dH,List.getD_eq_getElem?_getD,d,g _ rfl]),fun h=>(by cases h)⟩;grind;grind
def ue (M:Nat) (op:Op) (d:Option Tmp) (q:Kn->Prop):Prop:=match op,d with
 |.assign _,_=>hP (q .un)
 |_,some d=>(match Nat.beq (Nat.land (Nat.shiftRight M d) 1) 1 with
  |true=>q .un
  |false=>q .ex)
 |_,none=>q .un
theorem Yx {M:Nat} {op:Op} {d:Option Tmp} {q:Kn->Prop} (h:ue M op d q):q .un\/q .ex:=by
 unfold ue at h;split at h;exact .inl h;grind;exact .inl h
def wKn (M:Nat) (op:Op) (d:Option Tmp) (a:Ek) (x:Operand) (q:Kn->Prop):Prop:=match knW a x with
 |.b y=>q (.b y)
 |_=>ue M op d q
theorem aBd {M:Nat} {op:Op} {d:Option Tmp} {a:Ek} {x:Operand} {q:Kn->Prop} (h:wKn M op d a x q):(∃y,knW a x= .b y/\q (.b y))\/q .un\/q .ex:=by
 unfold wKn at h;split at h;grind;exact .inr (Yx h)
def ups:Op->List Operand
 |.move x|.assign x|.load _ x|.nilCheck x|.unOp _ _ x|.convert _ _ x|.fieldAddr _ x _|.field _ x _|.box _ x=>[x]
 |.store _ x y|.binOp _ _ x y _|.indexAddr _ x y|.index _ x y=>[x,y]
 |.slice _ x g d i=>x::(g.toList++(d.toList++i.toList))
 |.call c=>c.args.toList
 |_=>[]
def rmK (t:Nat):Ek->(Ek->Prop)->Prop
 |[],q=>hP (q [])
 |(d,v,k)::a,q=>(match Nat.beq d t with
  |true=>(match k with
   |.ex=>q ((d,undef,.no)::a)
   |k=>q ((d,v,k)::a))
  |false=>rmK t a fun a=>q ((d,v,k)::a))
theorem aAw {t:Nat}:∀{a:Ek} {q:Ek->Prop},rmK t a q->∃g,(∀x r,Ek.lk g x=some r->a.lk x=some r)/\q g
 |[],_,h=>⟨_,fun _ _ h=>h,h⟩
 |(m,v,k)::a,q,h=>by
  unfold rmK at h;split at h;split at h;refine⟨_,fun x r d=>?_,h⟩;unfold Ek.lk at d ⊢;grind;grind;obtain⟨a1,j,i⟩:=aAw h;refine⟨_,fun x r d=>?_,i⟩;unfold Ek.lk at d ⊢;grind
def ij:List Operand->Ek->(Ek->Prop)->Prop
 |[],a,q=>hP (q a)
 |x::l,a,q=>(match x with
  |.tmp t=>rmK t a fun a=>ij l a q
  |_=>ij l a q)
theorem Qn {env:List Value}:∀{l:List Operand} {a:Ek} {q:Ek->Prop},fK a env->ij l a q->∃g,fK g env/\q g
 |[],a,_,d,h=>⟨a,d,h⟩
 |x::l,a,q,d,h=>by
  unfold ij at h;split at h;obtain⟨a1,i,j⟩:=aAw h;exact Qn (l:=l) (fun t v k m=>d t v k (i _ _ m)) j;exact Qn (l:=l) d h
def wOp (P:Program) (K:FuncId->List Value->Option jI) (a:Ek) (h:AH) (q:Value->AH->Prop) (op:Op):Prop:=match kindOf op with
 |.zW=>wL P a h (fun v=>q v h) op
 |.alloc=>wA P a (Cq h) (wW h) q op
 |.store=>wH P K a h q op
 |.call=>wH P K a h q op
 |.other=>hF
theorem aBl {a:Ek} {env:List Value} (g:fK a env) {h:AH} {q:Value->AH->Prop} {op:Op} (d:wOp P K a h q op):∃n v i,opStep P (run P K n) env h op=some (v,i)/\q v i:=by
 refine Xq ?_;unfold wOp at d;unfold wpOp;split at d<;>(rename_i m;simp only[m]);exact aF3 g d;exact aG3 g (fun W e l n c k j=>j) d;exact aDl g d;exact aDl g d;exact d
def aCn (P:Program) (K:FuncId->List Value->Option jI) (M n:Nat) (pF:Nat->Option Tmp) (o:Oper) (d:Ek->AH->(Ek->AH->Prop)->Prop) (a:Ek) (h:AH) (q:Ek->AH->Prop):Prop:=match o with
 |⟨dst,op,_,_,_,guard⟩=>wG pF a guard
  (fun a=>ij (ups op) a fun g=>(match bq a op with
   |some x=>wKn M op dst a x fun k=>vQ P a x fun v=>P9 n g dst v k fun a=>d a h q
   |none=>ue M op dst fun k=>wOp P K a h (fun v i=>P9 n g dst v k fun a=>d a i q) op))
  (fun a=>P9 n a dst undef .sk fun a=>d a h q)
def zp (P:Program) (K:FuncId->List Value->Option jI) (M n:Nat) (pF:Nat->Option Tmp) (os:List Oper):Ek->AH->(Ek->AH->Prop)->Prop:=
 List.rec (fun a h q=>q a h) (fun o _ d=>aCn P K M n pF o d) os
theorem aG0 {M n:Nat} {op:Op} {dst:Option Tmp} {a j:Ek} {env:List Value} {x:Operand} {q:Ek->Prop} (g:fK a env) (d:fK j env) (i:env.length=n) (hb:wKn M op dst a x fun k=>vQ P a x fun v=>P9 n j dst v k q):
  ∃m,fK m (jJ env dst (dH P env x))/\(jJ env dst (dH P env x)).length=n/\q m:=by
 obtain⟨r,_⟩:=xk (P:=P) (x:=x) g
 rcases aBd hb with⟨y,o,hb⟩|hb|hb
 .exact rQ d i (fun z e=>by grind) (fun e=>by cases e) (fH g hb)
 .exact rQ d i (fun _ e=>by cases e) (fun e=>by cases e) (fH g hb)
 .exact rQ d i (fun _ e=>by cases e) (fun e=>by cases e) (fH g hb)
theorem Xz {M n:Nat} {all:Array Oper}:∀{os:List Oper} {a:Ek} {env:List Value} {h:AH} {q:Ek->AH->Prop},fK a env->env.length=n->zp P K M n (fun j=>(all[j]?).bind (·.dst)) os a h q->
  ∃m o z u,run P K m (.ops all os env) h=some (o,z)/\fK u o.env/\o.env.length=n/\q u z
 |[],a,env,h,q,I,A,H=>⟨1,_,h,a,rfl,I,A,H⟩
 |o::os,a,env,h,q,I,A,H=>by
  change aCn P K M n (fun j=>(all[j]?).bind (·.dst)) o (zp P K M n (fun j=>(all[j]?).bind (·.dst)) os) a h q at H;unfold aCn at H;obtain⟨a1,g,hb⟩:=aFa (o:=o) I H;rcases hb with⟨d,hb⟩|⟨d,hb⟩;obtain⟨u,w,hb⟩:=Qn g hb;obtain⟨i,v,B,s,S,J,N,y⟩:∃i v B s,opStep P (run P K i) env h o.op=some (v,B)/\fK s (jJ env o.dst v)/\(jJ env o.dst v).length=n/\zp P K M n (fun j=>(all[j]?).bind (·.dst)) os s B q:=by
   split at hb;rename_i x V;obtain⟨T,U⟩:=cm (P:=P) g V;obtain⟨s,C,D,E⟩:=aG0 g w A hb;exact⟨0,_,h,s,by simp only[opStep,T,U];rfl,C,D,E⟩;rcases Yx hb with hb|hb;obtain⟨i,v,B,S,O⟩:=aBl g hb;obtain⟨s,C,D,E⟩:=rQ w A (fun _ e=>by cases e) (fun e=>by cases e) O;grind;obtain⟨i,v,B,S,O⟩:=aBl g hb;obtain⟨s,C,D,E⟩:=rQ w A (fun _ e=>by cases e) (fun e=>by cases e) O;grind
  obtain⟨r,out,z,u,R,Q⟩:=Xz J N y;refine⟨max i r+1,out,z,u,?_,Q⟩;show vH P (fun t h=>run P K (max i r) t h) all (o::os) env h=_;simp only[vH,d];rw[show(fun t h=>run P K (max i r) t h)=run P K (max i r) from rfl,Pp (kO (Nat.le_max_left i r)) S];exact kO (Nat.le_max_right i r) _ _ _ R;obtain⟨s,C,D,E⟩:=rQ g A (fun _ e=>by cases e) (fun _=>rfl) hb;obtain⟨r,out,z,u,R,Q⟩:=Xz C D E;refine⟨r+1,out,z,u,?_,Q⟩;show vH P (fun t h=>run P K r t h) all (o::os) env h=_;simp only[vH,d];exact R
end
end Go.Ab
end
section
namespace Go.Ab
noncomputable section
variable {P:Program} {K:FuncId->List Value->Option jI}
def wLV (P:Program) (a:Ek) (h:AH) (q:Value->Prop):Op->Prop
 |.call c=>(match c.callee with
  |.builtin b=>(match jG b with
   |true=>Vi P a c.args.toList fun l=>wBI P h (fun v _=>q v) c.argTypes b l
   |false=>hF)
  |_=>hF)
 |op=>wL P a h q op
theorem aAx {a:Ek} {env:List Value} (m:fK a env) {h:AH} {q:Value->Prop} {op:Op} (d:wLV P a h q op):iN op=true/\∃v,eR P (dH P env) h op=some v/\q v:=by
 unfold wLV at d;split at d;split at d;rename_i n;split at d;rename_i o;obtain⟨v,r,g,i⟩:=yN (aBh (Da m d));exact⟨by simp[iN,n,o],v,by simp only[eR,n,o,if_true,g];rfl,i⟩;cases d;cases d
 .obtain⟨j,v,g,i⟩:=B9 (aF3 m d);refine⟨?_,v,?_,i⟩
  .cases op<;>first|(simp[iN,j];done)|(simp[kindOf] at j)
  cases op<;>first|exact g|(simp[kindOf] at j)
structure WR where
 a:Ek
 h:AH
 v:Value
 ran:Bool
def wDO (P:Program) (K:FuncId->List Value->Option jI) (i r:Nat) (a:Ek) (h:AH) (q:Value->AH->Prop) (op:Op):Prop:=
 match iN op with
 |true=>wLV P a h (fun v=>q v h) op
 |false=>(match kindOf op with
  |.alloc=>(match i with
   |0=>wA P a (mN h r) (lR h r) q op
   |i=>wA P a (mN h (r+i)) (lR h (r+i)) q op)
  |_=>wH P K a h q op)
theorem aB2 {all:List Oper} {r i:Nat} {a:Ek} {env:List Value} (y:fK a env) {h:AH} {q:Value->AH->Prop} {o:Oper} (d:aWanted ⟨all⟩ env o=some true) (s:wDO P K i r a h q o.op):
  ∃n v m,drawStep P (run P K n) all r i env h o=some (v,m)/\q v m:=by
 unfold wDO at s
 unfold drawStep
 simp only[d]
 split at s
 .rename_i x;obtain⟨_,v,t,u⟩:=aAx y s;exact⟨0,v,h,by simp[x,t],u⟩
 .rename_i x;split at s
  .rename_i z;have w:∀{j:Nat},wA P a (mN h j) (lR h j) q o.op->j=r+i->∃n v m,drawStep P (run P K n) all r i env h o=some (v,m)/\q v m:=by
    intro j B e;subst e;obtain⟨_,b,f,t,u⟩:=Ca (aG3 y (fun W e l n c k A=>A) B);exact⟨0,_,_,by simp[drawStep,d,x,z,t],u⟩
   have:=(show∃n v m,drawStep P (run P K n) all r i env h o=some (v,m)/\q v m by
    split at s;exact w s rfl;exact w s rfl)
   unfold drawStep at this
   simpa only[d] using this
  .obtain⟨z,n,v,m,t,u⟩:=vN (fun g=>rfl) (aDl y s);refine⟨n,v,m,?_,u⟩;have:(kindOf o.op==Kind.alloc)=false:=by rcases z with h|h<;>rw[h]<;>rfl
   simp[this,x,t]
def Uc:List (Nat×Nat)->Nat->Bool
 |[],_=>false
 |(a,_)::l,i=>(match Nat.beq a i with
  |true=>true
  |false=>Uc l i)
def wMd (d:List (Nat×Nat)) (i:Nat) (a:Ek) (rs:List WR) (k:(AH->Value->Bool->(List WR->Prop)->Prop)->Prop):Prop:=match d with
 |[]=>hP (k fun _ _ _ q=>q rs)
 |d=>(match Uc d i with
  |true=>k fun h v r q=>q (⟨a,h,v,r⟩::rs)
  |false=>k fun h _ _ q=>q (⟨[],h,undef,true⟩::rs))
def Rl (d:List (Nat×Nat)):List WR->List WR->Prop
 |[],[]=>True
 |x::g,y::gs=>(x=y\/Uc d gs.length=false/\x.h=y.h)/\Rl d g gs
 |_,_=>False
theorem aBa {g:List (Nat×Nat)} {a:Ek} {rs gs:List WR} {i:Nat} {k:(AH->Value->Bool->(List WR->Prop)->Prop)->Prop} (o:gs.length=i) (n:g≠[]->Rl g rs gs) (d:wMd g i a rs k):
  ∃R,k R/\∀h v r q,R h v r q->∃m,(g≠[]->Rl g m (⟨a,h,v,r⟩::gs))/\q m:=by
 unfold wMd at d
 split at d
 .exact⟨_,d,fun h v r q j=>⟨rs,fun e=>absurd rfl e,j⟩⟩
 .split at d
  .exact⟨_,d,fun h v r q j=>⟨⟨a,h,v,r⟩::rs,fun e=>⟨.inl rfl,n e⟩,j⟩⟩
  .rename_i s;exact⟨_,d,fun h v r q j=>⟨⟨[],h,undef,true⟩::rs,fun e=>⟨.inr ⟨by rw[o];exact s,rfl⟩,n e⟩,j⟩⟩
theorem vr {n:List (Nat×Nat)}:∀{rs gs:List WR},Rl n rs gs->rs.length=gs.length/\∀(j:Nat) (x y:WR),rs.reverse[j]?=some x->gs.reverse[j]?=some y->x=y\/Uc n j=false/\x.h=y.h
 |[],[],_=>⟨rfl,fun j x y s=>by simp at s⟩
 |x::rs,y::gs,h=>by
  obtain⟨o,q⟩:=h;obtain⟨m,r⟩:=vr q;refine⟨by simp[m],fun j u w g d=>?_⟩;rw[List.reverse_cons] at g d;rcases Nat.lt_trichotomy j gs.length with i|i|i;rw[List.getElem?_append_left (by simpa [m] using i)] at g;rw[List.getElem?_append_left (by simpa using i)] at d;exact r j u w g d;subst i;rw[List.getElem?_append_right (by simp[m])] at g;rw[List.getElem?_append_right (by simp)] at d;simp[m] at g d;subst g;subst d;exact o;rw[List.getElem?_eq_none (by simp;omega)] at d;cases d
def wDF (P:Program) (K:FuncId->List Value->Option jI) (M n:Nat) (pF:Nat->Option Tmp) (r:Nat) (m:List (Nat×Nat)) (o:Oper) (g:Nat->Ek->AH->List WR->(List WR->Ek->AH->Prop)->Prop) (i:Nat) (a:Ek) (h:AH) (rs:List WR) (q:List WR->Ek->AH->Prop):Prop:=match o with
 |⟨dst,op,_,_,_,guard⟩=>nK (i+1) fun j=>wG pF a guard
  (fun a=>wMd m i a rs fun R=>ij (ups op) a fun d=>(match bq a op with
   |some x=>wKn M op dst a x fun k=>vQ P a x fun v=>P9 n d dst v k fun d=>R h v true fun rs=>g j d h rs q
   |none=>ue M op dst fun k=>wDO P K i r a h (fun v s=>P9 n d dst v k fun d=>R h v true fun rs=>g j d s rs q) op))
  (fun a=>wMd m i a rs fun R=>P9 n a dst undef .sk fun d=>R h undef false fun rs=>g j d h rs q)
def wDT (P:Program) (K:FuncId->List Value->Option jI) (M n:Nat) (pF:Nat->Option Tmp) (r:Nat) (d:List (Nat×Nat)) (os:List Oper):Nat->Ek->AH->List WR->(List WR->Ek->AH->Prop)->Prop:=
 List.rec (fun _ a h i q=>q i a h) (fun o _ g=>wDF P K M n pF r d o g) os
def Zd (all:List Oper) (rs:List WR) (es:List (List Value)):Prop:=rs.length=es.length/\∀(i:Nat) (o:Oper) (x:WR) (e:List Value),all[i]?=some o->rs[i]?=some x->es[i]?=some e->fK x.a e/\aWanted ⟨all⟩ e o=some x.ran
theorem Zd.snoc {all:List Oper} {rs:List WR} {es:List (List Value)} (n:Zd all rs es) {o:Oper} {x:WR} {e:List Value} (t:all[rs.length]?=some o) (r:fK x.a e) (s:aWanted ⟨all⟩ e o=some x.ran):Zd all (rs++[x]) (es++[e]):=by
 refine⟨by simp[n.1],fun i u w q d g j=>?_⟩;rcases Nat.lt_trichotomy i rs.length with m|m|m;rw[List.getElem?_append_left m] at g;rw[List.getElem?_append_left (n.1▸m)] at j;exact n.2 i u w q d g j;subst m;rw[t] at d;cases d;simp at g;subst g;rw[n.1] at j;simp at j;subst j;exact⟨r,s⟩;rw[List.getElem?_eq_none (by simp;omega)] at g;cases g
theorem Y4 {M n:Nat} {all:List Oper} {r:Nat} {C:List (Nat×Nat)}:∀{os:List Oper} {i:Nat} {a:Ek} {env:List Value} {h:AH} {rs gs:List WR} {es:List (List Value)} {q:List WR->Ek->AH->Prop},fK a env->env.length=n->gs.length=i->(∀j,all[i+j]?=os[j]?)->Zd all gs.reverse es->(C≠[]->Rl C rs gs)->
  wDT P K M n (fun j=>((⟨all⟩:Array Oper)[j]?).bind (·.dst)) r C os i a h rs q->
  ∃m w A e h' V,drawText P (run P K m) all r i os env h=some (List.zipWith (fun x e=>⟨e,x.h,x.v⟩) w A,e,h')/\w.length=A.length/\Zd all (gs.reverse++w) (es++A)/\fK V e/\e.length=n/\∃s,(C≠[]->Rl C s (w.reverse++gs))/\q s V h'
 |[],i,a,env,h,rs,gs,es,q,ha,T,_,_,Q,hg,U=>⟨0,[],[],env,h,a,rfl,rfl,by simpa using Q,ha,T,rs,by simpa using hg,U⟩
 |o::os,i,a,env,h,rs,gs,es,q,ha,T,u,S,Q,hg,U=>by
  have U:wDF P K M n (fun j=>((⟨all⟩:Array Oper)[j]?).bind (·.dst)) r C o (wDT P K M n (fun j=>((⟨all⟩:Array Oper)[j]?).bind (·.dst)) r C os) i a h rs q:=U;unfold wDF at U;have U:=wj U;obtain⟨a1,g,hb⟩:=aFa (o:=o) ha U;have ho:all[gs.reverse.length]?=some o:=by have:=S 0;rw[List.length_reverse,u];simpa using this
  have I:∀j,all[i+1+j]?=os[j]?:=fun j=>by
   have:=S (j+1);rw[show i+1+j=i+(j+1) by omega,this];simp
  rcases hb with⟨d,hb⟩|⟨d,hb⟩
  .obtain⟨R,hb,hR⟩:=aBa u hg hb;obtain⟨N,v,O,t,hs,δ,η,s,Y,γ⟩:∃N v O t,drawStep P (run P K N) all r i env h o=some (v,O)/\fK t (jJ env o.dst v)/\(jJ env o.dst v).length=n/\
     ∃s,(C≠[]->Rl C s (⟨a1,h,v,true⟩::gs))/\wDT P K M n (fun j=>((⟨all⟩:Array Oper)[j]?).bind (·.dst)) r C os (i+1) t O s q:=by
    obtain⟨V,H,hb⟩:=Qn g hb
    split at hb
    .rename_i x hx;obtain⟨hk,hl⟩:=cm (P:=P) g hx;have ε:iN o.op=true:=by
      cases hop:o.op<;>rw[hop] at hk<;>first|(simp[iN,kindOf];done)|(simp[kindOf] at hk)
     have ζ:eR P (dH P env) h o.op=some (dH P env x):=by
      have:=hl h;cases hop:o.op<;>rw[hop] at hk this<;>first|exact this|(simp[kindOf] at hk)
     have fin:∀{t:Ek} {v:Value},v=dH P env x->fK t (jJ env o.dst (dH P env x))->(jJ env o.dst (dH P env x)).length=n->R h v true (fun rs=>wDT P K M n (fun j=>((⟨all⟩:Array Oper)[j]?).bind (·.dst)) r C os (i+1) t h rs q)->
       ∃N v O t,drawStep P (run P K N) all r i env h o=some (v,O)/\fK t (jJ env o.dst v)/\(jJ env o.dst v).length=n/\∃s,(C≠[]->Rl C s (⟨a1,h,v,true⟩::gs))/\wDT P K M n (fun j=>((⟨all⟩:Array Oper)[j]?).bind (·.dst)) r C os (i+1) t O s q:=by
      intro t v e D E B
      subst e
      exact⟨0,_,h,t,by simp[drawStep,d,ε,ζ],D,E,hR _ _ _ _ B⟩
     obtain⟨k1,_⟩:=xk (P:=P) (x:=x) g
     rcases aBd hb with⟨y,hy,hb⟩|hb|hb
     .have hb:=fH g hb;obtain⟨t,D,E,B⟩:=rQ H T (fun z e=>by cases e;exact k1 _ hy) (fun e=>by cases e) hb;exact fin rfl D E B
     .have hb:=fH g hb;obtain⟨t,D,E,B⟩:=rQ H T (fun _ e=>by cases e) (fun e=>by cases e) hb;exact fin rfl D E B
     .have hb:=fH g hb;obtain⟨t,D,E,B⟩:=rQ H T (fun _ e=>by cases e) (fun e=>by cases e) hb;exact fin rfl D E B
    .rcases Yx hb with hb|hb
     .obtain⟨N,v,O,hs,hp⟩:=aB2 g d hb;obtain⟨t,D,E,B⟩:=rQ H T (fun _ e=>by cases e) (fun e=>by cases e) hp;exact⟨N,v,O,t,hs,D,E,hR _ _ _ _ B⟩
     .obtain⟨N,v,O,hs,hp⟩:=aB2 g d hb;obtain⟨t,D,E,B⟩:=rQ H T (fun _ e=>by cases e) (fun e=>by cases e) hp;exact⟨N,v,O,t,hs,D,E,hR _ _ _ _ B⟩
   obtain⟨n2,w,A,e,h',V,hr,Z,J,X,β,hq⟩:=Y4 (i:=i+1) δ η (by simp[u]) I (by rw[List.reverse_cons];exact Q.snoc (x:=⟨a1,h,v,true⟩) ho g d) Y γ;refine⟨max N n2,⟨a1,h,v,true⟩::w,env::A,e,h',V,?_,by simp[Z],by simpa using J,X,β,by simpa using hq⟩;simp only[drawText,H3 (kO (Nat.le_max_left N n2)) hs,Am (kO (Nat.le_max_right N n2)) _ hr];rfl
  obtain⟨R,hb,hR⟩:=aBa u hg hb;obtain⟨t,D,E,B⟩:=rQ g T (fun _ e=>by cases e) (fun _=>rfl) hb;obtain⟨s,Y,B⟩:=hR _ _ _ _ B;obtain⟨n2,w,A,e,h',V,hr,Z,J,X,β,hq⟩:=Y4 (i:=i+1) D E (by simp[u]) I (by rw[List.reverse_cons];exact Q.snoc (x:=⟨a1,h,undef,false⟩) ho g d) Y B;refine⟨n2,⟨a1,h,undef,false⟩::w,env::A,e,h',V,?_,by simp[Z],by simpa using J,X,β,by simpa using hq⟩;have hs:drawStep P (run P K n2) all r i env h o=some (undef,h):=by simp only[drawStep,d]
  simp only[drawText,hs,hr];rfl
def gh (P:Program) (all:List Oper) (rs:List WR) (hEnd:AH) (x:Nat×Nat) (d:Prop->Prop) (p:Prop):Prop:=match x with
 |(i,s)=>(match all[i]?,rs[i]? with
  |some o,some ⟨a,_,v,true⟩=>(match rs[s]? with
   |some ⟨_,h,_,_⟩=>wLV P a h (fun x=>nG x v=true) o.op/\d p
   |none=>wLV P a hEnd (fun x=>nG x v=true) o.op/\d p)
  |some _,some ⟨_,_,_,false⟩=>d p
  |_,_=>hF)
def zb (P:Program) (all:List Oper) (rs:List WR) (hEnd:AH) (fs:List (Nat×Nat)):Prop->Prop:=List.rec (fun p=>p) (fun x _ d=>gh P all rs hEnd x d) fs
theorem xi {all:List Oper} {rs:List WR} {es:List (List Value)} {hEnd:AH} (g:Zd all rs es) {p:Prop}:∀{fs:List (Nat×Nat)},zb P all rs hEnd fs p->(fs.all (floatOk P all (List.zipWith (fun x e=>⟨e,x.h,x.v⟩) rs es) hEnd)=true)/\p
 |[],m=>⟨rfl,m⟩
 |(i,s)::fs,m=>by
  change gh P all rs hEnd (i,s) (zb P all rs hEnd fs) p at m;unfold gh at m;simp only at m;have D:∀{j:Nat} {x:WR},rs[j]?=some x->∃e,es[j]?=some e/\(List.zipWith (fun x e=>(⟨e,x.h,x.v⟩:Rec)) rs es)[j]?=some ⟨e,x.h,x.v⟩:=by
   intro j x n;have I:j<es.length:=by rw[<-g.1];exact(List.getElem?_eq_some_iff.1 n).1
   exact⟨es[j],by simp[I],by simp[List.getElem?_zipWith,n,I]⟩
  split at m;rename_i o a h v t n;obtain⟨e,A,r⟩:=D n;obtain⟨H,d⟩:=g.2 i o _ e t n A;have fin:∀{w:AH},(match(List.zipWith (fun x e=>(⟨e,x.h,x.v⟩:Rec)) rs es)[s]? with|some q=>q.h|none=>hEnd)=w->wLV P a w (fun x=>nG x v=true) o.op/\zb P all rs hEnd fs p->(((i,s)::fs).all (floatOk P all (List.zipWith (fun x e=>⟨e,x.h,x.v⟩) rs es) hEnd)=true)/\p:=by
   intro w B ⟨J,N⟩;obtain⟨y,z⟩:=xi g N;refine⟨?_,z⟩;obtain⟨_,u,O,Q⟩:=aAx H J;rw[List.all_cons,y,Bool.and_true];cases hc:(List.zipWith (fun x e=>(⟨e,x.h,x.v⟩:Rec)) rs es)[s]?<;>(rw[hc] at B;simp only at B;subst B;simp only[floatOk,t,r,d,hc,O,Q])
  split at m;rename_i C;obtain⟨R,_,E⟩:=D C;exact fin (by rw[E]) m;rename_i C;have:(List.zipWith (fun x e=>(⟨e,x.h,x.v⟩:Rec)) rs es)[s]?=none:=by simp[List.getElem?_zipWith,C]
  exact fin (by rw[this]) m;rename_i o a h v t n;obtain⟨e,A,r⟩:=D n;obtain⟨H,d⟩:=g.2 i o _ e t n A;obtain⟨y,z⟩:=xi g m;refine⟨?_,z⟩;rw[List.all_cons,y,Bool.and_true];simp only[floatOk,t,r,d];cases m
def feq:List (Nat×Nat)->List (Nat×Nat)->Bool
 |[],[]=>true
 |(a,b)::l,(c,d)::m=>Nat.beq a c&&(Nat.beq b d&&feq l m)
 |_,_=>false
theorem aBn:∀{l m:List (Nat×Nat)},feq l m=true->l=m
 |[],[],_=>rfl
 |(a,b)::l,(c,d)::m,h=>by
  simp only[feq,Bool.and_eq_true] at h;rw[Nat.eq_of_beq_eq_true h.1,Nat.eq_of_beq_eq_true h.2.1,aBn h.2.2]
 |[],_::_,h=>by cases h
 |_::_,[],h=>by cases h
def aBf (P:Program) (ops:Array Oper) (d:List (Nat×Nat)):Bool:=Jh ops.toList&&(P.follows .mixedOrders|| !Region.departs ops)&&feq (G7 ops.toList) d
def aA5:List (Nat×List (Nat×Nat))->Nat->(List (Nat×Nat)->Prop)->Prop
 |[],_,q=>hP (q [])
 |(i,l)::F,id,q=>(match Nat.beq i id with
  |true=>q l
  |false=>aA5 F id q)
theorem pw:∀{F:List (Nat×List (Nat×Nat))} {id:Nat} {q:List (Nat×Nat)->Prop},aA5 F id q->∃l,q l
 |[],_,_,h=>⟨_,h⟩
 |_::F,_,_,h=>by
  unfold aA5 at h;split at h;exact⟨_,h⟩;exact pw (F:=F) h
theorem O6 {all:List Oper} {rs gs:List WR} {hEnd:AH} {p:Prop} {z:List (Nat×Nat)} (o:rs.length=gs.length) (u:∀(j:Nat) (x y:WR),rs[j]?=some x->gs[j]?=some y->x=y\/Uc z j=false/\x.h=y.h):
  ∀{fs:List (Nat×Nat)},(∀x∈fs,Uc z x.1=true)->zb P all rs hEnd fs p->zb P all gs hEnd fs p
 |[],_,g=>g
 |(i,s)::fs,B,g=>by
  change gh P all rs hEnd (i,s) (zb P all rs hEnd fs) p at g;show gh P all gs hEnd (i,s) (zb P all gs hEnd fs) p;have w:=O6 (hEnd:=hEnd) (all:=all) (p:=p) o u (fs:=fs) fun x D=>B x (List.mem_cons_of_mem _ D);have C:rs[i]?=gs[i]?:=by
   have t:=B (i,s) List.mem_cons_self;rcases Nat.lt_or_ge i rs.length with d|q;have A:rs[i]?=some rs[i]:=List.getElem?_eq_getElem d;have n:gs[i]?=some (gs[i]'(o▸d)):=List.getElem?_eq_getElem _;rcases u i _ _ A n with m|⟨m,_⟩;rw[A,n,m];rw[t] at m;cases m;rw[List.getElem?_eq_none q,List.getElem?_eq_none (o▸q)]
  unfold gh at g ⊢;simp only at g ⊢;rw[<-C];split at g;split at g;rename_i a1 t v1 E r;have d:s<rs.length:=(List.getElem?_eq_some_iff.1 r).1;have n:gs[s]?=some (gs[s]'(o▸d)):=List.getElem?_eq_getElem _;have m:t=(gs[s]'(o▸d)).h:=by
   rcases u s _ _ r n with m|⟨_,m⟩;rw[<-m];exact m
  rw[n];generalize gs[s]'(o▸d)=y at m;subst m;exact⟨g.1,w g.2⟩;rename_i r;have n:gs[s]?=none:=by
   rw[List.getElem?_eq_none_iff] at r ⊢;omega
  rw[n];exact⟨g.1,w g.2⟩;exact w g;cases g
theorem u7:∀{d:List (Nat×Nat)} {x:Nat×Nat},x∈d->Uc d x.1=true
 |(a,b)::l,x,h=>by
  unfold Uc;split;rfl;rename_i e;rcases List.mem_cons.1 h with rfl|h;rw[Nat.beq_refl] at e;cases e;exact u7 h
def rvK (q:List WR->Prop):List WR->List WR->Prop
 |[],acc=>hP (q acc)
 |x::l,acc=>rvK q l (x::acc)
theorem aB0 {q:List WR->Prop}:∀{l acc:List WR},rvK q l acc->q (l.reverse++acc)
 |[],_,h=>h
 |x::l,acc,h=>by have:=aB0 (l:=l) h;simpa using this
def aBu (P:Program) (K:FuncId->List Value->Option jI) (M n:Nat) (F:List (Nat×List (Nat×Nat))) (id:Nat) (ops:Array Oper) (a:Ek) (h:AH) (q:Ek->AH->Prop):Prop:=
 aA5 F id fun d=>nK ops.size fun m=>Rs (aBf P ops d) h m fun r s=>(match d with
  |[]=>wDT P K M n (fun j=>(ops[j]?).bind (·.dst)) r [] ops.toList 0 a s [] fun _ i g=>q i g
  |d=>wDT P K M n (fun j=>(ops[j]?).bind (·.dst)) r d ops.toList 0 a s [] fun o i g=>rvK (fun o=>zb P ops.toList o g d (q i g)) o [])
theorem yg {M n:Nat} {F:List (Nat×List (Nat×Nat))} {id:Nat} {ops:Array Oper} {a:Ek} {env:List Value} (T:fK a env) (U:env.length=n) {h:AH} {q:Ek->AH->Prop} (A:aBu P K M n F id ops a h q):∃m e s t,uW P (run P K m) ops env h=some (e,s)/\fK t e/\e.length=n/\q t s:=by
 obtain⟨Z,A⟩:=pw A;obtain⟨C,A⟩:=wj A;unfold aBf at C;rw[Bool.and_eq_true] at C;have H:=aBn C.2;subst H;obtain⟨m,d,g,e,s,t,B,D,y,u,w,z⟩:∃m d g e s t,drawText P (run P K m) ops.toList h.next 0 ops.toList env {h with next:=h.next+ops.size}=some (List.zipWith (fun x e=>⟨e,x.h,x.v⟩) d g,e,s)/\d.length=g.length/\Zd ops.toList d g/\fK t e/\e.length=n/\zb P ops.toList d s (G7 ops.toList) (q t s):=by
  have O:Zd ops.toList ([]:List WR).reverse []:=⟨rfl,fun i o x e _ J=>by simp at J⟩;split at A;rename_i E;obtain⟨m,d,g,e,s,t,B,D,y,u,w,N,_,z⟩:=Y4 (all:=ops.toList) (r:=h.next) (i:=0) (gs:=[]) (es:=[]) T U rfl (fun j=>by simp) O (fun e=>absurd rfl e) A;exact⟨m,d,g,e,s,t,B,D,by simpa using y,u,w,by rw[E];exact z⟩;rename_i E;obtain⟨m,d,g,e,s,t,B,D,y,u,w,N,I,z⟩:=Y4 (all:=ops.toList) (r:=h.next) (i:=0) (rs:=[]) (gs:=[]) (es:=[]) T U rfl (fun j=>by simp) O (fun _=>trivial) A;have Q:=I (fun e=>E e);rw[List.append_nil] at Q;obtain⟨V,X⟩:=vr Q;have R:=aB0 z;rw[List.append_nil] at R;have S:=O6 (by simpa using V) X (fun x J=>u7 J) R;rw[List.reverse_reverse] at S;exact⟨m,d,g,e,s,t,B,D,by simpa using y,u,w,S⟩
 obtain⟨Y,z⟩:=xi y z;refine⟨m,e,s,t,?_,u,w,z⟩;unfold uW;rw[aJ7 C.1,B];simp only;rw[aJ7 Y]
end
end Go.Ab
end
section
namespace Go.Ab
noncomputable section
variable {P:Program} {K:FuncId->List Value->Option jI}
inductive It where
 |code (p:List Nat) (c:Code)|inBlock (id:Nat)|inLoop (p:List Nat) (b:Code)|inScope (b:Code)|beginRound
def It.it:It->Item
 |.code _ c=> .code c
 |.inBlock id=> .inBlock id
 |.inLoop _ b=> .inLoop b
 |.inScope b=> .inScope b
 |.beginRound=> .beginRound
abbrev E1 (k:List It):List Item:=k.map It.it
def nS (b:Nat) (p:List Nat) (x:Code×List It):Code×List It:=match x.1,b with
 |.seq c d,0=>(c,.code (1::p) d::x.2)
 |.seq _ d,1=>(d,x.2)
 |.cond _ t _,0=>(t,x.2)
 |.cond _ _ e,1=>(e,x.2)
 |.block id c,0=>(c,.inBlock id::x.2)
 |.loop c,0=>(c,.inLoop (0::p) c::x.2)
 |.scope c,0=>(c,.inScope c::x.2)
 |.rangeFunc _ _ a c,0=>(a,[.beginRound,.code (1::p) c])
 |.rangeFunc _ _ _ c,1=>(c,[])
 |_,_=>(.skip,[])
def ctx (P:Program) (f:FuncId):List Nat->Code×List It
 |[]=>((Mg P f).getD .skip,[])
 |b::p=>nS b p (ctx P f p)
def Good (P:Program) (f:FuncId):List It->Prop
 |[]=>True
 |.code p c::k=>ctx P f p=(c,k)/\Good P f k
 |.inLoop p b::k=>ctx P f p=(b,.inLoop p b::k)/\Good P f k
 |_::k=>Good P f k
def uV (id:Nat):List It->Option (List It)
 |[]=>none
 |.inBlock i::k=>(match Nat.beq i id with
  |true=>some k
  |false=>uV id k)
 |_::k=>uV id k
theorem uP {f:FuncId} {id:Nat}:∀{k k':List It},uV id k=some k'->exitTo id (E1 k)=some (E1 k')/\(Good P f k->Good P f k')
 |[],_,h=>by cases h
 |x::k,k',h=>by
  cases x with
  |inBlock i=>
   unfold uV at h;split at h;rename_i e;cases h;have:=Nat.eq_of_beq_eq_true e;subst this;exact⟨by simp[E1,It.it,exitTo],fun g=>g⟩;rename_i e;obtain⟨d,j⟩:=uP (f:=f) h;refine⟨?_,fun g=>j g⟩;have:(i==id)=false:=by simpa using Nat.ne_of_beq_eq_false e
   simpa [E1,It.it,exitTo,this] using d
  |code p c=>obtain⟨d,j⟩:=uP (f:=f) (k:=k) h;exact⟨d,fun g=>j g.2⟩
  |inLoop p c=>obtain⟨d,j⟩:=uP (f:=f) (k:=k) h;exact⟨d,fun g=>j g.2⟩
  |inScope c=>obtain⟨d,j⟩:=uP (f:=f) (k:=k) h;exact⟨d,fun g=>j g⟩
  |beginRound=>obtain⟨d,j⟩:=uP (f:=f) (k:=k) h;exact⟨d,fun g=>j g⟩
theorem uS {id:Nat}:∀{k:List It},uV id k=none->exitTo id (E1 k)=none
 |[],_=>rfl
 |x::k,h=>by
  cases x with
  |inBlock i=>
   unfold uV at h;split at h;cases h;rename_i e;have:(i==id)=false:=by simpa using Nat.ne_of_beq_eq_false e
   simpa [E1,It.it,exitTo,this] using uS h
  |code p c=>exact uS (k:=k) h
  |inLoop p c=>exact uS (k:=k) h
  |inScope c=>exact uS (k:=k) h
  |beginRound=>exact uS (k:=k) h
def mM:Nat->List It->List It
 |0,k=>k
 |n+1,k=>match k with
  |.code p c::d=>(match c with
   |.skip=>mM n d
   |.label _=>mM n d
   |.seq a b=>mM n (.code (0::p) a:: .code (1::p) b::d)
   |.block id b=>mM n (.code (0::p) b:: .inBlock id::d)
   |.scope b=>mM n (.code (0::p) b:: .inScope b::d)
   |.loop b=>mM n (.code (0::p) b:: .inLoop (0::p) b::d)
   |.exit id=>(match uV id d with
    |some g=>mM n g
    |none=>k)
   |_=>k)
  |.inBlock _::d=>mM n d
  |.inScope _::d=>mM n d
  |.inLoop p b::d=>mM n (.code p b:: .inLoop p b::d)
  |_=>k
section
variable {f:FuncId} {p:List Nat} {k:List It} {a b c:Code} {id:Nat}
theorem Good.seq (g:Good P f (.code p (.seq a b)::k)):Good P f (.code (0::p) a:: .code (1::p) b::k):=by
 obtain⟨d,i⟩:=g;exact⟨by simp only[ctx,d,nS],by simp only[ctx,d,nS],i⟩
theorem Good.block (g:Good P f (.code p (.block id b)::k)):Good P f (.code (0::p) b:: .inBlock id::k):=by
 obtain⟨d,i⟩:=g;exact⟨by simp only[ctx,d,nS],i⟩
theorem Good.scope (g:Good P f (.code p (.scope b)::k)):Good P f (.code (0::p) b:: .inScope b::k):=by
 obtain⟨d,i⟩:=g;exact⟨by simp only[ctx,d,nS],i⟩
theorem Good.loop (g:Good P f (.code p (.loop b)::k)):Good P f (.code (0::p) b:: .inLoop (0::p) b::k):=by
 obtain⟨d,i⟩:=g;exact⟨by simp only[ctx,d,nS],by simp only[ctx,d,nS],i⟩
theorem Good.again (g:Good P f (.inLoop p b::k)):Good P f (.code p b:: .inLoop p b::k):=⟨g.1,g⟩
end
theorem oE {f:FuncId}:∀(n:Nat) {k:List It},Good P f k->E1 (mM n k)=mY n (E1 k)/\Good P f (mM n k)
 |0,_,g=>⟨rfl,g⟩
 |_+1,[],g=>⟨rfl,g⟩
 |n+1,.inBlock _::k,g=>oE n (k:=k) g
 |n+1,.inScope _::k,g=>oE n (k:=k) g
 |n+1,.inLoop _ _::_,g=>oE n g.again
 |_+1,.beginRound::_,g=>⟨rfl,g⟩
 |n+1,.code p c::k,g=>by
  cases c with
  |skip=>exact oE n g.2
  |label _=>exact oE n g.2
  |seq a b=>exact oE n g.seq
  |block id b=>exact oE n g.block
  |scope b=>exact oE n g.scope
  |loop b=>exact oE n g.loop
  |exit id=>
   show E1 (match uV id k with|some d=>mM n d|none=>_)=(match exitTo id (E1 k) with|some d=>mY n d|none=>_)/\Good P f (match uV id k with|some d=>mM n d|none=>_);cases hx:uV id k with
   |some d=>
    obtain⟨i,j⟩:=uP (P:=P) (f:=f) hx;rw[i];exact oE n (j g.2)
   |none=>rw[uS hx];exact⟨rfl,g⟩
  |_=>exact⟨rfl,g⟩
end
end Go.Ab
end
section
namespace Go.Ab
noncomputable section
variable {P:Program} {K:FuncId->List Value->Option jI}
structure FT where
 L:List (Nat×List Nat)
 R:List (Nat×List Nat)
 hr:Bool
 M:Nat:=0
 F:List (Nat×List (Nat×Nat)):=[]
def aI3 (l:List (List FT)) (f:FuncId):FT:=((l[f/16]?).getD [])[f % 16]?.getD ⟨[],[],false,0,[]⟩
def peq:List Nat->List Nat->Bool
 |[],[]=>true
 |a::l,b::m=>(match Nat.beq a b with
  |true=>peq l m
  |false=>false)
 |_,_=>false
theorem aBs:∀{l m:List Nat},peq l m=true->l=m
 |[],[],_=>rfl
 |a::l,b::m,h=>by
  unfold peq at h;split at h;rename_i e;rw[Nat.eq_of_beq_eq_true e,aBs h];cases h
 |[],_::_,h=>by cases h
 |_::_,[],h=>by cases h
def oR:List Nat->Nat
 |[]=>1
 |b::p=>2*oR p+b
def Ul:List (Nat×List Nat)->List Nat->Nat->(Nat->Nat->List Nat->Prop)->Prop
 |[],_,_,_=>hF
 |(n,d)::L,p,i,q=>(match Nat.beq (oR p) n with
  |true=>(match peq p.reverse (pD n) with
   |true=>q i n d
   |false=>hF)
  |false=>nK (i+1) fun i=>Ul L p i q)
theorem Sj:∀{L:List (Nat×List Nat)} {p:List Nat} {i:Nat} {q:Nat->Nat->List Nat->Prop},Ul L p i q->∃j n d,L[j]?=some (n,d)/\p=(pD n).reverse/\q (i+j) n d
 |[],_,_,_,h=>h.elim
 |(n,d)::L,p,i,q,h=>by
  unfold Ul at h;split at h;split at h;rename_i e;exact⟨0,n,d,rfl,by rw[<-aBs e,List.reverse_reverse],h⟩;cases h;obtain⟨j,s,g,m,o,r⟩:=Sj (wj h);exact⟨j+1,s,g,m,o,by rw[show i+(j+1)=i+1+j by omega];exact r⟩
def Sx (a:Ek):List Nat->(List Value->Prop)->Prop
 |[],q=>q []
 |t::d,q=>(match a.lk t with
  |some (v,_)=>Sx a d fun g=>q (v::g)
  |none=>hF)
theorem Sh {a:Ek} {env:List Value} (d:fK a env):∀{lv:List Nat} {q:List Value->Prop},Sx a lv q->q (lv.map fun t=>env.getD t undef)
 |[],_,h=>h
 |t::lv,q,h=>by
  unfold Sx at h;split at h;rename_i i;have g:=(d _ _ _ i).1;have:=Sh d (lv:=lv) h;simpa only[List.map_cons,List.getD_eq_getElem?_getD,g,Option.getD_some] using this;cases h
def PtI (P:Program) (K:FuncId->List Value->Option jI) (T:FT) (f:FuncId) (g:Option Nat) (Q:Out->AH->Prop) (i:Nat) (d:List Nat) (vs:List Value) (h:AH):Prop:=
 Pt P K f g Q (ntm P f) ((T.L[i]?).getD (0,[])).2 (.code (ctx P f (pD ((T.L[i]?).getD (0,[])).1).reverse).1::E1 (ctx P f (pD ((T.L[i]?).getD (0,[])).1).reverse).2) d vs h
def wE (T:FT) (a:Ek) (k:List It) (q:Nat->List Value->Prop):Prop:=match k with
 |.code p _::_=>Ul T.L p 0 fun i _ d=>Sx a d fun g=>q i g
 |_=>hF
theorem aEl {T:FT} {f:FuncId} {o:Option Nat} {Q:Out->AH->Prop} {m:List Nat} {h:AH} {a:Ek} {env:List Value} {k:List It} (s:fK a env) (w:env.length=ntm P f) (u:Good P f k) (g:wE T a k fun i x=>PtI P K T f o Q i m x h):Ok P K (.todo f o m env (E1 k)) h Q:=by
 unfold wE at g;split at g;obtain⟨j,n,y,q,r,d⟩:=Sj g;have d:=Sh s d;simp only[PtI,Nat.zero_add,q,Option.getD_some,<-r,u.1] at d;have:=d (fun t=>env.getD t undef) rfl;rwa [Oy w] at this;cases g
def Sw (P:Program) (a:Ek) (h:AH) (r:ResultVar) (d:(List Value->Prop)->Prop) (p:List Value->Prop):Prop:=match r with
 |.tmp t=>(match a.lk t with
  |some (v,_)=>d fun l=>p (v::l)
  |none=>hF)
 |.cell x t=>(match a.lk x with
  |some (v,_)=>(match jH P t with
   |some true=>Sq P t fun n=>bG (sD h n v) fun v=>d fun l=>p (v::l)
   |some false=>bG (pK h v) fun v=>d fun l=>p (v::l)
   |none=>hF)
  |none=>hF)
def ji (P:Program) (a:Ek) (h:AH) (rs:List ResultVar):(List Value->Prop)->Prop:=List.rec (fun p=>p []) (fun r _ d=>Sw P a h r d) rs
theorem Jv {a:Ek} {env:List Value} (g:fK a env) {h:AH}:∀{rs:List ResultVar} {p:List Value->Prop},ji P a h rs p->R9 P h env rs p
 |[],_,d=>d
 |.tmp t::rs,p,d=>by
  have d:Sw P a h (.tmp t) (ji P a h rs) p:=d;unfold Sw at d;simp only at d;split at d;rename_i m;have i:=(g _ _ _ m).1;have:=Jv g (rs:=rs) d;simpa only[R9,List.getD_eq_getElem?_getD,i,Option.getD_some] using this;cases d
 |.cell x t::rs,p,d=>by
  have d:Sw P a h (.cell x t) (ji P a h rs) p:=d;unfold Sw at d;simp only at d;split at d;rename_i m;have i:=(g _ _ _ m).1;simp only[R9,List.getD_eq_getElem?_getD,i,Option.getD_some];split at d;rename_i j;simp only[j];exact(rV d).2.mono fun v n=>Jv g n;rename_i j;simp only[j];exact d.mono fun v n=>Jv g n;cases d;cases d
def zd (Q:Value->AH->Prop) (l:List Value) (h:AH):Prop:=match l with
 |[v]=>Q v h
 |l=>hP (Q (.tuple ⟨l⟩) h)
theorem aCk {Q:Value->AH->Prop} {h:AH}:(fun l=>zd Q l h)=fun l=>Q (oneOf l) h:=funext fun l=>match l with
 |[]=>rfl
 |[_]=>rfl
 |_::_::_=>rfl
def ye (P:Program) (f:FuncId) (j:Bool) (Q:Value->AH->Prop) (lv:yS) (g:List Nat) (a:Ek) (h:AH):Prop:=match lv with
 |.exit _=>hF
 |_=>(match j with
  |true=>bG (cT g h) fun i=>ji P a i ((P.funcs[f]?).elim [] fun d=>d.results.toList) fun l=>zd Q l i
  |false=>(match g with
   |[]=>ji P a h ((P.funcs[f]?).elim [] fun d=>d.results.toList) fun l=>zd Q l h
   |_=>hF))
theorem tg {f:FuncId} {s:Bool} {Q:Value->AH->Prop} {lv:yS} {m:List Nat} {a:Ek} {env:List Value} {h:AH} (o:fK a env) (g:ye P f s Q lv m a h):Yh P f Q ⟨lv,m,env,undef⟩ h:=by
 have j:(∀id,lv≠.exit id)->(bG (cT m h) fun i=>ji P a i ((P.funcs[f]?).elim [] fun r=>r.results.toList) fun l=>zd Q l i)->Yh P f Q ⟨lv,m,env,undef⟩ h:=by
  intro d ⟨i,q,n⟩;simp only[aCk] at n;refine Ys ?_;unfold aDx;cases lv with
  |exit id=>exact absurd rfl (d id)
  |oQ=>exact⟨i,q,Jv o n⟩
  |ret=>exact⟨i,q,Jv o n⟩
 unfold ye at g;split at g;cases g;rename_i d;split at g;exact j (fun id e=>d id e) g;split at g;exact j (fun id e=>d id e) ⟨h,rfl,g⟩;cases g
end
end Go.Ab
end
section
namespace Go.Ab
noncomputable section
variable {P:Program} {K:FuncId->List Value->Option jI}
def qf:List It->Bool
 |[]=>true
 |.code _ .ret::_=>true
 |.code _ (.exit _)::_=>true
 |_=>false
def Xr (k:List It):Bool:=match mM 60 k with
 |.code _ (.region _ _ _)::d=>qf (mM 60 d)
 |d=>qf d
def wRg (P:Program) (K:FuncId->List Value->Option jI) (f:FuncId) (m:Nat) (g:Value) (num:Nat) (lv:List Nat) (vs:List Value) (d:Nat) (h:AH) (q:Option Code->AH->Prop):Prop:=
 ∀e:Nat->Value,lv.map e=vs->Cq h (lp P f (pD num) m e d .ready none) fun l i=>Vx P K g l i fun _ j=>bG (sC j l) fun r=>(match r with|(pd,n)=>q pd n)
def wTF (P:Program) (K:FuncId->List Value->Option jI) (E:List Nat->Ek->List It->AH->Prop) (F:yS->List Nat->Ek->AH->Prop) (T:FT) (f:FuncId) (m:Nat) (w:Option Nat) (i:List Nat->Ek->List It->AH->Prop) (g:List Nat) (a:Ek) (k:List It) (h:AH):Prop:=(match k with
  |[]=>F .oQ g a h
  |.code p c::k=>(match c with
   |.skip=>i g a k h
   |.label _=>i g a k h
   |.seq x y=>i g a (.code (0::p) x:: .code (1::p) y::k) h
   |.cond c t e=>(match knW a c with
    |.b true=>i g a (.code (0::p) t::k) h
    |.b false=>i g a (.code (1::p) e::k) h
    |_=>vQ P a c fun v=>Br v
     (match Xr (.code (0::p) t::k) with
     |true=>i g a (.code (0::p) t::k) h
     |false=>E g a (mM 60 (.code (0::p) t::k)) h)
     (match Xr (.code (1::p) e::k) with
     |true=>i g a (.code (1::p) e::k) h
     |false=>E g a (mM 60 (.code (1::p) e::k)) h))
   |.block id b=>i g a (.code (0::p) b:: .inBlock id::k) h
   |.loop b=>E g a (mM 60 (.code (0::p) b:: .inLoop (0::p) b::k)) h
   |.scope b=>i g a (.code (0::p) b:: .inScope b::k) h
   |.exit id=>(match uV id k with
    |some q=>i g a q h
    |none=>(match w with
     |some _=>F (.exit id) g a h
     |none=>hF))
   |.ret=>F .ret g a h
   |.region _ ops false=>zp P K T.M m (fun j=>(ops[j]?).bind (·.dst)) ops.toList a h fun s n=>i g s k n
   |.region id ops true=>aBu P K T.M m T.F id ops a h fun s n=>i g s k n
   |.rangeFunc r _ _ o=>vQ P a r fun r=>Ul T.R p 0 fun _ num u=>Sx a u fun z=>(match w with
    |none=>Cq h (.marks true) fun d A=>wRg P K f m r num u z d A fun pd n=>tE pd (i (d::g) a k n) (F .ret (d::g) a n)
      ((iW o).map fun id=>(id,(match uV id k with
       |some q=>i (d::g) a q n
       |none=>hF)))
    |some l=>bG (hT h l) fun d=>wRg P K f m r num u z d h fun pd n=>tE pd (i g a k n) (F .ret g a n)
      ((iW o).map fun id=>(id,(match uV id k with
       |some q=>i g a q n
       |none=>F (.exit id) g a n))))
   |_=>hF)
  |.inBlock _::k=>i g a k h
  |.inScope _::k=>i g a k h
  |.inLoop p b::k=>E g a (mM 60 (.code p b:: .inLoop p b::k)) h
  |.beginRound::k=>(match w with
   |some l=>bG (kJ h l) fun n=>i g a k n
   |none=>hF))
def wT (P:Program) (K:FuncId->List Value->Option jI) (E:List Nat->Ek->List It->AH->Prop) (F:yS->List Nat->Ek->AH->Prop) (T:FT) (f:FuncId) (m:Nat) (g:Option Nat) (n:Nat):List Nat->Ek->List It->AH->Prop:=
 Nat.rec (fun _ _ _ _=>hF) (fun _ d=>wTF P K E F T f m g d) n
theorem j8 {b:Nat} {p q:List Nat} {c:Code} {k k':List It}:(nS b p (c,k)).1=(nS b q (c,k')).1:=by
 unfold nS;rcases b with _|_|b<;>cases c<;>rfl
theorem nu {b:Nat} {c:Code} {l:List Nat}:sub c (b::l)=sub (nS b [] (c,[])).1 l:=by
 have d:∀l:List Nat,sub .skip l= .skip:=fun l=>by cases l<;>simp[sub]
 rcases b with _|_|b<;>cases c<;>simp[sub,nS,d]
theorem sub_fold:∀(l:List Nat) (c:Code),sub c l=l.foldl (fun c b=>(nS b [] (c,[])).1) c
 |[],c=>by simp[sub]
 |b::l,c=>by rw[nu,sub_fold l];rfl
theorem Ql {f:FuncId}:∀p:List Nat,(ctx P f p).1=sub ((Mg P f).getD .skip) p.reverse
 |[]=>by simp[ctx,sub]
 |b::p=>by
  have d:(ctx P f (b::p)).1=(nS b [] ((ctx P f p).1,[])).1:=j8;rw[d,Ql p,List.reverse_cons,sub_fold,sub_fold,List.foldl_append];rfl
theorem aAz {f:FuncId} {m:Nat} {x:Operand} {s:Value} {num:Nat} {lv:List Nat} {env:List Value} {ps:Array Tmp} {r j:Code} {d:Nat} {h:AH} {q:Option Code->AH->Prop} (z:env.length=m) (hc:cd P f (pD num)= .rangeFunc x ps r j)
  (A:wRg P K f m s num lv (lv.map fun t=>env.getD t undef) d h q):
  ∃n g first i o u p w,s= .func (.func g) first i/\callable P g=true/\run P K n (.call g (first.toList++[.func (.yield h.next) #[] #[]]++i.toList)) (h.alloc (.loop .ready none f env ps r j d))=some (o,u)/\
   sC u h.next=some (p,w)/\q p w:=by
 subst z
 refine Jq (lv:=lv) ?_
 intro e y
 have:=A e y
 simp only[lp,hc,rgF] at this
 exact this
theorem pC {f:FuncId} {g:Option Nat} {d:List Nat} {env:List Value} {k k':List Item} {h:AH} {Q:Out->AH->Prop} (j:Ok P K (.todo f g d env k') h Q) (i:∀m,run P K (m+1) (.todo f g d env k) h=run P K m (.todo f g d env k') h):Ok P K (.todo f g d env k) h Q:=Eg i j
theorem aAg {E:List Nat->Ek->List It->AH->Prop} {F:yS->List Nat->Ek->AH->Prop} {T:FT} {f:FuncId} {m:Nat} {R:Option Nat} {Q:Out->AH->Prop}
  (hE:∀s a env k h,fK a env->env.length=m->Good P f k->E s a k h->Ok P K (.todo f R s env (E1 k)) h Q) (hF:∀lv s a env h,fK a env->F lv s a h->Q ⟨lv,s,env,undef⟩ h):
  ∀(n:Nat) {s:List Nat} {a:Ek} {env:List Value} {k:List It} {h:AH},fK a env->env.length=m->Good P f k->wT P K E F T f m R n s a k h->Ok P K (.todo f R s env (E1 k)) h Q
 |0,_,_,_,_,_,_,_,_,i=>i.elim
 |n+1,s,a,env,k,h,q,B,u,i=>by
  have H:∀{s:List Nat} {a:Ek} {env:List Value} {k:List It} {h:AH},fK a env->env.length=m->Good P f k->wT P K E F T f m R n s a k h->Ok P K (.todo f R s env (E1 k)) h Q:=fun x y z w=>aAg hE hF n x y z w;have nm:∀{k:List It},Good P f k->E s a (mM 60 k) h->Ok P K (.todo f R s env (E1 k)) h Q:=fun g Z=>by
   obtain⟨U,h2⟩:=oE (P:=P) (f:=f) 60 g;exact Kj 60 (U▸hE _ _ _ _ _ q B h2 Z)
  have go:∀{V:List It},Good P f V->(match Xr V with
     |true=>wT P K E F T f m R n s a V h
     |false=>E s a (mM 60 V) h)->Ok P K (.todo f R s env (E1 V)) h Q:=by
   intro V g Z
   split at Z
   .exact H q B g Z
   .exact nm g Z
  change wTF P K E F T f m R (wT P K E F T f m R n) s a k h at i;unfold wTF at i;split at i;exact⟨1,_,rfl,hF _ _ _ _ _ q i⟩;rename_i p c k;split at i;exact pC (H q B u.2 i) fun _=>rfl;exact pC (H q B u.2 i) fun _=>rfl;exact pC (H q B u.seq i) fun _=>rfl;rename_i c t e;have g1:Good P f (.code (0::p) t::k):=⟨by simp only[ctx,u.1,nS],u.2⟩;have g2:Good P f (.code (1::p) e::k):=⟨by simp only[ctx,u.1,nS],u.2⟩;obtain⟨k1,k2⟩:=xk (P:=P) (x:=c) q;split at i;rename_i Z;exact Sc (Sv (b:=true) (fun _=>H q B g1 i) (by simp)|>fun x=>by rw[k1 _ Z];exact x);rename_i Z;exact Sc (Sv (b:=false) (by simp) (fun _=>H q B g2 i)|>fun x=>by rw[k1 _ Z];exact x);exact Sc (let⟨b,x,y,z⟩:=fH q i;⟨b,x,fun t=>go g1 (y t),fun t=>go g2 (z t)⟩);exact pC (H q B u.block i) fun _=>rfl;exact pC (nm u.loop i) fun _=>rfl;exact pC (H q B u.scope i) fun _=>rfl;rename_i id;split at i;rename_i V I;obtain⟨U,h2⟩:=uP (P:=P) (f:=f) I;refine pC (H q B (h2 u.2) i) fun m=>?_;show runTodo P (run P K m) _ _ _ _ (.code (.exit id)::E1 k) _=_;simp only[runTodo,U];rename_i I;split at i;refine⟨1,(⟨.exit id,s,env,undef⟩,h),?_,hF _ _ _ _ _ q i⟩;show runTodo P (run P K 0) _ _ _ _ (.code (.exit id)::E1 k) _=_;simp only[runTodo,uS I,Option.isSome_some,if_true];cases i;exact⟨1,_,rfl,hF _ _ _ _ _ q i⟩;rename_i ops;obtain⟨C,o,U,a',hr,γ,ε,i⟩:=Xz q B i;obtain⟨D,r,N,hq⟩:=H γ ε u.2 i;refine⟨max C D+1,r,?_,hq⟩;show runTodo P (run P K (max C D)) _ _ _ _ (.code (.region _ ops false)::E1 k) _=_;simp only[runTodo];rw[kO (Nat.le_max_left C D) _ _ _ hr];exact kO (Nat.le_max_right C D) _ _ _ N;rename_i ops;obtain⟨C,e,U,a',hr,γ,ε,i⟩:=yg q B i;obtain⟨D,r,N,hq⟩:=H γ ε u.2 i;refine⟨max C D+1,r,?_,hq⟩;show runTodo P (run P K (max C D)) _ _ _ _ (.code (.region _ ops true)::E1 k) _=_;simp only[runTodo];rw[L0 (kO (Nat.le_max_left C D)) hr];exact kO (Nat.le_max_right C D) _ _ _ N;rename_i fv ps β O;have i:=fH q i;obtain⟨j,num,lv,_,hp,i⟩:=Sj i;have i:=Sh q i;have hc:cd P f (pD num)= .rangeFunc fv ps β O:=by
   have:=Ql (P:=P) (f:=f) p;rw[u.1,hp,List.reverse_reverse] at this;exact this.symm
  have ex:∀{J:List Nat} {X:AH} {pd:Option Code},tE pd (wT P K E F T f m R n J a k X) (F .ret J a X)
    ((iW O).map fun id=>(id,(match uV id k with
     |some V=>wT P K E F T f m R n J a V X
     |none=>(match R with
      |none=>False
      |some _=>F (.exit id) J a X))))->Ok P K (.todo f R J env ((pd.map Item.code).toList++E1 k)) X Q:=by
   intro J X pd I
   unfold tE at I
   split at I
   .exact H q B u.2 I
   .exact⟨1,_,rfl,hF _ _ _ _ _ q I⟩
   .rename_i id;split at I
    .rename_i hl;have:=Y3 hl;subst this;split at I
     .rename_i V hy;obtain⟨U,h2⟩:=uP (P:=P) (f:=f) hy;refine pC (H q B (h2 u.2) I) fun m=>?_;show runTodo P (run P K m) _ _ _ _ (.code (.exit id)::E1 k) _=_;simp only[runTodo,U]
     .rename_i hy;split at I
      .cases I
      .refine⟨1,(⟨.exit id,J,env,undef⟩,X),?_,hF _ _ _ _ _ q I⟩;show runTodo P (run P K 0) _ _ _ _ (.code (.exit id)::E1 k) _=_;simp only[runTodo,uS hy,Option.isSome_some,if_true]
    .cases I
   .cases I
  split at i;unfold Cq at i;obtain⟨C,g,first,S,o,h3,p,X,hf,δ,hr,A,i⟩:=aAz B hc i;obtain⟨D,r,N,hq⟩:=ex i;refine⟨max C D+1,r,?_,hq⟩;show runTodo P (run P K (max C D)) _ _ _ _ (.code (.rangeFunc fv ps β O)::E1 k) _=_;unfold sC at A;split at A;rename_i hl;split at A;cases A;rename_i hb;simp only[Option.map_eq_some_iff] at A;obtain⟨h5,A,h6⟩:=A;cases h6;simp only[runTodo,hf,δ,if_true];rw[kO (Nat.le_max_left C D) _ _ _ hr];simp only[hl,hb,if_false,A];exact kO (Nat.le_max_right C D) _ _ _ N;cases A;rename_i l;obtain⟨d,Y,i⟩:=i;obtain⟨C,g,first,S,o,h3,p,X,hf,δ,hr,A,i⟩:=aAz B hc i;obtain⟨D,r,N,hq⟩:=ex i;refine⟨max C D+1,r,?_,hq⟩;show runTodo P (run P K (max C D)) _ _ _ _ (.code (.rangeFunc fv ps β O)::E1 k) _=_;unfold sC at A;unfold hT at Y;split at Y;rename_i ζ;cases Y;split at A;rename_i hl;split at A;cases A;rename_i hb;simp only[Option.map_eq_some_iff] at A;obtain⟨h5,A,h6⟩:=A;cases h6;simp only[runTodo,ζ,hf,δ,if_true];rw[kO (Nat.le_max_left C D) _ _ _ hr];simp only[hl,hb,if_false,A];exact kO (Nat.le_max_right C D) _ _ _ N;cases A;cases Y;cases i;rename_i k;exact pC (H (k:=k) q B u i) fun _=>rfl;rename_i k;exact pC (H (k:=k) q B u i) fun _=>rfl;exact pC (nm u.again i) fun _=>rfl;rename_i k;split at i;rename_i l;obtain⟨h',U,h2⟩:=i;unfold kJ at U;split at U;rename_i η;refine Eg (t':= .todo f (some l) s env (E1 k)) (h':=h') (fun m=>?_) (H q B u h2);show runTodo P (run P K m) _ _ _ _ (.beginRound::E1 k) _=_;simp only[runTodo,η,U];cases U;cases i
end
end Go.Ab
end
section
namespace Go.Ab
noncomputable section
variable {P:Program} {K:FuncId->List Value->Option jI}
theorem Vj {f:FuncId}:∀p:List Nat,Good P f (ctx P f p).2
 |[]=>trivial
 |b::p=>by
  have g:=Vj (f:=f) p;have d:∀c,ctx P f (c::p)=nS c p (ctx P f p):=fun _=>rfl;rw[d];generalize i:ctx P f p=x at g d;obtain⟨c,k⟩:=x;rcases b with _|_|b<;>cases c<;>simp_all [nS,Good]
def D (P:Program) (K:FuncId->List Value->Option jI) (T:FuncId->FT) (f:FuncId) (i:Nat) (d:List Nat) (Q:Value->AH->Prop) (vs:List Value) (h:AH):Prop:=PtI P K (T f) f none (Yh P f Q) i d vs h
def R (P:Program) (K:FuncId->List Value->Option jI) (T:FuncId->FT) (f:FuncId) (i:Nat) (l:Nat) (Q:Value->AH->Prop) (vs:List Value) (h:AH):Prop:=PtI P K (T f) f (some l) (Fw l Q) i [] vs h
def fW (P:Program) (f:FuncId) (q:Nat->Code->Prop):Prop:=match P.funcs[f]? with
 |some ⟨_,_,_,_,_,_,n,_,some c,_,_,_,_,_,_,_⟩=>q n c
 |_=>hF
theorem aCb {f:FuncId} {q:Nat->Code->Prop} (h:fW P f q):∃d c,P.funcs[f]?=some d/\d.body=some c/\ntm P f=d.ntmps/\Mg P f=some c/\q d.ntmps c:=by
 unfold fW at h;split at h;rename_i g;exact⟨_,_,g,rfl,by simp only[ntm,g,Option.elim_some],by simp only[Mg,g,Option.bind_some],h⟩;cases h
def Xv (m:Nat):List Nat->List Value->Ek->(Ek->Prop)->Prop
 |[],[],a,q=>q a
 |t::d,v::g,a,q=>(match Nat.blt t m with
  |true=>Xv m d g ((t,v,.un)::a) q
  |false=>hF)
 |_,_,_,_=>hF
theorem Qb {m:Nat}:∀{lv:List Nat} {vs:List Value} {a:Ek} {env:List Value} {q:Ek->Prop},fK a env->env.length=m->Xv m lv vs a q->∃g,fK g ((lv.zip vs).foldl (fun t (p,v)=>t.set p v) env)/\((lv.zip vs).foldl (fun t (p,v)=>t.set p v) env).length=m/\lv.length=vs.length/\q g
 |[],[],a,env,q,j,i,d=>⟨a,j,i,rfl,d⟩
 |t::lv,v::vs,a,env,q,j,i,d=>by
  unfold Xv at d;split at d;rename_i e;have u:t<m:=Nat.le_of_ble_eq_true e;obtain⟨g,n,o,r,s⟩:=Qb (j.cons (k:= .un) (v:=v) (i.symm▸u) (fun _ e=>by cases e) (fun e=>by cases e)) (by simpa using i) d;exact⟨g,n,o,by simp[r],s⟩;cases d
 |[],_::_,_,_,_,_,_,d=>d.elim
 |_::_,[],_,_,_,_,_,d=>d.elim
theorem tn {env:List Value} {t:Nat} {v:Value} (h:∀u,env[t]?=some u->u=v):env.set t v=env:=by
 refine List.ext_getElem? fun i=>?_;rw[List.getElem?_set];by_cases e:t=i;subst e;rw[aJ7 rfl];cases he:env[t]? with
 |none=>rw[aJ6 (by simpa using he)]
 |some u=>rw[aJ7 (List.getElem?_eq_some_iff.1 he).1,h u he]
 rw[aJ6 e]
theorem Lw {e:Nat->Value} {m:Nat}:∀{lv:List Nat} {vs:List Value},lv.map e=vs->(lv.zip vs).foldl (fun t (p,v)=>t.set p v) ((List.range m).map e)=(List.range m).map e
 |[],_,_=>rfl
 |t::lv,vs,h=>by
  subst h;rw[List.map_cons,List.zip_cons_cons,List.foldl_cons];show List.foldl _ (((List.range m).map e).set t (e t)) _=_;rw[tn,Lw rfl];intro u d;simp only[List.getElem?_map] at d;rcases Nat.lt_or_ge t m with g|g;rw[List.getElem?_range g] at d;cases d;rfl;rw[List.getElem?_eq_none (by simpa using g)] at d;cases d
theorem fK.nil {env:List Value}:fK [] env:=fun _ _ _ h=>by cases h
def wD (P:Program) (K:FuncId->List Value->Option jI) (T:FuncId->FT) (f:FuncId) (i:Nat) (d:List Nat) (Q:Value->AH->Prop) (vs:List Value) (h:AH):Prop:=match(T f).L[i]? with
 |some (num,g)=>fcL (pD num).reverse fun p=>(match ctx P f p with
  |(c,k)=>fW P f fun m _=>Xv m g vs [] fun a=>wT P K (fun d a k h=>wE (T f) a k fun i vs=>D P K T f i d Q vs h) (ye P f (T f).hr Q) (T f) f m none 200 d a (.code p c::k) h)
 |none=>hF
theorem bW {f:FuncId} {T:FuncId->FT} {i:Nat} {j:List Nat} {Q:Value->AH->Prop} {vs:List Value} {h:AH} (d:wD P K T f i j Q vs h):D P K T f i j Q vs h:=by
 unfold wD at d;split at d;rename_i num z w;have d:=Kx d;generalize o:ctx P f (pD num).reverse=x at d;obtain⟨c,k⟩:=x;obtain⟨t,_,_,_,s,_,d⟩:=aCb d;unfold D PtI;simp only[w,Option.getD_some,o];intro e u;rw[s];obtain⟨a,q,r,_,d⟩:=Qb (env:=(List.range t.ntmps).map e) fK.nil (by simp) d;rw[Lw u] at q r;have m:=Vj (P:=P) (f:=f) (pD num).reverse;rw[o] at m;exact aAg (fun j a g k h n y m hE=>aEl n (y.trans s.symm) m hE) (fun z j a g h n hF=>tg n hF) 200 (k:= .code (pD num).reverse c::k) q r ⟨o,m⟩ d;cases d
def wRd (P:Program) (K:FuncId->List Value->Option jI) (T:FuncId->FT) (f:FuncId) (i:Nat) (l:Nat) (Q:Value->AH->Prop) (vs:List Value) (h:AH):Prop:=match(T f).L[i]? with
 |some (num,g)=>fcL (pD num).reverse fun p=>(match ctx P f p with
  |(c,k)=>fW P f fun m _=>Xv m g vs [] fun a=>wT P K (fun d a k h=>(match d with
   |[]=>wE (T f) a k fun i vs=>R P K T f i l Q vs h
   |_=>hF)) (fun g d _ h=>Se l Q g d [] h) (T f) f m (some l) 200 [] a (.code p c::k) h)
 |none=>hF
theorem tz {f:FuncId} {T:FuncId->FT} {l:Nat} {Q:Value->AH->Prop} {m:Nat} (o:ntm P f=m):∀g a d k h,fK a d->d.length=m->Good P f k->(match g with
   |[]=>wE (T f) a k fun i r=>R P K T f i l Q r h
   |_=>False)->Ok P K (.todo f (some l) g d (E1 k)) h (Fw l Q):=by
 intro g a d k h j q n hE
 split at hE
 .exact aEl j (q.trans o.symm) n hE
 .cases hE
def aE8:Nat->List Value->Ek->(Ek->Prop)->Prop
 |_,[],a,q=>q a
 |i,v::l,a,q=>nK (i+1) fun j=>aE8 j l ((i,v,.un)::a) q
theorem fK.add {a:Ek} {env:List Value} (i:fK a env) {d:Nat} {v:Value} (m:env[d]?=some v):fK ((d,v,.un)::a) env:=by
 intro t u j g;unfold Ek.lk at g;split at g;rename_i e;have:=Nat.eq_of_beq_eq_true e;subst this;cases g;exact⟨m,fun x e=>(by cases e),fun e=>(by cases e)⟩;exact i t u j g
theorem xd {env:List Value}:∀{l:List Value} {i:Nat} {a:Ek} {q:Ek->Prop},fK a env->(∀j v,l[j]?=some v->env[i+j]?=some v)->aE8 i l a q->∃m,fK m env/\q m
 |[],_,a,_,d,_,g=>⟨a,d,g⟩
 |v::l,i,a,q,d,n,g=>xd (l:=l) (d.add (n 0 v rfl)) (fun j u o=>by have:=n (j+1) u (by simpa using o);rwa [show i+1+j=i+(j+1) by omega]) (wj g)
def pe (n m:Nat):List Nat->Ek->(Ek->Prop)->Prop
 |[],a,q=>hP (q a)
 |t::d,a,q=>(match Nat.ble n t with
  |true=>(match Nat.blt t m with
   |true=>pe n m d ((t,undef,.un)::a) q
   |false=>hF)
  |false=>pe n m d a q)
theorem Yd {args:List Value} {m:Nat}:∀{lv:List Nat} {a:Ek} {q:Ek->Prop},fK a (args++List.replicate (m - args.length) undef)->pe args.length m lv a q->∃j,fK j (args++List.replicate (m - args.length) undef)/\q j
 |[],a,_,g,d=>⟨a,g,d⟩
 |t::lv,a,q,g,d=>by
  unfold pe at d;split at d;rename_i i;have i:=Nat.le_of_ble_eq_true i;split at d;rename_i n;have n:t<m:=Nat.le_of_ble_eq_true n;refine Yd (g.add ?_) d;rw[List.getElem?_append_right i,List.getElem?_replicate,aac];cases d;exact Yd g d
def wC (P:Program) (K:FuncId->List Value->Option jI) (T:FuncId->FT) (f:FuncId) (args:List Value) (Q:Value->AH->Prop) (h:AH):Prop:=match K f args with
 |none=>fW P f fun m c=>(match Nat.ble args.length m with
  |true=>aE8 0 args [] fun a=>nK args.length fun n=>pe n m (((T f).L[0]?).getD (0,[])).2 a fun a=>wT P K (fun d a k h=>wE (T f) a k fun i g=>D P K T f i d Q g h) (ye P f (T f).hr Q) (T f) f m none 200 [] a [.code [] c] h
  |false=>hF)
 |some _=>hF
theorem cW {f:FuncId} {T:FuncId->FT} {args:List Value} {Q:Value->AH->Prop} {h:AH} (d:wC P K T f args Q h):Cl P K f args h Q:=by
 unfold wC at d;split at d;rename_i s;obtain⟨o,c,u,t,x,n,d⟩:=aCb d;refine x9 u t s ?_;split at d;rename_i hle;have hle:args.length<=o.ntmps:=Nat.le_of_ble_eq_true hle;obtain⟨a,i,d⟩:=xd (env:=args++List.replicate (o.ntmps - args.length) undef) fK.nil (fun j v q=>by
  rw[Nat.zero_add,List.getElem?_append_left (List.getElem?_eq_some_iff.1 q).1];exact q) d
 obtain⟨a,i,d⟩:=Yd i (wj d);exact aAg (fun r a g k h m y w hE=>aEl m (y.trans x.symm) w hE) (fun z r a g h m hF=>tg m hF) 200 (k:=[.code [] c]) i (by simp;omega) ⟨by simp only[ctx,n,Option.getD_some],trivial⟩ d;cases d;cases d
def wR0 (P:Program) (K:FuncId->List Value->Option jI) (T:FuncId->FT) (f:FuncId) (num m:Nat) (lv:List Nat) (vs:List Value) (l:Nat) (args:List Value) (Q:Value->AH->Prop) (h:AH):Prop:=fcL (pD num).reverse fun p=>(match ctx P f p with
 |(.rangeFunc _ o g d,_)=>fW P f fun n _=>(match Nat.beq n m with
  |true=>Xv m lv vs [] fun a=>Xv m o.toList args a fun a=>wT P K (fun j a k h=>(match j with
   |[]=>wE (T f) a k fun i vs=>R P K T f i l Q vs h
   |_=>hF)) (fun lv j _ h=>Se l Q lv j [] h) (T f) f m (some l) 200 [] a [.code (0::p) g,.beginRound,.code (1::p) d] h
  |false=>hF)
 |_=>hF)
theorem rW {f:FuncId} {T:FuncId->FT} {num m l d:Nat} {lv:List Nat} {vs args:List Value} {e:Nat->Value} {st:LoopState} {pd:Option Code} {Q:Value->AH->Prop} {h:AH} (t:h.get l=some (lp P f (pD num) m e d st pd)) (x:List.map e lv=vs)
  (g:wR0 P K T f num m lv vs l args Q h):yO P K (.func (.yield l) #[] #[]) args h Q:=by
 unfold wR0 at g
 have g:=Kx g
 split at g
 .rename_i u A n i k s;obtain⟨C,_,_,_,z,_,g⟩:=aCb g;split at g
  .rename_i r;have r:=Nat.eq_of_beq_eq_true r;obtain⟨a,o,q,_,g⟩:=Qb (env:=(List.range m).map e) fK.nil (by simp) g;rw[Lw x] at o q;obtain⟨a,o,q,y,g⟩:=Qb o q g;have w:cd P f (pD num)= .rangeFunc u A n i:=by
    have:=Ql (P:=P) (f:=f) (pD num).reverse;rw[s,List.reverse_reverse] at this;exact this.symm
   simp only[lp,w,rgF] at t
   refine fu (r6 t (by simpa using y.symm) ?_)
   exact aAg (tz (z.trans r)) (fun lv B a j h D hF=>by have:=Sf (env:=j) hF;exact this) 200 (k:=[.code (0::(pD num).reverse) n,.beginRound,.code (1::(pD num).reverse) i]) o q
    ⟨by simp only[ctx,s,nS],by simp only[ctx,s,nS],trivial⟩ g
  .cases g
 .cases g
end
end Go.Ab
end
section
namespace Go.Ab
variable {P:Program} {K:FuncId->List Value->Option jI} {G:Bg} {h:AH} {L L' M:List HP}
theorem Ji {W n m c:Nat} {e:TypeId} {a:Option Addr} {cs zs:List Value} (H:m<=n) (E:0<n) (A:cs.length=m*W) (o:Hs G h (cN W e a c (n,cs++zs)::L)):Hs G h (cN W e a c (m,cs)::L):=by
 obtain⟨r,D,⟨t,y,B⟩,u,w,z,s⟩:=o.fst;simp only at t y;have q:cs.all eF=true:=by grind
 rcases B with⟨C,_⟩|⟨C,_⟩|⟨i,b,g,d,ex,rfl,hle,j⟩;grind;grind;simp only at i hle j;subst j;refine R3 (r:=mI b (g++(cs++zs)++d) (some (.mt e ex (g++(cs++zs)++d).length))) ⟨o.base,o.old,o.wf,o.fr,_,⟨_,D,rfl,u,w,rfl⟩,(cS.fS w).2 ⟨z,s⟩⟩ ?_;have x:g++(cs++zs)++d=g++cs++(zs++d):=by simp
 refine⟨A,q,.inr (.inr ⟨by simp only;omega,b,g,zs++d,ex,rfl,?_,by rw[x]⟩)⟩;grind
theorem qk {b o j m:Nat} {c:List Value} (n:Hs G h (aG b o c::L)) (g:0<c.length) (t:j+m<=c.length):cU h ⟨b,o+j,none⟩ m=some ((c.drop j).take m):=by
 obtain⟨s,q,r,u,i,hle,d⟩:=n.cells g;simp only[cU,Option.isSome_none,Bool.false_eq_true,if_false,i];rw[aac];congr 1;refine List.ext_getElem? fun k=>?_;grind
theorem T8 {A B z:List Value} {j:Nat} (d:A.length=j) (g:B.length=z.length):cC (A++B) j z=A++z:=by
 subst d;unfold cC;rw[List.take_left,List.drop_eq_nil_of_le (by rw[List.length_append];omega),List.append_nil]
theorem J2 {α:Type} (l:List α) (i:Nat):l.take i++l.drop i=l:=List.take_append_drop i l
theorem aB1 {W bytes n i c:Nat} {e:TypeId} {a:Option Addr} {cs z:List Value} {k:Value->AH->Prop} (hW:0<W) (hz:z.length=W) (κ:z.all eF=true) (hi:i<n) (D:Hs G h L) [m:Has (cN W e a c) L (n,cs) L']
  (hk:∀h',Hs G h' (cN W e a c (n - 1,cs.take (i*W)++cs.drop ((i+1)*W))::L')->k (.slice a (n - 1) c) h'):
  bG (xK W h (.slice a n c) none (some (I i)) none) fun v3=>bG (xK W h (.slice a n c) (some (I ((i:Int)+1))) none none) fun v4=>
   bG (jK W bytes e h v3 v4) fun q=>bG (kU q.1) fun X=>bG (xK W q.2 q.1 (some X) (some (I n)) none) fun v9=>bG (iQ z q.2 v9) fun g=>k q.1 g.2:=by
 have D:=m.of D
 have hl:=D.Ap
 have hc:=D.zM
 simp only at hl hc
 have d:n<=c:=by
  obtain⟨r,r2,⟨_,_,hr⟩,_⟩:=D.fst;rcases hr with⟨hz,_⟩|⟨hz,_⟩|⟨d,_⟩;simp only at hz;omega;simp only at hz;omega;exact d
 obtain⟨b,o,rfl,H,t,close⟩:=D.oG (by omega)
 have μ:0<n*W:=Nat.mul_pos (by omega) hW
 have x:0<cs.length:=by omega
 have C:lI none c c=some c:=rfl
 have b2:lI (some (I i)) n c=some i:=by simp only[lI];rw[aac];simp
 have b3:lI none 0 i=some 0:=rfl
 have Y:lI none n c=some n:=rfl
 have Z:lI (some (I ((i:Int)+1))) 0 n=some (i+1):=by simp only[lI];rw[aac];congr 1
 have b6:lI (some (I ((n - 1:Nat):Int))) 0 n=some (n - 1):=by simp only[lI];grind
 have b7:lI (some (I n)) n c=some n:=by simp only[lI];grind
 have R:¬c=0:=by omega
 refine⟨.slice (some ⟨b,o,none⟩) i c,?_,?_⟩
 .simp only[xK,C,b2,b3,Option.isNone_some,Bool.false_and,Option.isSome_none,Bool.false_eq_true,if_false,R,dE];rw[aac];simp
 have ν:(i+1)*W=i*W+W:=by rw[Nat.add_mul,Nat.one_mul]
 have ξ:(i+1)*W<=n*W:=Nat.mul_le_mul_right W hi
 have θ:(n - (i+1))*W=n*W - (i+1)*W:=Nat.sub_mul _ _ _
 have ο:(n - 1)*W=n*W - W:=by rw[Nat.sub_mul,Nat.one_mul]
 have fin:∀s,Hs G s (aG b o (cs.take (i*W)++cs.drop ((i+1)*W)++cs.drop ((n - 1)*W))::H::L')->
   bG (kU (.slice (some ⟨b,o,none⟩) (n - 1) c)) fun X=>bG (xK W s (.slice (some ⟨b,o,none⟩) (n - 1) c) (some X) (some (I n)) none) fun v9=>bG (iQ z s v9) fun g=>k (.slice (some ⟨b,o,none⟩) (n - 1) c) g.2:=by
  intro s S
  refine bU ?_
  have y:¬c=n - 1:=by omega
  refine⟨.slice (some ⟨b,o+(n - 1)*W,none⟩) (n - (n - 1)) (c - (n - 1)),?_,?_⟩
  .have β:lI (some (I n)) (n - 1) c=some n:=b7;simp only[xK,C,β,b6,Option.isNone_some,Bool.false_and,Option.isSome_none,Bool.false_eq_true,if_false,y,dE];grind
  have γ:n - (n - 1)=1:=by omega
  rw[γ]
  have u:(cs.take (i*W)++cs.drop ((i+1)*W)).length=(n - 1)*W:=by
   grind
  have ι:eJ z 1=z:=by simp[eJ]
  have J:(cs.take (i*W)++cs.drop ((i+1)*W)).all eF=true:=by
   grind
  obtain⟨E,A,T⟩:=S.write (j:=(n - 1)*W) (vs:=z) (by grind) κ (by grind)
  refine⟨(.tuple #[],E),?_,?_⟩
  .simp only[iQ,Nat.one_ne_zero,if_false,ι,A,Option.map_some]
  refine hk E ?_
  have U:cC (cs.take (i*W)++cs.drop ((i+1)*W)++cs.drop ((n - 1)*W)) ((n - 1)*W) z=cs.take (i*W)++cs.drop ((i+1)*W)++z:=T8 u (by grind)
  rw[U] at T
  refine Ji (n:=n) (zs:=z) (by omega) (by omega) u (close E _ _ ?_ ?_ T)
  .grind
  .grind
 by_cases Q:i+1=n
 .have δ:cs.drop ((i+1)*W)=[]:=List.drop_eq_nil_of_le (by rw[Q];omega);have B:∀v4:Value,vO v4=some 0->gP h W 0 v4=some []->bG (jK W bytes e h (.slice (some ⟨b,o,none⟩) i c) v4) fun q=>bG (kU q.1) fun X=>bG (xK W q.2 q.1 (some X) (some (I n)) none) fun v9=>bG (iQ z q.2 v9) fun g=>k q.1 g.2:=by
   intro v4 s E;refine⟨(.slice (some ⟨b,o,none⟩) i c,h),?_,?_⟩;simp only[jK,s,E,List.all_nil,Bool.not_true,List.length_nil,Nat.zero_mul,bne_self_eq_false,Bool.or_self,Bool.false_eq_true,if_false,Nat.add_zero];grind;have O:i=n - 1:=by omega
   have:=fin h (by
    rw[δ,List.append_nil,O,J2];exact t)
   rw[O];exact this
  by_cases w:c=i+1
  .obtain⟨hb,c',e',x',hg,hle,J⟩:=t.cells x;have hex:qK h b=some x':=by simp only[qK,hg]
   cases x' with
   |true=>
    refine⟨tF,?_,B _ rfl rfl⟩
    simp only[xK,C,Y,Z,Option.isNone_none,Option.isSome_none,Bool.and_false,Bool.false_eq_true,if_false,dE,hex]
    grind
   |false=>
    refine⟨Ar ⟨b,o+(i+1)*W,none⟩,?_,B _ rfl rfl⟩
    simp only[xK,C,Y,Z,Option.isNone_none,Option.isSome_none,Bool.and_false,Bool.false_eq_true,if_false,dE,hex]
    grind
  .refine⟨.slice (some ⟨b,o+(i+1)*W,none⟩) (n - (i+1)) (c - (i+1)),?_,?_⟩
   .simp only[xK,C,Y,Z,Option.isNone_none,Option.isSome_none,Bool.and_false,Bool.false_eq_true,if_false,dE,w];rw[aJ7 d]
   .have:n - (i+1)=0:=by omega
    rw[this]
    exact B _ rfl (by simp[gP])
 .have w:¬c=i+1:=by omega
  refine⟨.slice (some ⟨b,o+(i+1)*W,none⟩) (n - (i+1)) (c - (i+1)),?_,?_⟩
  .simp only[xK,C,Y,Z,Option.isNone_none,Option.isSome_none,Bool.and_false,Bool.false_eq_true,if_false,dE,w];rw[aJ7 d]
  have η:¬n - (i+1)=0:=by omega
  have ζ:cU h ⟨b,o+(i+1)*W,none⟩ ((n - (i+1))*W)=some (cs.drop ((i+1)*W)):=by
   rw[qk t x (by omega),List.take_of_length_le (by grind)]
  have ε:(cs.drop ((i+1)*W)).length=(n - (i+1))*W:=by grind
  have N:(cs.drop ((i+1)*W)).all eF=true:=List.all_eq_true.2 fun v hv=>List.all_eq_true.1 hc v (List.mem_of_mem_drop hv)
  obtain⟨s,A,S⟩:=t.write (j:=i*W) (vs:=cs.drop ((i+1)*W)) (by omega) N x
  have V:i+(n - (i+1))=n - 1:=by omega
  refine⟨(.slice (some ⟨b,o,none⟩) (n - 1) c,s),?_,?_⟩
  .simp only[jK,vO,gP,aJ6 η,Nat.le_refl,if_true,ζ,N,ε,Bool.not_true,bne_self_eq_false,Bool.or_self,Bool.false_eq_true,if_false,dE,A,Option.map_some,Option.isSome_none,V];grind
  refine fin s ?_
  have U:cC cs (i*W) (cs.drop ((i+1)*W))=cs.take (i*W)++cs.drop ((i+1)*W)++cs.drop ((n - 1)*W):=by
   unfold cC;grind
  grind
end Go.Ab
end
section
namespace Go.Ab
variable {P:Program} {K:FuncId->List Value->Option jI} {G:Bg} {h:AH} {L L' M:List HP}
def Ae (G:Bg) (W:Nat) (e:TypeId) (v:Value) (l:List (List Value)):HP:=fun r=>
 (∀x∈l,x.length=W)/\((uA G W v l.length (fun i=>l.getD i [])/\r=cS.emp)\/∃a c,v= .slice a l.length c/\cN W e a c (l.length,l.flatten) r)
variable {W:Nat} {e:TypeId} {v:Value} {l:List (List Value)}
theorem Hs.bx {A:HP} {p:Prop} (g:Hs G h (A::L)) (k:∀r,A r->p):p:=by
 obtain⟨r,i,d,_⟩:=g.fst;exact k r d
theorem wM (i:Hs G h (Ae G W e v l::L)):∃a c,v= .slice a l.length c:=i.bx fun r g=>by
 obtain⟨_,⟨⟨a,c,d,_⟩,_⟩|⟨a,c,d,_⟩⟩:=g;exact⟨a,c,d⟩;grind
theorem Iu (g:Hs G h (Ae G W e v l::L)):∀x∈l,x.length=W:=g.bx fun _ d=>d.1
theorem Cs (d:∀x∈l,x.length=W) (g:uA G W v l.length (fun i=>l.getD i [])) (m:Hs G h L):Hs G h (Ae G W e v l::L):=
 Hs.join (A:=[]) m fun _ j=>⟨d,.inl ⟨g,j⟩⟩
theorem sn {a:Option Addr} {c n:Nat} {cs:List Value} (d:∀x∈l,x.length=W) (g:n=l.length) (hc:cs=l.flatten) (j:Hs G h (cN W e a c (n,cs)::L)):Hs G h (Ae G W e (.slice a n c) l::L):=by
 subst g;subst hc;exact Hs.join (A:=[_]) j fun r i=>⟨d,.inr ⟨a,c,rfl,Tf.1 i⟩⟩
theorem xQ {W:Nat}:∀{l:List (List Value)} {i:Nat} {x:List Value},(∀x∈l,x.length=W)->l[i]?=some x->(l.flatten.drop (i*W)).take W=x/\i*W+W<=l.flatten.length
 |[],i,x,_,h=>by simp at h
 |y::l,0,x,d,h=>by
  grind
 |y::l,i+1,x,d,h=>by
  have n:=d y List.mem_cons_self;obtain⟨j,m⟩:=xQ (fun z g=>d z (List.mem_cons_of_mem _ g)) (by simpa using h);rw[List.flatten_cons,show(i+1)*W=y.length+i*W by grind,List.drop_append,List.drop_of_length_le (by omega),Nat.add_sub_cancel_left,List.nil_append,List.length_append];grind
theorem zh {i:Nat} {x:List Value} {k:Value->Prop} (d:Hs G h (Ae G W e v l::L)) (B:0<W) (w:l[i]?=some x) (z:k (.agg ⟨x⟩)):bG (lB W v (I i)) fun p=>bG (sD h W p) k:=by
 obtain⟨q,y⟩:=List.getElem?_eq_some_iff.1 w;have n:x.length=W:=Iu d x (y▸List.getElem_mem q);obtain⟨r,u,s⟩:=d.res;obtain⟨J,N,m,A,D,rfl⟩:=u;obtain⟨E,m⟩:=m;rcases m with⟨H,rfl⟩|⟨a,c,rfl,m⟩;obtain⟨a,c,rfl,j⟩:=H;obtain⟨b,o,cells,rfl,t,C,hle⟩:=j i q;refine dM q ?_;rw[show pt b (o+i*W) 0=pt b o (i*W) by simp[pt]];refine Ym d t (l:=x) ?_ n hle z;rw[C];simp[w];have g:Hs G h (cN W e a c (l.length,l.flatten)::L):=⟨d.base,d.old,d.wf,d.fr,⟨_,⟨J,N,m,A,D,rfl⟩,s⟩⟩;obtain⟨b,o,rfl,g⟩:=g.gD (by omega);refine dM q ?_;rw[show pt b (o+i*W) 0=pt b o (i*W) by simp[pt]];exact aR g B (xQ E w).1 n z
theorem Gd {n i c:Nat} {a:Option Addr} {cs:List Value} {u:Value} {k:Value->Prop} (d:Hs G h L) [m:Has (cN 1 e a c) L (n,cs) L'] (j:cs[i]?=some u) (q:k u):bG (lB 1 (.slice a n c) (I i)) fun p=>bG (pK h p) k:=by
 have d:=m.of d;have r:=d.Ap;simp only[Nat.mul_one] at r;have s:=(List.getElem?_eq_some_iff.1 j).1;obtain⟨b,o,rfl,g⟩:=d.gD (by omega);refine dM (by omega) ?_;rw[show pt b (o+i*1) 0=pt b o i by simp[pt]];exact aD g j q
theorem uz {n i c:Nat} {a:Option Addr} {cs:List Value} {v:Value} {k:AH->Prop} (g:Hs G h L) [m:Has (cN 1 e a c) L (n,cs) L'] [B:Cv v [v]] (hc:eF v=true) (u:i<n) (x:∀q,Hs G q (cN 1 e a c (n,cs.set i v)::L')->k q):bG (lB 1 (.slice a n c) (I i)) fun p=>bG (tZ h 1 p v) k:=by
 have g:=m.of g;have y:=g.Ap;have t:=g.zM;simp only[Nat.mul_one] at y;obtain⟨b,o,rfl,r⟩:=g.gD (by omega);refine dM u ?_;rw[show pt b (o+i*1) 0=pt b o i by simp[pt]];refine bJ r rfl (by simp;omega) (by simp[hc]) (by simp;omega) fun q d=>?_;have s:dN cs i [v]=cs.set i v:=by
  rw[<-lS cs i [v] (by simp;omega)];apply List.ext_getElem?;intro j;unfold cC;rw[List.getElem?_set];simp only[List.length_singleton];by_cases w:i=j;grind;rw[aJ6 w,List.append_assoc];by_cases z:j<i;grind;rw[List.getElem?_append_right (by simp;omega),List.getElem?_append_right (by simp;omega),List.getElem?_drop];grind
 rw[s] at d;have A:(cs.set i v).all eF=true:=by
  grind
 exact x q (Hs.kZ d (by simp;omega) A)
theorem Hs.G5 {A B:HP} (d:Hs G h (sp [A,B]::L)):Hs G h (A::B::L):=Hs.unpack d
theorem Hs.Hu {A B:HP} (d:Hs G h (A::B::L)):Hs G h (sp [A,B]::L):=Hs.pack (A:=[A,B]) d
theorem Hs.D2 {A B C:HP} (d:Hs G h (sp [A,B,C]::L)):Hs G h (A::B::C::L):=Hs.unpack d
theorem Hs.V5 {A B C:HP} (d:Hs G h (A::B::C::L)):Hs G h (sp [A,B,C]::L):=Hs.pack (A:=[A,B,C]) d
theorem Hs.zc {A B C D:HP} (d:Hs G h (sp [A,B,C,D]::L)):Hs G h (A::B::C::D::L):=Hs.unpack d
theorem Hs.M8 {A B C D:HP} (d:Hs G h (A::B::C::D::L)):Hs G h (sp [A,B,C,D]::L):=Hs.pack (A:=[A,B,C,D]) d
theorem Ml {f:FuncId} {p:List Nat} {n:Nat} {e:Nat->Value} {d l:Nat} {pd:Option Code} {k:Option Code×AH->Prop} (j:Hs G h L) [m:oY l L ⟨P,f,p,n,e,d,.done,pd⟩ L'] (i:∀g,Hs G g L'->k (pd,g)):bG (sC h l) k:=
 uu (P:=P) (f:=f) (p:=p) (n:=n) (e:=e) (d:=d) (st:= .done) (pd:=pd) (k:=fun a b=>k (a,b)) (show Hs G h (pH P f p n e d l (.done,pd)::L') from m.of j) (by decide) i
theorem uc.fold {α:Type} {xs:List α} {f:α->List Value} {g:FuncId} {first captured:List Value} {A:HP} (B:uc P K G g first captured A (xs.map f)) {X:List α->HP} {Z:List α->α->HP} {y:Value} {Q:Value->AH->Prop}
  (d:Hs G h (A::X []::L))
  (step:∀done x h M,done++[x]<+:xs->Hs G h (X done::M)->yO P K y (f x) h fun v i=>(v= .bool true/\Hs G i (X (done++[x])::M))\/(v= .bool false/\Hs G i (Z done x::M)))
  (fin:∀v i,Hs G i (A::X xs::L)->Q v i) (brk:∀done x v i,done++[x]<+:xs->Hs G i (A::Z done x::L)->Q v i):Cl P K g (first++[y]++captured) h Q:=by
 refine B (fun rest=>vD fun done:List α=>sp [B6 (∃j,xs=done++j/\rest=j.map f),X done]) (vD fun q:List α×α=>sp [B6 (q.1++[q.2]<+:xs),Z q.1 q.2]) y L h Q ?_ ?_ ?_ ?_
 .refine Hs.lK (Hs.zX ([]:List α) ?_);exact yP ⟨xs,rfl,rfl⟩ (Hs.pack (A:=[_]) d.lK)
 .intro x rest h M d;obtain⟨done,o⟩:=d.B4;obtain⟨⟨j,m,n⟩,s⟩:=iD o;clear d o;cases j with
  |nil=>cases n
  |cons z j=>
   simp only[List.map_cons,List.cons.injEq] at n
   obtain⟨t,u⟩:=n
   subst t;subst u
   have r:done++[z]<+:xs:=⟨j,by rw[m];simp⟩
   refine(step done z h M r s.unpack).mono fun v i w=>w.imp (fun e=>⟨e.1,?_⟩) (fun e=>⟨e.1,?_⟩)
   .exact Hs.zX (done++[z]) (yP ⟨j,by rw[m];simp,rfl⟩ (Hs.pack (A:=[_]) e.2))
   .exact Hs.zX (done,z) (yP r (Hs.pack (A:=[_]) e.2))
 .intro v i d;obtain⟨done,d⟩:=d.lK.B4;obtain⟨⟨j,m,n⟩,d⟩:=iD d;cases j with
  |cons z j=>cases n
  |nil=>
   rw[List.append_nil] at m
   subst m
   exact fin v i (Hs.lK d.unpack)
 .intro v i d;obtain⟨⟨done,x⟩,d⟩:=d.lK.B4;obtain⟨r,d⟩:=iD d;exact brk done x v i r (Hs.lK d.unpack)
end Go.Ab
end
section
namespace Go.Ab
variable {P:Program} {K:FuncId->List Value->Option jI} {G:Bg} {h:AH} {L L' M:List HP} {W:Nat} {e:TypeId}
theorem o8 {n i j c:Nat} {a:Option Addr} {cs:List Value} {u:Value} {k:Value->Prop} (d:Hs G h L) [m:Has (cN W e a c) L (n,cs) L'] (r:i<n) (t:cs[i*W+j]?=some u) (s:k u):bG (lB W (.slice a n c) (I i)) fun p=>bG (gX j p) fun q=>bG (pK h q) k:=by
 have d:=m.of d;obtain⟨b,o,rfl,g⟩:=d.gD (by omega);refine dM r (aA ?_);rw[show pt b (o+i*W) (0+j)=pt b o (i*W+j) by simp only[pt];grind];exact aD g t s
theorem Q0 {n i c:Nat} {a:Option Addr} {cs x:List Value} {k:Value->Prop} (d:Hs G h L) [m:Has (cN W e a c) L (n,cs) L'] (j:0<W) (q:i<n) (t:(cs.drop (i*W)).take W=x) (s:x.length=W) (r:k (.agg ⟨x⟩)):bG (lB W (.slice a n c) (I i)) fun p=>bG (sD h W p) k:=by
 have d:=m.of d;obtain⟨b,o,rfl,g⟩:=d.gD (by omega);refine dM q ?_;rw[show pt b (o+i*W) 0=pt b o (i*W) by simp[pt]];exact aR g j t s r
theorem zR {v:Value} {l:List (List Value)} {i:Nat} {x:List Value} {u:Value} {k:Value->Prop} (d:Hs G h (Ae G 1 e v l::L)) (A:l[i]?=some x) (R:x[0]?=some u) (z:k u):bG (lB 1 v (I i)) fun p=>bG (pK h p) k:=by
 obtain⟨q,y⟩:=List.getElem?_eq_some_iff.1 A;have H:x.length=1:=Iu d x (y▸List.getElem_mem q);obtain⟨r,w,s⟩:=d.res;obtain⟨J,N,n,B,C,rfl⟩:=w;obtain⟨D,n⟩:=n;rcases n with⟨E,rfl⟩|⟨a,c,rfl,n⟩;obtain⟨a,c,rfl,m⟩:=E;obtain⟨b,o,cells,rfl,t,Q,hle⟩:=m i q;refine dM q ?_;refine zQ d t (o:=o+i*1) (j:=0) ?_ z;grind;have g:Hs G h (cN 1 e a c (l.length,l.flatten)::L):=⟨d.base,d.old,d.wf,d.fr,⟨_,⟨J,N,n,B,C,rfl⟩,s⟩⟩;obtain⟨b,o,rfl,g⟩:=g.gD (by omega);refine dM q ?_;rw[show pt b (o+i*1) 0=pt b o i by simp[pt]];refine aD g ?_ z;have O:=(xQ D A).1;grind
theorem aC9 {v:Value} {l:List (List Value)} (j:Hs G h (Ae G W e v l::L)) (_:0<W):gP h W l.length v=some l.flatten:=by
 have C:=Iu j;obtain⟨r,E,B⟩:=j.res;obtain⟨r1,r2,t,S,U,rfl⟩:=E;obtain⟨hl,t⟩:=t;rcases t with⟨N,rfl⟩|⟨a,c,rfl,t⟩;obtain⟨a,c,rfl,g⟩:=N;cases l with
 |nil=>cases a<;>simp[gP]
 |cons x l=>
  obtain⟨b,o,cells,rfl,q,T,J⟩:=g 0 (by simp);have A:=q.get;obtain⟨Q,R,x',A⟩:=A;have Y:h.get b=some (.cells cells Q R x'):=by rw[j.Wt q.lt];exact A
  have d:∀i,i<(x::l).length->(cells.drop (o+i*W)).take W=(x::l).getD i []/\o+i*W<=cells.length:=by
   intro i m;obtain⟨b',o',u,V,s,hc,hle⟩:=g i m;cases V;obtain⟨_,_,_,X⟩:=s.get;grind
  have I:∀(l:List (List Value)) (o:Nat),(∀x∈l,x.length=W)->(∀i,i<l.length->(cells.drop (o+i*W)).take W=l.getD i []/\o+i*W<=cells.length)->o<=cells.length->o+l.length*W<=cells.length/\(cells.drop o).take (l.length*W)=l.flatten:=by
   intro l;induction l with
   |nil=>simp_all
   |cons y l ih=>
    intro o O m N;have w:=m 0 (by simp);have H:=O y List.mem_cons_self;simp only[Nat.zero_mul,Nat.add_zero,List.getD_cons_zero] at w;have n:o+W<=cells.length:=by
     have:=congrArg List.length w.1;rw[List.length_take,List.length_drop,H] at this;omega
    obtain⟨g1,g2⟩:=ih (o+W) (fun z hz=>O z (List.mem_cons_of_mem _ hz)) (fun i Z=>by
     have:=m (i+1) (by simp;omega);grind) n
    refine⟨by rw[List.length_cons,Nat.succ_mul];omega,?_⟩;rw[List.length_cons,Nat.succ_mul,Nat.add_comm,List.take_add,List.drop_drop,w.1,g2,List.flatten_cons]
  obtain⟨g1,g2⟩:=I (x::l) o C (fun i m=>d i m) (by grind);simp only[gP,List.length_cons,Nat.succ_ne_zero,if_false,Nat.le_refl,if_true];unfold cU;grind
 have D:Hs G h (cN W e a c (l.length,l.flatten)::L):=⟨j.base,j.old,j.wf,j.fr,⟨_,⟨r1,r2,t,S,U,rfl⟩,B⟩⟩;exact ar D
theorem j2 {l:List (List Value)} (d:∀x∈l,x.length=W):l.flatten.length=l.length*W:=by
 induction l with
 |nil=>simp
 |cons x l g=>grind
theorem aE6 {bytes c n m:Nat} {e2:TypeId} {a:Option Addr} {cs:List Value} {v:Value} {l:List (List Value)} {k:Value×AH->Prop} (q:Hs G h L) [u:Has (cN W e a c) L (n,cs) L'] [z:dY (Ae G W e2 v l) L' M] (r:0<W) (t:l.length=m) (hc:l.flatten.all eF=true) (g:(n+m)*(bytes+1)<=2^46)
  (s:∀i j o,Hs G o (cN W e i j (n+m,cs++l.flatten)::L')->k (.slice i (n+m) j,o)):bG (jK W bytes e h (.slice a n c) v) k:=by
 have d:=(u.of q).tail.front (Ae G W e2 v l)
 subst t
 refine aBb (k:=fun x y=>k (x,y)) q (m:=l.length) (src:=v) (ns:=l.flatten) ?_ (aC9 d r) hc (j2 (Iu d)) g s
 obtain⟨w,c2,rfl⟩:=wM d
 rfl
theorem Hs.kG {d L2 g i:List HP} (A B C D:HP) (j:Hs G h L) [k:dY A L d] [n:dY B d L2] [o:dY C L2 g] [m:dY D g i]:Hs G h (A::B::C::D::i):=
 (j.cZ A B C).perm (((m.perm.cons C).cons B).cons A)
theorem Hs.Xn {d:List HP} {A B C D:HP} (E:HP) (g:Hs G h (A::B::C::D::L)) [k:dY E L d]:Hs G h (A::B::C::D::E::d):=g.perm ((((k.perm.cons D).cons C).cons B).cons A)
theorem Zq {a:Option Addr} {n c:Nat} {k:Value->Prop} (d:a=none->k (.bool true)) (g:a≠none->k (.bool false)):bG (Ps .eql (.slice a n c) (.slice none 0 0)) k:=by
 cases a with
 |none=>exact⟨_,rfl,d rfl⟩
 |some a=>exact⟨_,rfl,g (by simp)⟩
theorem sF {bytes n c:Nat} {a:Option Addr} {cs:List Value} {Q:Value->AH->Prop} (d:Hs G h L) [m:Has (cN W e a c) L (n,cs) L'] (A:n*(bytes+1)<=2^46)
  (y:∀j r s,Hs G s (cN W e j r (n,cs)::cN W e a c (n,cs)::L')->Q (.slice j n r) s):
  bG (Ps .eql (.slice a n c) (.slice none 0 0)) fun v0=>Br v0 (Q (.slice none 0 0) h) (bG (oN [] []) fun B=>wW h W e B 0 0 fun s3 w=>bG (jK W bytes e w s3 (.slice a n c)) fun u=>(fun v5 x=>Q v5 x) u.1 u.2):=by
 have d:=m.of d
 refine Zq (fun i=>eU ?_) (fun _=>cG (aQ (c:=[]) rfl ?_))
 .subst i;have z:n=0:=by
   rcases Nat.eq_zero_or_pos n with g|g;exact g;obtain⟨b,o,i,_⟩:=d.oG g;cases i
  subst z
  have t:=d.Ap
  simp only[Nat.zero_mul] at t
  obtain rfl:=List.eq_nil_of_length_eq_zero t
  exact y none 0 h (gK d)
 .refine dL (W:=W) (n:=0) (c:=0) d (by simp) rfl rfl ?_;intro q h d;refine nY (a:=some q) (c:=0) (n:=0) (cs:=[]) (a2:=a) (c2:=c) (m:=n) (ns:=cs) d (by grind) ?_;grind
theorem Ly {bytes n:Nat} {e2:TypeId} {v:Value} {l:List (List Value)} {Q:Value->AH->Prop} (i:Hs G h (Ae G W e2 v l::L)) (E:0<W) (u:l.length=n) (hc:l.flatten.all eF=true) (J:n*(bytes+1)<=2^46)
  (H:∀A q B,Hs G B (cN W e A q (n,l.flatten)::Ae G W e2 v l::L)->Q (.slice A n q) B):
  bG (Ps .eql v (.slice none 0 0)) fun v0=>Br v0 (Q (.slice none 0 0) h) (bG (oN [] []) fun z=>wW h W e z 0 0 fun s3 d=>bG (jK W bytes e d s3 v) fun m=>(fun v5 t=>Q v5 t) m.1 m.2):=by
 obtain⟨a,c,x⟩:=wM i
 have y:a=none->l=[]:=by
  intro g;subst g;refine i.bx fun r w=>?_;obtain⟨I,⟨⟨a,q,d,j⟩,_⟩|⟨a,q,d,w⟩⟩:=w;rw[x] at d;cases d;rcases Nat.eq_zero_or_pos l.length with s|s;grind;obtain⟨b,o,_,g,_⟩:=j 0 s;cases g;rw[x] at d;cases d;rcases Nat.eq_zero_or_pos l.length with s|s;grind;obtain⟨_,_,⟨d,_⟩|⟨d,_⟩|⟨_,b,N,C,ex,g,_⟩⟩:=w;grind;grind;cases g
 have go:bG (oN [] []) fun z=>wW h W e z 0 0 fun s3 d=>bG (jK W bytes e d s3 v) fun m=>(fun v5 t=>Q v5 t) m.1 m.2:=by
  refine aQ (c:=[]) rfl (dL (W:=W) (n:=0) (c:=0) i (by simp) rfl rfl ?_);intro D h i;refine aE6 (a:=some D) (c:=0) (n:=0) (cs:=[]) (e2:=e2) (l:=l) i E u hc (by grind) ?_;grind
 subst x
 refine Zq (fun g=>eU ?_) (fun _=>cG go)
 obtain rfl:=y g
 simp only[List.length_nil] at u
 subst u
 exact H none 0 h (gK i)
theorem Hs.aG8 {α:Type} {A:Nat->α->HP} (d:α):∀(n:Nat) (L:List HP),Hs G h (dF n (fun i=>vD (A i))::L)->∃f:Nat->α,Hs G h (dF n (fun i=>A i (f i))::L):=by
 intro n;induction n with
 |zero=>intro L g;exact⟨fun _=>d,g⟩
 |succ n m=>
  intro L g;have g:Hs G h (dF n (fun i=>vD (A i))::vD (A n)::L):=by
   have j:=g.unpack;rw[List.range_succ,List.map_append,List.append_assoc] at j;exact Hs.pack (A:=(List.range n).map fun i=>vD (A i)) j
  obtain⟨f,g⟩:=m _ g;obtain⟨x,g⟩:=g.lK.B4;refine⟨fun i=>if i=n then x else f i,?_⟩;refine Hs.Tz ?_;simp only[if_true];have e:(List.range n).map (fun i=>A i (if i=n then x else f i))=(List.range n).map fun i=>A i (f i):=List.map_congr_left fun i o=>by
   grind
  unfold dF at g ⊢;rw[e];exact g
theorem Hs.aFp {f g:Nat->HP}:∀(n:Nat) (L:List HP),Hs G h (dF n (fun i=>sp [f i,g i])::L)->Hs G h (dF n f::dF n g::L):=by
 intro n;induction n with
 |zero=>intro L d;exact Hs.Tw (Hs.Tw d.tail)
 |succ n m=>
  intro L d;have d:Hs G h (dF n (fun i=>sp [f i,g i])::sp [f n,g n]::L):=by
   have j:=d.unpack;rw[List.range_succ,List.map_append,List.append_assoc] at j;exact Hs.pack (A:=(List.range n).map fun i=>sp [f i,g i]) j
  have d:=m _ d;have d:=(d.front (sp [f n,g n])).G5;have d:Hs G h (f n::dF n f::g n::dF n g::L):=d.perm ((List.Perm.swap _ _ _).cons _);have d:=Hs.Tz d;have d:=d.cI (g n) (dF n g);exact(Hs.Tz d).lK
theorem Hs.Q8 {α:Type} {b o cap n:Nat} {c:Nat->α->List Value} {d:Nat->α->HP} (s:α) (m:∀i x,(c i x).length=W) (hc:∀i x,(c i x).all eF=true) (r:0<W) (q:0<n)
  (j:Hs G h (dF n (fun i=>vD fun x=>sp [aG b (o+i*W) (c i x),d i x])::hole G W e (some ⟨b,o,none⟩) cap n b o::L)):
  ∃f:Nat->α,Hs G h (cN W e (some ⟨b,o,none⟩) cap (n,(List.range n).flatMap fun i=>c i (f i))::dF n (fun i=>d i (f i))::L):=by
 obtain⟨f,j⟩:=Hs.aG8 (A:=fun i x=>sp [aG b (o+i*W) (c i x),d i x]) s n _ j
 refine⟨f,?_⟩
 have j:=Hs.aFp (f:=fun i=>aG b (o+i*W) (c i (f i))) (g:=fun i=>d i (f i)) n _ j
 have j:=y5 (c:=fun i=>c i (f i)) (fun i=>m i (f i)) r n _ q j
 have j:=j.cZ (aG b o ((List.range n).flatMap fun i=>c i (f i))) (hole G W e (some ⟨b,o,none⟩) cap n b o) (dF n (fun i=>d i (f i)))
 exact Hs.kZ j (rE (fun i=>m i (f i)) n) (pO (fun i=>hc i (f i)) n)
theorem Hs.Q7 {cap n:Nat} {a:Option Addr} {c:Nat->List Value} (m:∀i,(c i).length=W) (g:0<n) (d:Hs G h (cN W e a cap (n,(List.range n).flatMap c)::L)):
  ∃b o,a=some ⟨b,o,none⟩/\Hs G h (dF n (fun i=>aG b (o+i*W) (c i))::hole G W e a cap n b o::L):=by
 obtain⟨b,o,j,d⟩:=d.gD g
 exact⟨b,o,j,Zc m n _ d⟩
theorem Hs.Yz {α:Type} {b o cap n:Nat} {c:Nat->α->List Value} {d:Nat->α->HP} (f:Nat->α) (q:∀i x,(c i x).length=W) (j:0<n)
  (g:Hs G h (cN W e (some ⟨b,o,none⟩) cap (n,(List.range n).flatMap fun i=>c i (f i))::dF n (fun i=>d i (f i))::L)):
  Hs G h (dF n (fun i=>vD fun x=>sp [aG b (o+i*W) (c i x),d i x])::hole G W e (some ⟨b,o,none⟩) cap n b o::L):=by
 obtain⟨r,s,m,g⟩:=Hs.Q7 (fun i=>q i (f i)) j g
 cases m
 have g:=g.cI (dF n fun i=>aG b (o+i*W) (c i (f i))) (dF n fun i=>d i (f i))
 exact Hs.aDj (k:=fun i=>vD fun x=>sp [aG b (o+i*W) (c i x),d i x]) (fun i h L g=>Hs.zX (A:=fun x=>sp [aG b (o+i*W) (c i x),d i x]) (f i) (Hs.pack (A:=[_,_]) g)) n _ g
end Go.Ab
end
section
namespace Go.Ab
variable {P:Program} {K:FuncId->List Value->Option jI} {G:Bg} {h:AH} {L L' M:List HP}
abbrev ME:=Nat×Value×Nat
def rT (es:List ME):List (Value×Value×Nat):=es.map fun x=>(I x.1,x.2.1,x.2.2)
def Sl (n:Int):List ME->Nat->Option (Nat×Value)
 |[],_=>none
 |x::d,i=>if n=(x.1:Int) then some (i,x.2.1) else Sl n d (i+1)
theorem B2 (n:Int):∀(es:List ME) (i:Nat),wV .i64 n (rT es) i=some (Sl n es i)
 |[],i=>rfl
 |x::es,i=>by
  show(if IntKind.i64=IntKind.i64 then(if n=(x.1:Int) then some (some (i,x.2.1)) else wV .i64 n (rT es) (i+1)) else none)=_;rw[aJ7 rfl,B2 n es (i+1)];by_cases e:n=(x.1:Int);rw[aJ7 e,Sl,aJ7 e];rw[aJ6 e,Sl,aJ6 e]
structure MOk (es:List ME) (clock:Nat):Prop where
 nd:(es.map (·.1)).Nodup
 st:∀x∈es,x.2.2<clock
 sd:(es.map (·.2.2)).Nodup
 kb:∀x∈es,x.1<16
def kP (es:List ME) (k:Nat):Option Value:=(Sl k es 0).map (·.2)
theorem Si {n:Int}:∀{es:List ME} {i j:Nat} {v:Value},Sl n es i=some (j,v)->i<=j/\∃x,es[j - i]?=some x/\(x.1:Int)=n/\x.2.1=v
 |[],i,j,v,h=>by cases h
 |x::es,i,j,v,h=>by
  unfold Sl at h;split at h;grind;obtain⟨d,y,g,m,o⟩:=Si h;grind
theorem N6 {n:Int}:∀{es:List ME} {i:Nat},(Sl n es (i+1)).map (·.2)=(Sl n es i).map (·.2)
 |[],_=>rfl
 |x::es,i=>by
  unfold Sl;split;rfl;exact N6
theorem iK {x:ME} {es:List ME} {k:Nat}:kP (x::es) k=if k=x.1 then some x.2.1 else kP es k:=by
 unfold kP;rw[Sl];by_cases e:k=x.1;grind;rw[aaa,aJ6 e];exact N6
theorem j1 {x:ME} {es:List ME} {k:Nat}:kP (es++[x]) k=(kP es k).or (if k=x.1 then some x.2.1 else none):=by
 induction es with
 |nil=>rw[List.nil_append,iK];simp[kP,Sl]
 |cons y es d=>rw[List.cons_append,iK,iK,d];split<;>simp
theorem yF {es:List ME} {k:Nat}:kP es k=none↔k∉es.map (·.1):=by
 induction es with
 |nil=>simp[kP,Sl]
 |cons y es d=>rw[iK];split<;>simp_all
theorem ft {es:List ME} {i:Nat} {x:ME} {v:Value} {k:Nat} (d:es[i]?=some x) (g:(es.map (·.1)).Nodup):kP (es.modify i fun e=>(x.1,v,e.2.2)) k=if k=x.1 then some v else kP es k:=by
 induction es generalizing i with
 |nil=>simp at d
 |cons y es j=>
  simp only[List.map_cons,List.nodup_cons] at g;cases i with
  |zero=>
   simp only[List.getElem?_cons_zero,Option.some.injEq] at d;subst d;rw[List.modify_zero_cons,iK,iK];split<;>rfl
  |succ i=>
   simp only[List.getElem?_cons_succ] at d;have m:x.1≠y.1:=fun e=>g.1 (e▸List.mem_map.2 ⟨x,List.mem_of_getElem? d,rfl⟩);rw[List.modify_succ_cons,iK,iK,j d g.2];grind
theorem dh {es:List ME} {i:Nat} {x:ME} {k:Nat} (d:es[i]?=some x) (g:(es.map (·.1)).Nodup):kP (es.eraseIdx i) k=if k=x.1 then none else kP es k:=by
 induction es generalizing i with
 |nil=>simp at d
 |cons y es j=>
  simp only[List.map_cons,List.nodup_cons] at g;cases i with
  |zero=>
   simp only[List.getElem?_cons_zero,Option.some.injEq] at d;subst d;rw[List.eraseIdx_cons_zero,iK];split;rename_i e;subst e;exact yF.2 g.1;rfl
  |succ i=>
   simp only[List.getElem?_cons_succ] at d;have m:x.1≠y.1:=fun e=>g.1 (e▸List.mem_map.2 ⟨x,List.mem_of_getElem? d,rfl⟩);rw[List.eraseIdx_cons_succ,iK,iK,j d g.2];grind
def Jd {α:Type} (f:Nat->α) (i:Nat) (v:α):Nat->α:=fun j=>if j=i then v else f j
def iJ (b:Nat) (f:Nat->Option Value):HP:=vD fun x:List ME×Nat=>sp [B6 (MOk x.1 x.2/\∀k,kP x.1 k=f k),ot b (.map (rT x.1) x.2)]
theorem Aq {b:Nat} {f:Nat->Option Value} (g:Hs G h (iJ b f::L)):∃d cl,(MOk d cl/\∀k,kP d k=f k)/\Hs G h (ot b (.map (rT d) cl)::L):=by
 obtain⟨⟨d,cl⟩,g⟩:=g.B4;obtain⟨i,g⟩:=(Hs.unpack g).xw;exact⟨d,cl,i,g⟩
theorem sR {b:Nat} {f:Nat->Option Value} {es:List ME} {cl:Nat} (d:MOk es cl) (g:∀k,kP es k=f k) (i:Hs G h (ot b (.map (rT es) cl)::L)):Hs G h (iJ b f::L):=
 Hs.zX (A:=fun x:List ME×Nat=>sp [B6 (MOk x.1 x.2/\∀k,kP x.1 k=f k),ot b (.map (rT x.1) x.2)]) (es,cl) (Hs.pack (A:=[_,_]) (Hs.Sz ⟨d,g⟩ i))
theorem ny {k:Nat->AH->Prop} (i:Hs G h L) (g:∀p d,Hs G d (iJ p (fun _=>none)::L)->k p d):Cq h (.map [] 0) k:=
 g _ _ (sR (es:=[]) (cl:=0) ⟨by simp,by simp,by simp,by simp⟩ (fun _=>rfl) (i.aEn rfl))
theorem M5 {b:Nat} {o:nI} (d:Ky o=true) (g:Hs G h (ot b o::L)):h.get b=some o/\h.base<=b:=⟨(Hs.B8 (o':=o) d g).1,(Hs.B8 (o':=o) d g).2.1⟩
theorem aHj {b:Nat} {f:Nat->Option Value} {z:Value} {n:Int} {ok:Bool} {k:Value->Prop} (g:Hs G h L) [m:Has (iJ b) L f L']
  (q:k (match(if 0<=n then f n.toNat else none) with
   |some v=>if ok then .tuple ⟨[v,.bool true]⟩ else v
   |none=>if ok then .tuple ⟨[z,.bool false]⟩ else z)):bG (lkV z h (gH b) (I n) ok) k:=by
 obtain⟨d,cl,⟨t,i⟩,g⟩:=Aq (m.of g)
 obtain⟨o,_⟩:=M5 rfl g
 have r:Yi h (gH b)=some (rT d):=by unfold Yi gH;simp only[o]
 have e:(Sl n d 0).map (·.2)=if 0<=n then f n.toNat else none:=by
  split;rename_i s;have:=i n.toNat;unfold kP at this;grind;cases hx:Sl n d 0 with
  |none=>rfl
  |some p=>
   obtain⟨_,x,_,u,_⟩:=Si (j:=p.1) (v:=p.2) hx;omega
 rw[<-e] at q
 unfold lkV
 rw[r]
 simp only[B2]
 cases hx:Sl n d 0 with
 |none=>simp_all
 |some p=>simp_all
theorem aDd {es:List ME} {i:Nat} {x:ME} {v:Value} (d:es[i]?=some x):(es.modify i fun e=>(x.1,v,e.2.2)).map (·.1)=es.map (·.1)/\(es.modify i fun e=>(x.1,v,e.2.2)).map (·.2.2)=es.map (·.2.2):=by
 induction es generalizing i with
 |nil=>simp at d
 |cons y es g=>
  grind
theorem nw {es:List ME} {i:Nat} {x:ME} {v:Value} (d:es[i]?=some x):(rT es).modify i (fun e=>(I x.1,v,e.2.2))=rT (es.modify i fun e=>(x.1,v,e.2.2)):=by
 unfold rT;induction es generalizing i with
 |nil=>simp at d
 |cons y es g=>
  grind
theorem Uw:∀{es:List ME} {i:Nat},(rT es).eraseIdx i=rT (es.eraseIdx i)
 |[],_=>rfl
 |x::es,0=>rfl
 |x::es,i+1=>by
  show(_::(rT es).eraseIdx i)=(_::rT (es.eraseIdx i));rw[Uw]
theorem Ra {b:Nat} {f:Nat->Option Value} {i:Nat} {v:Value} {k:AH->Prop} (r:Hs G h L) [m:Has (iJ b) L f L'] (S:i<16) (E:∀D,Hs G D (iJ b (Jd f i (some v))::L')->k D):bG (Ov h (gH b) (I i) v) k:=by
 obtain⟨q,cl,⟨g,H⟩,r⟩:=Aq (m.of r);obtain⟨J,R⟩:=M5 rfl r;unfold Ov gH;simp only[J,aJ6 (show ¬b<h.base by omega)];unfold yl;simp only[B2];cases d:Sl (i:Int) q 0 with
 |none=>
  have N:kP q i=none:=by unfold kP;rw[d];rfl
  refine⟨_,rfl,E _ ?_⟩;have e:rT q++[(Value.int .i64 (i:Int),v,cl)]=rT (q++[(i,v,cl)]):=by unfold rT;grind
  rw[e];refine sR ⟨?_,?_,?_,?_⟩ ?_ (Hs.B8 rfl r).2.2;rw[List.map_append,List.nodup_append];refine⟨g.nd,by simp,?_⟩;intro a u c t e;have:c=i:=by simpa using t
  subst e;subst this;exact yF.1 N u;intro x d;rcases List.mem_append.1 d with d|d;have:=g.st x d;omega;grind;rw[List.map_append,List.nodup_append];refine⟨g.sd,by simp,?_⟩;intro a u c t e;have t:c=cl:=by simpa using t
  obtain⟨x,d,rfl⟩:=List.mem_map.1 u;have:=g.st x d;omega;intro x d;rcases List.mem_append.1 d with d|d;exact g.kb x d;grind;intro j;rw[j1];unfold Jd;grind
 |some p=>
  obtain⟨_,x,s,O,Q⟩:=Si (j:=p.1) (v:=p.2) d;rw[Nat.sub_zero] at s;have n:x.1=i:=by omega
  refine⟨_,rfl,E _ ?_⟩;have:=nw (v:=v) s;rw[n] at this;rw[this];obtain⟨B,C⟩:=aDd (v:=v) s;rw[n] at B C;refine sR ⟨by rw[B];exact g.nd,?_,by rw[C];exact g.sd,?_⟩ ?_ (Hs.B8 rfl r).2.2;intro y w;have:y.2.2∈(q.modify p.1 fun e=>(i,v,e.2.2)).map (·.2.2):=List.mem_map.2 ⟨y,w,rfl⟩;rw[C] at this;obtain⟨z,A,o⟩:=List.mem_map.1 this;rw[<-o];exact g.st z A;intro y w;have:y.1∈(q.modify p.1 fun e=>(i,v,e.2.2)).map (·.1):=List.mem_map.2 ⟨y,w,rfl⟩;rw[B] at this;obtain⟨z,A,o⟩:=List.mem_map.1 this;rw[<-o];exact g.kb z A;intro j;have:=ft (v:=v) (k:=j) s g.nd;rw[n] at this;rw[this];unfold Jd;rw[H j]
theorem aCs {b:Nat} {f:Nat->Option Value} {i:Nat} {k:AH->Prop} (o:Hs G h L) [m:Has (iJ b) L f L'] (u:∀s,Hs G s (iJ b (Jd f i none)::L')->k s):bG (P0 h (gH b) (I i)) k:=by
 obtain⟨n,cl,⟨g,w⟩,o⟩:=Aq (m.of o);obtain⟨z,C⟩:=M5 rfl o;unfold P0 gH;simp only[z,aJ6 (show ¬b<h.base by omega),B2];cases hx:Sl (i:Int) n 0 with
 |none=>
  have D:kP n i=none:=by unfold kP;rw[hx];rfl
  refine⟨_,rfl,u _ (sR g (fun j=>?_) (Hs.B8 rfl o).2.2)⟩;unfold Jd;grind
 |some p=>
  obtain⟨_,x,t,A,B⟩:=Si (j:=p.1) (v:=p.2) hx;rw[Nat.sub_zero] at t;have q:x.1=i:=by omega
  have e:(rT n).eraseIdx p.1=rT (n.eraseIdx p.1):=Uw;refine⟨_,rfl,u _ ?_⟩;rw[e];have d:=List.eraseIdx_sublist n p.1;refine sR ⟨(d.map _).nodup g.nd,fun y r=>g.st y (d.mem r),(d.map _).nodup g.sd,fun y r=>g.kb y (d.mem r)⟩ (fun j=>?_) (Hs.B8 rfl o).2.2;rw[dh t g.nd,q,w j];rfl
theorem aCh {b:Nat} {f:Nat->Option Value} {k:Value->Prop} (d:Hs G h L) [m:Has (iJ b) L f L'] (j:∀n:Nat,k (I n)):bG (iv h (gH b)) k:=by
 obtain⟨g,cl,_,d⟩:=Aq (m.of d);obtain⟨i,_⟩:=M5 rfl d;refine⟨I (rT g).length,?_,j _⟩;unfold iv Yi gH;simp only[i];rfl
theorem Uy {x y:Int} {l:List Int}:y∈C1 x l↔y=x\/y∈l:=by
 induction l with
 |nil=>simp[C1]
 |cons a l d=>unfold C1;grind
theorem O3 {y:Int} {l:List Int}:y∈rH l↔y∈l:=by
 induction l with
 |nil=>simp[rH]
 |cons a l d=>simp only[rH,Uy,d,List.mem_cons]
theorem S9 {x:Int} {l:List Int} (h:l.Pairwise (·<·)) (g:x∉l):(C1 x l).Pairwise (·<·):=by
 induction l with
 |nil=>simp[C1]
 |cons a l m=>
  simp only[List.mem_cons,not_or] at g;obtain⟨i,j⟩:=List.pairwise_cons.1 h;unfold C1;split;refine List.pairwise_cons.2 ⟨fun y d=>?_,h⟩;grind;refine List.pairwise_cons.2 ⟨fun y d=>?_,m j g.2⟩;rcases Uy.1 d with rfl|d;omega;exact i y d
theorem Qy {l:List Int} (h:l.Nodup):(rH l).Pairwise (·<·):=by
 induction l with
 |nil=>simp[rH]
 |cons a l i=>
  obtain⟨d,g⟩:=List.nodup_cons.1 h;exact S9 (i g) fun e=>d (O3.1 e)
theorem Yp {l m:List Int} (j:l.Pairwise (·<·)) (n:m.Pairwise (·<·)) (h:∀x,x∈l↔x∈m):l=m:=by
 induction l generalizing m with
 |nil=>
  cases m with
  |nil=>rfl
  |cons y m=>exact absurd ((h y).2 (by simp)) (by simp)
 |cons x l r=>
  cases m with
  |nil=>exact absurd ((h x).1 (by simp)) (by simp)
  |cons y m=>
   obtain⟨a1,o⟩:=List.pairwise_cons.1 j;obtain⟨i,q⟩:=List.pairwise_cons.1 n;have e:x=y:=by
    have d:=(h x).1 (by simp);have g:=(h y).2 (by simp);rcases List.mem_cons.1 d with e|d;exact e;rcases List.mem_cons.1 g with e|g;exact e.symm;have:=i x d;have:=a1 y g;omega
   grind
def Cd (f:Nat->Option Value):List Nat:=(List.range 16).filter fun k=>(f k).isSome
theorem Wh (es:List ME):keysOf (rT es)=some (es.map fun x=>(x.1:Int)):=by
 induction es with
 |nil=>rfl
 |cons x es d=>
  show(keysOf (rT es)).map (fun l=>(x.1:Int)::l)=_;rw[d];rfl
theorem R0 (n:Nat):(List.range n).Pairwise (·<·):=List.pairwise_lt_range
theorem Hf {es:List ME} {cl:Nat} {f:Nat->Option Value} (i:MOk es cl) (j:∀k,kP es k=f k):rH (es.map fun x=>(x.1:Int))=(Cd f).map fun k:Nat=>(k:Int):=by
 refine Yp (Qy ?_) ?_ fun x=>?_;have:=i.nd;rw[show(es.map fun x=>(x.1:Int))=(es.map (·.1)).map fun k:Nat=>(k:Int) by rw[List.map_map];rfl];exact List.Pairwise.map _ (fun a b d=>by omega) this;refine List.Pairwise.map (R:=(·<·)) _ (fun a b d=>by omega) ?_;exact List.Pairwise.filter _ (R0 16);rw[O3];simp only[List.mem_map,Cd,List.mem_filter,List.mem_range];constructor;rintro ⟨y,m,rfl⟩;refine⟨y.1,⟨i.kb y m,?_⟩,rfl⟩;rw[<-j];cases hl:kP es y.1 with
 |none=>exact absurd (List.mem_map.2 ⟨y,m,rfl⟩) (yF.1 hl)
 |some v=>rfl
 rintro ⟨k,⟨_,g⟩,rfl⟩;rw[<-j] at g;have:k∈es.map (·.1):=by
  refine Classical.byContradiction fun n=>?_;rw[yF.2 n] at g;cases g
 grind
theorem Md {cl:Nat}:∀{es:List ME},(∀x∈es,x.2.2<cl)->(es.map (·.2.2)).Nodup->Bp cl (rT es)=true
 |[],_,_=>rfl
 |x::es,h,d=>by
  simp only[List.map_cons,List.nodup_cons] at d;have j:=Md (fun y g=>h y (List.mem_cons_of_mem _ g)) d.2;show(Nat.blt x.2.2 cl&&((rT es).all fun y=> !Nat.beq y.2.2 x.2.2)&&Bp cl (rT es))=true;rw[j,Bool.and_true,Bool.and_eq_true];refine⟨Nat.ble_eq_true_of_le (h x (by simp)),?_⟩;rw[List.all_eq_true];intro y g;obtain⟨z,i,rfl⟩:=List.mem_map.1 g;have:z.2.2≠x.2.2:=fun e=>d.1 (e▸List.mem_map.2 ⟨z,i,rfl⟩);cases hb:Nat.beq z.2.2 x.2.2 with
  |false=>rfl
  |true=>simp_all
theorem U5:∀{l:List Nat},(∀x∈l,x<16)->l.Nodup->O8 (l.map fun k:Nat=>(k:Int))=true
 |[],_,_=>rfl
 |x::l,h,g=>by
  obtain⟨m,d⟩:=List.nodup_cons.1 g;have j:=U5 (fun y i=>h y (List.mem_cons_of_mem _ i)) d;show((Lit.int .i64 (x:Int)).wf&&((l.map fun k:Nat=>(k:Int)).all fun y=> !(y==(x:Int)))&&O8 (l.map fun k:Nat=>(k:Int)))=true;rw[j,Bool.and_true,Bool.and_eq_true];refine⟨?_,?_⟩;have:x=0\/x=1\/x=2\/x=3\/x=4\/x=5\/x=6\/x=7\/x=8\/x=9\/x=10\/x=11\/x=12\/x=13\/x=14\/x=15:=by have:=h x (by simp);omega
  rcases this with rfl|rfl|rfl|rfl|rfl|rfl|rfl|rfl|rfl|rfl|rfl|rfl|rfl|rfl|rfl|rfl<;>rfl;grind
theorem qm {x:Int} {l:List Int}:(C1 x l).length=l.length+1:=by
 induction l with
 |nil=>rfl
 |cons a l d=>unfold C1;split<;>simp[d]
theorem ki {l:List Int}:(rH l).length=l.length:=by
 induction l with
 |nil=>rfl
 |cons a l d=>rw[rH,qm,d];rfl
theorem aAf {es:List ME} {cl:Nat} (d:MOk es cl):es.length<=16:=by
 have h:=congrArg List.length (Hf (f:=kP es) d fun _=>rfl);rw[ki,List.length_map,List.length_map] at h;rw[h];have:=List.length_filter_le (fun k=>(kP es k).isSome) (List.range 16);rw[List.length_range] at this;exact this
theorem cf {f:FuncId} {args:List Value} {F:AH->Option (Value×AH)} {v:Value} {h':AH} {Q:Value->AH->Prop} (d:K f args=some (.host F)) (hF:F h=some (v,h')) (g:Q v h'):Cl P K f args h Q:=by
 refine⟨1,(⟨.oQ,[],[],v⟩,h'),?_,g⟩;show runCall P K (fun t h=>run P K 0 t h) f args h=_;unfold runCall;rw[d];simp only[hF,Option.map_some]
theorem ud {f:FuncId} {args:List Value} {b c:Nat} {e e2:TypeId} {d:Nat->Option Value} {Q:Value->AH->Prop} (R:K f args=some (.host (Bo e c))) (T:Hs G h (aG c 0 [gH b]::mt c (e2,true,1)::iJ b d::L))
  (S:∀a D H,Hs G H (cN 1 e a D ((Cd d).length,(Cd d).map fun k:Nat=>I k)::iJ b d::L)->Q (.slice a (Cd d).length D) H):Cl P K f args h Q:=by
 have m:=T
 obtain⟨o,cl,⟨j,U⟩,C⟩:=Aq ((T.perm ((List.Perm.swap _ _ _).cons _)).perm (List.Perm.swap _ _ _))
 obtain⟨X,hb⟩:=M5 rfl C
 have g:∃E,h.get c=some (.cells [gH b] E (0,0) true):=by
  obtain⟨r,r2,hr,z,hd,Y,t⟩:=m.fst;obtain⟨r3,r4,B,β,s,rfl⟩:=z;cases hr;cases B;obtain⟨i1,i2⟩:=(cS.fS s).1 t;obtain⟨_,c',J,V⟩:=i1.mt c e2 true 1 (by simp);obtain⟨_,c2,e3,x3,N,O⟩:=Y.cell c 0 (gH b) (by simp[qG]);rw[J] at N;cases N;refine⟨e2,?_⟩;rw[J];obtain⟨v,rfl⟩:=List.length_eq_one_iff.1 V;simp only[List.getElem?_cons_zero,Option.some.injEq] at O;rw[O]
 obtain⟨E,g⟩:=g
 have u:=Hf j U
 have hF:Bo e c h=some (Jn h e (rH (o.map fun x=>(x.1:Int)))):=by
  unfold Bo;simp only[g,gH,X,Wh];rw[aJ7];rw[Bool.and_eq_true,Bool.and_eq_true];refine⟨⟨?_,Md j.st j.sd⟩,?_⟩;have:=aAf j;rw[List.length_map];exact Nat.ble_eq_true_of_le (by omega);rw[show(o.map fun x=>(x.1:Int))=(o.map (·.1)).map fun k:Nat=>(k:Int) by rw[List.map_map];rfl];exact U5 (fun x hx=>by obtain⟨y,hy,rfl⟩:=List.mem_map.1 hx;exact j.kb y hy) j.nd
 rw[u] at hF
 have n:Hs G h (iJ b d::L):=m.tail.tail
 unfold Jn at hF
 cases hkf:Cd d with
 |nil=>
  rw[hkf] at hF
  refine cf R hF ?_
  have:=S none 0 h
  rw[hkf] at this
  exact this (gK n)
 |cons x l=>
  rw[hkf] at hF
  simp only[List.map_cons,List.isEmpty_cons,Bool.false_eq_true,if_false] at hF
  refine cf R hF ?_
  have i:=S (some ⟨h.next,0,none⟩) (Cd d).length (h.alloc (.cells (((Cd d).map fun k:Nat=>(k:Int)).map (Value.int .i64)) e (0,0) false))
  rw[hkf] at i
  simp only[List.length_cons,List.map_cons,List.length_map] at i ⊢
  refine i ?_
  have Z:=n.new (c:=Value.int .i64 (x:Int)::((l.map fun k:Nat=>(k:Int)).map (Value.int .i64))) (e:=e) (x:=false)
  refine Hs.join (A:=[_,_]) Z fun q w=>?_
  have w:=tD w
  refine⟨by simp,?_,.inr (.inr ⟨Nat.le_refl _,h.next,[],[],false,rfl,by simp,?_⟩)⟩
  .simp[eF]
  .rw[w];simp[List.map_map,Function.comp_def]
end Go.Ab
end
section
namespace Go.Ab
variable {P:Program} {K:FuncId->List Value->Option jI} {G:Bg} {h:AH} {L L' M:List HP}
class Fx {α:Type} (enc:α->List Value) (W:outParam Nat):Prop where
 len:∀x,(enc x).length=W
 cel:∀x,(enc x).all eF=true
def eL {α:Type} (enc:α->List Value) (l:List α):List Value:=l.flatMap enc
section
variable {α:Type} {enc:α->List Value} {W:Nat} [F:Fx enc W]
omit F in
@[simp] theorem aEc:eL enc []=[]:=rfl
omit F in
theorem qM {x:α} {l:List α}:eL enc (x::l)=enc x++eL enc l:=rfl
omit F in
theorem rn {l m:List α}:eL enc (l++m)=eL enc l++eL enc m:=by simp[eL]
theorem sS {l:List α}:(eL enc l).length=l.length*W:=by
 induction l with
 |nil=>simp
 |cons x l d=>rw[qM,List.length_append,F.len,d,List.length_cons,Nat.succ_mul];omega
include F in
theorem F2 {l:List α}:(eL enc l).all eF=true:=by
 induction l with
 |nil=>rfl
 |cons x l d=>rw[qM,List.all_append,F.cel,d];rfl
theorem P6 {l:List α}:∀{i:Nat},(eL enc l).drop (i*W)=eL enc (l.drop i):=by
 induction l with
 |nil=>intro i;simp
 |cons x l d=>
  intro i;cases i with
  |zero=>simp
  |succ i=>
   rw[qM,List.drop_succ_cons,Nat.succ_mul,List.drop_append,List.drop_of_length_le (by rw[F.len];omega),F.len,show i*W+W - W=i*W by omega,d,List.nil_append]
theorem Y7 {l:List α}:∀{i:Nat},(eL enc l).take (i*W)=eL enc (l.take i):=by
 induction l with
 |nil=>intro i;simp
 |cons x l d=>
  intro i;cases i with
  |zero=>simp
  |succ i=>
   rw[qM,List.take_succ_cons,qM,Nat.succ_mul,List.take_append,List.take_of_length_le (by rw[F.len];omega),F.len,show i*W+W - W=i*W by omega,d]
theorem Z0 {l:List α} {i:Nat} {x:α} (h:l[i]?=some x):((eL enc l).drop (i*W)).take W=enc x:=by
 obtain⟨g,d⟩:=List.getElem?_eq_some_iff.1 h;rw[P6,List.drop_eq_getElem_cons g,qM,d];exact List.take_left' (F.len x)
theorem Zz {l:List α} {i j:Nat} {x:α} {v:Value} (h:l[i]?=some x) (g:(enc x)[j]?=some v):(eL enc l)[i*W+j]?=some v:=by
 have d:=Z0 (enc:=enc) h;grind
theorem Wd {l:List α} {i:Nat} {y:α} (d:i<l.length):dN (eL enc l) (i*W) (enc y)=eL enc (l.set i y):=by
 rw[<-lS _ _ _ (by rw[sS,F.len,<-Nat.succ_mul];exact Nat.mul_le_mul_right _ d)];unfold cC;rw[Y7,F.len,<-Nat.succ_mul,P6,List.set_eq_take_append_cons_drop,aJ7 d,rn,qM,List.append_assoc]
def ls (enc:α->List Value) (W:Nat) (e:TypeId) (a:Option Addr) (c:Nat) (l:List α):HP:=cN W e a c (l.length,eL enc l)
omit F in
theorem vC [Fx enc W] {e:TypeId} (d:Hs G h L):Hs G h (ls enc W e none 0 []::L):=gK d
variable {e:TypeId} {a:Option Addr} {c:Nat} {l:List α}
omit F in
theorem xV {x:α} (d:Hs G h (cN W e a c (1,enc x)::L)):Hs G h (ls enc W e a c [x]::L):=by
 unfold ls;rw[qM,aEc,List.append_nil];exact d
theorem tO {i:Int} {x:α} {k:Value->Prop} (q:Hs G h L) [m:Has (ls enc W e a c) L l L'] (n:0<W) (g:0<=i) (d:l[i.toNat]?=some x) (o:k (.agg ⟨enc x⟩)):bG (lB W (.slice a l.length c) (I i)) fun p=>bG (sD h W p) k:=by
 obtain⟨j,rfl⟩:=Int.eq_ofNat_of_zero_le g;rw[Int.toNat_natCast] at d;exact Q0 (e:=e) (cs:=eL enc l) (show Hs G h (cN W e a c (l.length,eL enc l)::L') from m.of q) n (List.getElem?_eq_some_iff.1 d).1 (Z0 d) (F.len x) o
theorem cy {i:Int} {j:Nat} {x:α} {u:Value} {k:Value->Prop} (r:Hs G h L) [m:Has (ls enc W e a c) L l L'] (g:0<=i) (d:l[i.toNat]?=some x) (s:(enc x)[j]?=some u) (o:k u):bG (lB W (.slice a l.length c) (I i)) fun p=>bG (gX j p) fun q=>bG (pK h q) k:=by
 obtain⟨n,rfl⟩:=Int.eq_ofNat_of_zero_le g;rw[Int.toNat_natCast] at d;exact o8 (e:=e) (cs:=eL enc l) (show Hs G h (cN W e a c (l.length,eL enc l)::L') from m.of r) (List.getElem?_eq_some_iff.1 d).1 (Zz d s) o
theorem Im {i:Int} {y:α} {k:AH->Prop} (q:Hs G h L) [m:Has (ls enc W e a c) L l L'] (u:0<W) (s:0<=i) (w:i<l.length) (t:∀g,Hs G g (ls enc W e a c (l.set i.toNat y)::L')->k g):bG (lB W (.slice a l.length c) (I i)) fun p=>bG (tZ h W p (.agg ⟨enc y⟩)) k:=by
 obtain⟨n,rfl⟩:=Int.eq_ofNat_of_zero_le s;have j:n<l.length:=by omega
 have q:Hs G h (cN W e a c (l.length,eL enc l)::L'):=m.of q;obtain⟨b,o,rfl,r⟩:=q.gD (by omega);refine dM j ?_;rw[show pt b (o+n*W) 0=pt b o (n*W) by simp[pt]];have hle:n*W+W<=(eL enc l).length:=by rw[sS,<-Nat.succ_mul];exact Nat.mul_le_mul_right _ j
 refine bJ r (F.len y) (Nat.ble_eq_true_of_le hle) (F.cel y) (Nat.ble_eq_true_of_le (by omega)) fun g d=>?_;rw[Wd j] at d;have:=t g;rw[Int.toNat_natCast] at this;refine this ?_;unfold ls;rw[List.length_set];exact Hs.kZ d (by rw[sS,List.length_set]) F2
omit F in
theorem uM [Fx enc W] {bytes c2:Nat} {a2:Option Addr} {l2:List α} {k:Value×AH->Prop} (t:Hs G h L) [m:Has (ls enc W e a c) L l L'] [u:Has (ls enc W e a2 c2) L' l2 M] (r:(l.length+l2.length)*(bytes+1)<=2^46)
  (s:∀d g i,Hs G i (ls enc W e d g (l++l2)::ls enc W e a2 c2 l2::M)->k (.slice d (l++l2).length g,i)):bG (jK W bytes e h (.slice a l.length c) (.slice a2 l2.length c2)) k:=by
 have n:=m.of t
 have o:Hs G h (ls enc W e a2 c2 l2::ls enc W e a c l::M):=(n.perm ((u.perm.cons _).trans (List.Perm.swap _ _ _)))
 have q:Hs G h (cN W e a c (l.length,eL enc l)::cN W e a2 c2 (l2.length,eL enc l2)::M):=o.lK
 refine nY q r fun d g i j=>?_
 have:=s d g i
 unfold ls at this
 rw[List.length_append,rn] at this
 exact this j
end
theorem aCc {a b:Int} {k:Value->Prop} (d:k (I (if b<a then b else a))):bG (yU (I a) (I b)) k:=⟨_,rfl,d⟩
theorem zn {α:Type} {enc:α->List Value} {W:Nat} {e:TypeId} {a:Option Addr} {c i j:Nat} {l:List α} {k:Value->Prop} (d:Hs G h L) [m:Has (ls enc W e a c) L l L'] (C:i<l.length) (u:i<=j) (D:j<=l.length)
  (w:∀b o,a=some ⟨b,o,none⟩->k (.slice (some ⟨b,o+i*W,none⟩) (j - i) (c - i))):bG (xK W h (.slice a l.length c) (some (I i)) (some (I j)) none) k:=by
 have d:Hs G h (cN W e a c (l.length,eL enc l)::L'):=m.of d
 have y:l.length<=c/\∃b o,a=some ⟨b,o,none⟩:=d.bx fun r x=>by
  obtain⟨_,_,⟨g,_⟩|⟨g,_⟩|⟨g,b,z,n,ex,A,_⟩⟩:=x;grind;grind;grind
 obtain⟨B,b,o,rfl⟩:=y
 refine⟨_,?_,w b o rfl⟩
 have q:lI none c c=some c:=by simp[lI]
 have s:lI (some (I j)) l.length c=some j:=by simp[lI];omega
 have t:lI (some (I i)) 0 j=some i:=by simp[lI];omega
 unfold xK
 simp only[q,s,t,Option.isNone_some,Bool.false_and,Bool.false_eq_true,if_false,Option.isSome_none]
 rw[aac,aaa,dE]
theorem aC4 {α:Type} {enc:α->List Value} {W:Nat} [F:Fx enc W] {e:TypeId} {b o c n:Nat} {l:List α} {x:α} {k:Value->Prop} (d:Hs G h L) [m:Has (ls enc W e (some ⟨b,o,none⟩) c) L l L'] (j:0<W) (i:l[n]?=some x) (r:k (.agg ⟨enc x⟩)):bG (sD h W (pt b (o+n*W) 0)) k:=by
 have d:Hs G h (cN W e (some ⟨b,o,none⟩) c (l.length,eL enc l)::L'):=m.of d;have t:=(List.getElem?_eq_some_iff.1 i).1;obtain⟨s,u,q,g⟩:=d.gD (by omega);cases q;rw[show pt b (o+n*W) 0=pt b o (n*W) by simp[pt]];exact aR g j (Z0 i) (F.len x) r
end Go.Ab
end
section
namespace Go.Ab
variable {P:Program} {K:FuncId->List Value->Option jI} {G:Bg} {h:AH} {L L' M:List HP}
theorem aF2 {W n i c:Nat} {e:TypeId} {a:Option Addr} {cs z:List Value} {k:Value->AH->Prop} (X:0<W) (g:∀m,(eJ z m).length=m*W/\(eJ z m).all eF=true) (hi:i<n) (s:Hs G h L) [m:Has (cN W e a c) L (n,cs) L']
  (Z:∀E,Hs G E (cN W e a c (i,cs.take (i*W))::L')->k (.slice a i c) E):
  bG (xK W h (.slice a n c) (some (I i)) none none) fun v0=>bG (iQ z h v0) fun R=>(fun _ J=>bG (xK W J (.slice a n c) none (some (I i)) none) fun v4=>k v4 J) R.1 R.2:=by
 have s:=m.of s
 have hl:=s.Ap
 have N:=s.zM
 simp only at hl N
 have d:n<=c:=by
  obtain⟨r,r2,⟨_,_,hr⟩,_⟩:=s.fst;rcases hr with⟨g,_⟩|⟨g,_⟩|⟨d,_⟩;simp only at g;omega;simp only at g;omega;exact d
 obtain⟨b,o,rfl,H,A,close⟩:=s.oG (by omega)
 have O:0<n*W:=Nat.mul_pos (by omega) X
 have y:0<cs.length:=by omega
 have D:lI none c c=some c:=rfl
 have S:lI (some (I i)) n c=some i:=by simp only[lI];rw[aac];simp
 have T:lI none 0 i=some 0:=rfl
 have U:lI none n c=some n:=rfl
 have V:lI (some (I i)) 0 n=some i:=by simp only[lI];rw[aac];simp
 have x:¬c=i:=by omega
 have w:¬c=0:=by omega
 have Y:i*W<=n*W:=Nat.mul_le_mul_right W (by omega)
 have Q:(n - i)*W=n*W - i*W:=Nat.sub_mul _ _ _
 refine⟨.slice (some ⟨b,o+i*W,none⟩) (n - i) (c - i),?_,?_⟩
 .simp only[xK,D,U,V,Option.isNone_none,Option.isSome_none,Bool.and_false,Bool.false_eq_true,if_false,dE,x];rw[aJ7 d]
 obtain⟨u,C,t⟩:=A.write (j:=i*W) (vs:=eJ z (n - i)) (by rw[(g _).1];omega) (g _).2 y
 refine⟨(.tuple #[],u),?_,?_⟩
 .simp only[iQ,aJ6 (show ¬n - i=0 by omega),C,Option.map_some]
 refine⟨.slice (some ⟨b,o,none⟩) i c,?_,Z u ?_⟩
 .simp only[xK,D,S,T,Option.isNone_some,Bool.false_and,Option.isSome_none,Bool.false_eq_true,if_false,w,dE];rw[aac];simp
 have B:cC cs (i*W) (eJ z (n - i))=cs.take (i*W)++eJ z (n - i):=by
  unfold cC;rw[List.drop_eq_nil_of_le (by rw[(g _).1];omega),List.append_nil]
 rw[B] at t
 have q:(cs.take (i*W)).length=i*W:=by rw[List.length_take];omega
 refine Ji (n:=n) (zs:=eJ z (n - i)) (by omega) (by omega) q (close u _ _ ?_ ?_ t)
 .rw[List.length_append,q,(g _).1];omega
 .rw[List.all_append,(g _).2,Bool.and_true];exact List.all_eq_true.2 fun v hv=>List.all_eq_true.1 N v (List.mem_of_mem_take hv)
instance {p:Nat}:Cv (gH p) [gH p]:=⟨rfl⟩
theorem aG7 {cs:List Value} {e:TypeId} {v:Value} {k:Nat->AH->Prop} (i:Hs G h L) [j:Cv v cs] (g:∀p d,Hs G d (aG p 0 cs::mt p (e,true,cs.length)::L)->k p d):bG (lG e v) fun b=>Cq h b k:=
 ⟨.cells cs e (0,0) true,by simp[lG,j.eq],g _ _ i.new⟩
end Go.Ab
end
