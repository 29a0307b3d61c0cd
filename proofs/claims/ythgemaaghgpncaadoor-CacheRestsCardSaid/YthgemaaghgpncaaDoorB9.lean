/- A part of the proof. -/
import Derived.Test.YthgemaaghgpncaaDoorB7
import Derived.Test.YthgemaaghgpncaaDoorB8
import Derived.Test.YthgemaaghgpncaaDoorB5
import Derived.LaidLaws
import Derived.MakeChecks
import Derived.WalkKit
import Derived.ProofKit
import Derived.ChangeOld
import Derived.ChangeSame
import Derived.ChangeVars
import Derived.JoinedOf
import Derived.Carry
import Derived.LaidHandle
import Derived.Stop.Joined
section
namespace Go.Ab
noncomputable section
variable {P:Program} {K:FuncId→List Value→Option fM}
def hA:Unit:=Function.const _ () @Cl
def hB:Unit:=Function.const _ () hA
def hC:Unit:=Function.const _ () hB
def hD:Unit:=Function.const _ () hC
def hE:Unit:=Function.const _ () hD
def hG:Unit:=Function.const _ () hE
def hP (p:Prop):Prop:=(fun _:Unit=>p) hG
def hF:Prop:=hP False
inductive Kn where
 |un|ex|b (x:Bool)|sk|no
abbrev Ek:=List (Nat×Value×Kn)
def Ek.lk:Ek→Nat→Option (Value×Kn)
 |[],_=>none
 |(t',v,k)::a,t=>match Nat.beq t' t with
  |true=>(match k with
   |.no=>none
   |k=>some (v,k))
  |false=>Ek.lk a t
def dC (a:Ek) (env:List Value):Prop:=∀t v k,a.lk t=some (v,k)→env[t]?=some v∧(∀x,k= .b x→v= .bool x)∧(k= .sk→v=undef)
def Z2 (v:Value) (k:Value→Prop):Prop:=match v with
 |.int .i64 n=>k (I n)
 |v=>hP (k v)
def nO (P:Program) (a:Ek) (x:Operand) (k:Value→Prop):Prop:=match x with
 |.tmp t=>(match a.lk t with
  |some (v,_)=>k v
  |none=>hF)
 |.const v=>(match cG v with
  |true=>Z2 v k
  |false=>k top)
 |.global g=>(match Nat.blt g P.globals.size with
  |true=>k (.pointer (some ⟨g,0,none⟩))
  |false=>k top)
 |.func f=>k (.func (.func f) #[] #[])
theorem cY {a:Ek} {env:List Value} (ha:dC a env) {x:Operand} {k:Value→Prop} (h:nO P a x k):k (bB P env x):=by
 unfold nO at h
 split at h
 ·split at h
  ·rename_i hl
   have:=(ha _ _ _ hl).1
   simpa only[bB,List.getD_eq_getElem?_getD,this,Option.getD_some] using h
  ·cases h
 ·split at h
  ·rename_i hp
   simp only[bB,hp,if_true]
   unfold Z2 at h
   split at h<;>exact h
  ·rename_i hp
   simpa only[bB,hp,Bool.false_eq_true,if_false] using h
 ·split at h
  ·rename_i g _ hg
   have:g<P.globals.size:=Nat.le_of_ble_eq_true hg
   simpa only[bB,this,if_true] using h
  ·rename_i g _ hg
   have:¬g<P.globals.size:=fun hl=>by rw[show Nat.blt g P.globals.size=true from Nat.ble_eq_true_of_le hl] at hg;cases hg
   simpa only[bB,this,if_false] using h
 ·exact h
def Ut (P:Program) (a:Ek) (x:Option Operand) (k:Option Value→Prop):Prop:=match x with
 |none=>k none
 |some x=>nO P a x fun v=>k (some v)
theorem J0 {a:Ek} {env:List Value} (ha:dC a env) {x:Option Operand} {k:Option Value→Prop} (h:Ut P a x k):k (x.map (bB P env)):=by
 cases x with
 |none=>exact h
 |some x=>exact cY ha h
def I7 (P:Program) (a:Ek):List Operand→(List Value→Prop)→Prop
 |[],k=>k []
 |x::l,k=>nO P a x fun v=>I7 P a l fun vs=>k (v::vs)
theorem tD {a:Ek} {env:List Value} (ha:dC a env):∀{l:List Operand} {k:List Value→Prop},I7 P a l k→k (l.map (bB P env))
 |[],_,h=>h
 |_::l,k,h=>by
  have h1:=cY ha h
  have h2:=tD ha (l:=l) h1
  exact h2
def Vq {α:Type}:List α→(List α→Prop)→Prop
 |[],k=>hP (k [])
 |v::l,k=>Vq l fun l=>k (v::l)
theorem Bs {α:Type}:∀{l:List α} {k:List α→Prop},Vq l k→k l
 |[],_,h=>h
 |_::l,_,h=>Bs (l:=l) h
def Gf (P:Program) (t:TypeId) (k:Nat→Prop):Prop:=match P.info? t with
 |some ⟨_,_,n,_,_,_,_,_,_,_⟩=>k n
 |none=>hF
theorem lJ {t:TypeId} {k:Nat→Prop} (h:Gf P t k):(P.info? t).isSome=true∧k (P.cellsOf t):=by
 unfold Gf at h
 split at h
 ·rename_i he
  exact⟨by rw[he];rfl,by unfold Program.cellsOf;rw[he];exact h⟩
 ·cases h
def An (P:Program) (a:Ek) (place:Nat→(Nat→Nat→Prop)→Prop):List (Nat×Operand)→(List (Nat×Nat×Value)→Prop)→Prop
 |[],k=>k []
 |(i,x)::rest,k=>place i fun off size=>nO P a x fun v=>An P a place rest fun l=>k ((off,size,v)::l)
theorem uX {a:Ek} {env:List Value} (ha:dC a env) {place:Nat→(Nat→Nat→Prop)→Prop} {pl:Nat→Option (Nat×Nat)} (hp:∀i k,place i k→∃o s,pl i=some (o,s)∧k o s):
  ∀{l:List (Nat×Operand)} {k:List (Nat×Nat×Value)→Prop},An P a place l k→∃r,pL pl (bB P env) l=some r∧k r
 |[],_,h=>⟨_,rfl,h⟩
 |(i,x)::rest,_,h=>by
  obtain⟨o,s,h1,h2⟩:=hp _ _ h
  obtain⟨r,h3,h4⟩:=uX ha hp (cY ha h2)
  exact⟨_,by simp only[pL,h1,h3],h4⟩
def gy (P:Program) (fs:Array Field) (i:Nat) (k:Nat→Nat→Prop):Prop:=match fs[i]? with
 |some ⟨_,t,off,_,_,_,_⟩=>Gf P t fun n=>k off n
 |none=>hF
theorem af {fs:Array Field} (i:Nat) (k:Nat→Nat→Prop) (h:gy P fs i k):∃o s,((fs[i]?).map fun f=>(f.offset,P.cellsOf f.type))=some (o,s)∧k o s:=by
 unfold gy at h
 split at h
 ·rename_i he
  exact⟨_,_,by rw[he];rfl,(lJ h).2⟩
 ·cases h
def il (n:Nat) (i:Nat) (k:Nat→Nat→Prop):Prop:=hP (k (i*n) n)
def wZ (P:Program) (t:TypeId) (k:List Value→Prop):Prop:=match zeroOf P t with
 |some z=>Vq z k
 |none=>hF
theorem Nz {t:TypeId} {k:List Value→Prop} (h:wZ P t k):∃z,zeroOf P t=some z∧k z:=by
 unfold wZ at h
 split at h
 ·exact⟨_,by assumption,Bs h⟩
 ·cases h
def dj (l:List Nat):Nat→List Nat→List Nat
 |0,acc=>acc
 |n+1,acc=>dj l n (l++acc)
def kF (P:Program):Nat→TypeId→Option (List Nat)
 |0,_=>none
 |d+1,t=>match P.underlying t with
  |some .bool=>some [1]
  |some (.int _)=>some [0]
  |some .string=>some [2]
  |some (.array n e)=>(match kF P d e with
   |some l=>some (dj l n [])
   |none=>none)
  |some (.struct fs)=>fs.toList.foldr (fun f r=>match kF P d f.type,r with
   |some a,some b=>some (a++b)
   |_,_=>none) (some [])
  |_=>none
def gm:Option (List Nat)→List Nat→Bool
 |some l,m=>l==m
 |none,_=>false
theorem Vt {o:Option (List Nat)} {l:List Nat} (h:gm o l=true):o=some l:=by
 unfold gm at h
 grind
def wB (P:Program) (op:BinOp) (t:TypeId) (x y:Operand) (a b:Value) (q:Value→Prop):Prop:=
 match P.underlying t with
 |some (.int _)=>aN (xJ op a b) q
 |some .string=>aN (Wu op a b) q
 |some .bool=>aN (Y3 op a b) q
 |some (.pointer _)=>aN (Ta op a b) q
 |some (.slice _)=>aN (X6 op a b) q
 |some (.func _ _ _)=>aN (Xa op a b) q
 |some (.interface _)=>(match isConst x||isConst y with
  |true=>aN (S7 true op a b) q
  |false=>aN (S7 false op a b) q)
 |some (.struct _)|some (.array _ _)=>(match kF P 20 t with
  |some ks=>Vq ks fun ks=>Wa (gm (yU P t) ks) ks op a b q
  |none=>hF)
 |_=>hF
theorem gq {op:BinOp} {t:TypeId} {x y:Operand} {a b:Value} {q:Value→Prop} (h:wB P op t x y a b q):G4 P op t x y a b q aN:=by
 unfold wB at h
 unfold G4
 split at h
 case h_7=>
  grind
 case h_8=>
  rename_i he;rw[he]
  split at h
  ·obtain⟨hk,h⟩:=Bs h
   simp only[Vt hk];exact h
  ·cases h
 case h_9=>
  rename_i he;rw[he]
  split at h
  ·obtain⟨hk,h⟩:=Bs h
   simp only[Vt hk];exact h
  ·cases h
 all_goals first|(rename_i he;rw[he];exact h)|cases h
def wL (P:Program) (a:Ek) (h:AH) (q:Value→Prop):Op→Prop
 |.move x=>nO P a x q
 |.assign x=>nO P a x q
 |.pick c x y=>nO P a c fun c=>nO P a x fun x=>nO P a y fun y=>aN (C4 c x y) q
 |.build t parts=>wZ P t fun z=>(match P.underlying t with
  |some (.struct fs)=>(match fs.toList.all (fun f=>(P.info? f.type).isSome) with
   |true=>An P a (gy P fs) parts.toList fun l=>aN (mR z l) fun c=>q (.agg ⟨c⟩)
   |false=>hF)
  |some (.array _ e)=>Gf P e fun n=>An P a (il n) parts.toList fun l=>aN (mR z l) fun c=>q (.agg ⟨c⟩)
  |_=>hF)
 |.load t x=>nO P a x fun x=>(match fR P t with
  |some true=>Gf P t fun n=>aN (yS h n x) q
  |some false=>aN (wO h x) q
  |none=>hF)
 |.nilCheck x=>nO P a x fun x=>aN (sH x) q
 |.binOp op t x y _=>nO P a x fun u=>nO P a y fun v=>wB P op t x y u v q
 |.unOp op _ x=>nO P a x fun x=>aN (Wo op x) q
 |.convert s d x=>nO P a x fun x=>(match P.underlying s with
  |some .string=>(match P.underlying d with
   |some (.int k)=>aN (sU k x) q
   |some .string=>aN (Ai x) q
   |_=>hF)
  |some (.slice e)=>(match P.underlying d with
   |some .string=>(match P.underlying e with
    |some (.int .u8)=>aN (strOf h x) q
    |_=>hF)
   |_=>hF)
  |some _=>(match P.underlying d with
   |some (.int k)=>aN (sU k x) q
   |_=>hF)
  |none=>hF)
 |.makeInterface t x=>nO P a x fun x=>(match P.underlying t with
  |some (.interface _)=>hF
  |some _=>q (.iface t x)
  |none=>hF)
 |.makeFunc fn first captured=>(match fn with
  |.func f=>I7 P a first.toList fun x=>I7 P a captured.toList fun y=>q (.func (.func f) ⟨x⟩ ⟨y⟩)
  |_=>hF)
 |.slice t x lo hi mx=>nO P a x fun x=>Ut P a lo fun lo=>Ut P a hi fun hi=>Ut P a mx fun mx=>(match P.underlying t with
  |some (.slice e)=>Gf P e fun n=>aN (uA n h x lo hi mx) q
  |some (.array n e)=>Gf P e fun m=>aN (Yn n m x lo hi mx) q
  |some .string=>(match mx with
   |none=>aN (Xd x lo hi) q
   |some _=>hF)
  |_=>hF)
 |.fieldAddr s x f=>nO P a x fun x=>(match P.underlying s with
  |some (.struct fs)=>(match fs[f]? with
   |some ⟨_,t,off,_,_,_,_⟩=>Gf P t fun n=>(match Nat.beq n 0 with
    |true=>hF
    |false=>aN (qH off x) q)
   |none=>hF)
  |_=>hF)
 |.field t x f=>nO P a x fun x=>(match P.underlying t with
  |some (.struct fs)=>(match fs[f]? with
   |some ⟨_,t,off,_,_,_,_⟩=>(match fR P t with
    |some true=>Gf P t fun n=>aN (Ax off n x) q
    |some false=>aN (Aa off x) q
    |none=>hF)
   |none=>hF)
  |_=>hF)
 |.indexAddr t x i=>nO P a x fun x=>nO P a i fun i=>(match P.underlying t with
  |some (.array n e)=>Gf P e fun m=>aN (sI n m x i) q
  |some (.slice e)=>Gf P e fun m=>aN (vA m x i) q
  |_=>hF)
 |.index t x i=>nO P a x fun x=>nO P a i fun i=>(match P.underlying t with
  |some (.array n e)=>Gf P e fun m=>(match fR P e with
   |some true=>aN (Yr n m x i) q
   |some false=>aN (P6 n m x i) q
   |none=>hF)
  |some .string=>aN (Ys x i) q
  |_=>hF)
 |.extract t i=>nO P a t fun t=>aN (tP i t) q
 |.lookup t x ix ok=>nO P a x fun x=>nO P a ix fun ix=>(match wI P t with
  |some e=>(match zeroV P e with
   |some z=>aN (fo z h x ix ok) q
   |none=>hF)
  |none=>hF)
 |_=>hF
theorem Zt {a:Ek} {env:List Value} (ha:dC a env) {h:AH} {q:Value→Prop} {op:Op} (hw:wL P a h q op):fS P (bB P env) h q op:=by
 unfold wL at hw
 split at hw
 case h_1=>exact cY ha hw
 case h_2=>exact cY ha hw
 case h_3=>exact cY ha (cY ha (cY ha hw))
 case h_4=>
  obtain⟨z,hz,hw⟩:=Nz hw
  unfold fS
  simp only[hz]
  split at hw
  ·rename_i hu;simp only[hu]
   split at hw
   ·rename_i hall;rw[Array.all_toList] at hall;simp only[hall,if_true]
    obtain⟨r,h1,h2⟩:=uX ha af hw
    grind
   ·cases hw
  ·rename_i e hu;simp only[hu]
   obtain⟨hi,hw⟩:=lJ hw
   simp only[hi,if_true]
   obtain⟨r,h1,h2⟩:=uX (pl:=fun i=>some (i*P.cellsOf e,P.cellsOf e)) ha (fun i k hk=>⟨_,_,rfl,hk⟩) hw
   grind
  ·cases hw
 case h_5=>
  have hw:=cY ha hw
  unfold fS
  split at hw
  ·rename_i hu;simp only[hu];exact(lJ hw).2
  ·grind
  ·cases hw
 case h_6=>exact cY ha hw
 case h_7=>exact gq (cY ha (cY ha hw))
 case h_8=>exact cY ha hw
 case h_9=>
  have hw:=cY ha hw
  unfold fS
  split at hw
  ·rename_i hs;simp only[hs]
   split at hw<;>first|(rename_i hd;simp only[hd];exact hw)|cases hw
  ·rename_i hs;simp only[hs]
   split at hw
   ·rename_i hd;simp only[hd]
    split at hw<;>first|(rename_i hd;simp only[hd];exact hw)|cases hw
   ·cases hw
  ·rename_i h1 h2 hs;simp only[hs]
   split at hw<;>first|(rename_i hd;simp only[hd];exact hw)|cases hw
  ·cases hw
 case h_10=>
  have hw:=cY ha hw
  unfold fS
  split at hw
  ·cases hw
  ·grind
  ·cases hw
 case h_11=>
  unfold fS
  split at hw
  ·have hw:=tD ha (tD ha hw)
   simpa only[List.map_toArray,←Array.toList_map] using hw
  ·cases hw
 case h_12=>
  have hw:=J0 ha (J0 ha (J0 ha (cY ha hw)))
  unfold fS
  split at hw
  ·rename_i hs;simp only[hs];obtain⟨h1,h2⟩:=lJ hw;grind
  ·rename_i hs;simp only[hs];obtain⟨h1,h2⟩:=lJ hw;grind
  ·rename_i hs;simp only[hs]
   split
   ·exact hw
   ·exact hw.elim
  ·cases hw
 case h_13=>
  have hw:=cY ha hw
  unfold fS
  split at hw
  ·rename_i hs;simp only[hs]
   split at hw
   ·rename_i hf;simp only[hf]
    obtain⟨_,hw⟩:=lJ hw
    split at hw
    ·cases hw
    ·rename_i hn;rw[if_neg (fun e=>by rw[e] at hn;cases hn)];exact hw
   ·cases hw
  ·cases hw
 case h_14=>
  have hw:=cY ha hw
  unfold fS
  split at hw
  ·rename_i hs;simp only[hs]
   split at hw
   ·rename_i hf;simp only[hf]
    split at hw
    ·rename_i hg;simp only[hg];exact(lJ hw).2
    ·grind
    ·cases hw
   ·cases hw
  ·cases hw
 case h_15=>
  have hw:=cY ha (cY ha hw)
  unfold fS
  split at hw
  ·rename_i hs;simp only[hs];obtain⟨h1,h2⟩:=lJ hw;grind
  ·rename_i hs;simp only[hs];obtain⟨h1,h2⟩:=lJ hw;grind
  ·cases hw
 case h_16=>
  have hw:=cY ha (cY ha hw)
  unfold fS
  split at hw
  ·rename_i hs;simp only[hs];obtain⟨h1,hw⟩:=lJ hw;simp only[h1,if_true]
   split at hw
   ·grind
   ·grind
   ·cases hw
  ·grind
  ·cases hw
 case h_17=>exact cY ha hw
 case h_18=>
  have hw:=cY ha (cY ha hw)
  unfold fS
  split at hw
  ·rename_i hs;simp only[hs]
   split at hw
   ·grind
   ·cases hw
  ·cases hw
 case h_19=>cases hw
end
end Go.Ab
end
section
namespace Go.Ab
noncomputable section
variable {P:Program} {K:FuncId→List Value→Option fM}
def jc (v:Value) (p:Prop):Prop:=∃k n,v= .int k n∧p
def lits:List Nat:=[0,1,2,3,4,5,6,7,8,9,10,11,12,13,14,15,16,17,18,19,20,21,22,23,24,25,26,27,28,29,30,31,32,33,34,35,36,37,38,39,40,41,42,43,44,45,46,47,48,49,50,51,52,53,54,55,56,57,58,59,60,61,62,63,64,65,66,67,68,69,70,71,72,73,74,75,76,77,78,79,80,81,82,83,84,85,86,87,88,89,90,91,92,93,94,95,96,97,98,99]
def nK (n:Nat) (k:Nat→Prop):Prop:=match lits[n]? with
 |some m=>(match Nat.beq m n with
  |true=>k m
  |false=>hF)
 |none=>k n
theorem R0 {n:Nat} {k:Nat→Prop} (h:nK n k):k n:=by
 unfold nK at h
 split at h
 ·split at h
  ·simp_all
  ·cases h
 ·exact h
def dv (P:Program) (t:TypeId) (k:Nat→Prop):Prop:=match P.info? t with
 |some ⟨_,_,_,n,_,_,_,_,_,_⟩=>k n
 |none=>hF
theorem Vr {t:TypeId} {k:Nat→Prop} (h:dv P t k):k (P.bytesOf t):=by
 unfold dv at h
 split at h
 ·rename_i he
  unfold Program.bytesOf;rw[he];exact h
 ·cases h
def dx (P:Program) (h:AH) (q:Value→AH→Prop) (ts:Array TypeId):Builtin→List Value→Prop
 |.len,[x]=>match(ts[0]?).bind P.underlying with
  |some .string=>aN (Hh x) fun v=>q v h
  |some (.slice _)=>aN (vU x) fun v=>q v h
  |some (.array n _)=>q (I n) h
  |some (.pointer e)=>(match P.underlying e with
   |some (.array n _)=>q (I n) h
   |_=>hF)
  |some (.map _ _)=>aN (Ug h x) fun v=>q v h
  |_=>hF
 |.append,[s,x]=>match(ts[0]?).bind P.underlying with
  |some (.slice e)=>(match zE P ts with
   |true=>wZ P e fun _=>Gf P e fun n=>dv P e fun m=>aN (jK n m e h s x) fun r=>(match r with|(v,h')=>q v h')
   |false=>hF)
  |_=>hF
 |.copy,[d,x]=>match(ts[0]?).bind P.underlying with
  |some (.slice e)=>Gf P e fun n=>aN (copyV n h d x) fun r=>(match r with|(v,h')=>q v h')
  |_=>hF
 |.clear,[x]=>match(ts[0]?).bind P.underlying with
  |some (.slice e)=>wZ P e fun z=>aN (mJ z h x) fun r=>(match r with|(v,h')=>q v h')
  |_=>hF
 |.min,[x,y]=>aN (I5 x y) fun v=>q v h
 |.max,[x,y]=>aN (H3 x y) fun v=>q v h
 |.delete,[m,k]=>(match ts[0]? with
  |some t=>(match wI P t with
   |some _=>aN (Na h m k) fun h'=>q (.tuple #[]) h'
   |none=>hF)
  |none=>hF)
 |_,_=>hF
theorem Vx {h:AH} {q:Value→AH→Prop} {ts:Array TypeId} {b:Builtin} {l:List Value} (hw:dx P h q ts b l):oD P h q ts b l:=by
 unfold dx at hw
 unfold oD
 split at hw
 ·split at hw<;>(rename_i hu;simp only[hu];exact hw)
 ·split at hw
  ·rename_i hu;simp only[hu]
   split at hw
   ·rename_i hs
    obtain⟨z,hz,hw⟩:=Nz hw
    obtain⟨_,hw⟩:=lJ hw
    rw[if_pos ⟨hs,by rw[hz];rfl⟩]
    exact Vr hw
   ·cases hw
  ·cases hw
 ·split at hw
  ·rename_i hu;simp only[hu]
   obtain⟨h1,hw⟩:=lJ hw
   grind
  ·cases hw
 ·split at hw
  ·rename_i hu;simp only[hu]
   obtain⟨z,hz,hw⟩:=Nz hw
   grind
  ·cases hw
 ·exact hw
 ·exact hw
 ·split at hw
  ·rename_i hu;simp only[hu]
   split at hw
   ·grind
   ·cases hw
  ·cases hw
 ·cases hw
def wH (P:Program) (K:FuncId→List Value→Option fM) (a:Ek) (h:AH) (q:Value→AH→Prop):Op→Prop
 |.store t p x=>Gf P t fun n=>nO P a p fun p=>nO P a x fun x=>aN (Jx h n p x) fun h'=>q undef h'
 |.call c=>(match c.callee with
  |.builtin b=>I7 P a c.args.toList fun l=>dx P h q c.argTypes b l
  |.value (.func g)=>(match dS P g with
   |true=>I7 P a c.args.toList fun l=>Cl P K g l h q
   |false=>hF)
  |.value f=>nO P a f fun f=>I7 P a c.args.toList fun l=>Dm P K f l h q
  |.invoke _ _=>hF)
 |.mapUpdate t m k x=>(match wI P t with
  |some _=>nO P a m fun m=>nO P a k fun k=>nO P a x fun x=>aN (Mw h m k x) fun h'=>q undef h'
  |none=>hF)
 |_=>hF
theorem Xt {a:Ek} {env:List Value} (ha:dC a env) {h:AH} {q:Value→AH→Prop} {op:Op} (hw:wH P K a h q op):rV P K (bB P env) h q op:=by
 unfold wH at hw
 unfold rV
 split at hw
 ·obtain⟨h1,hw⟩:=lJ hw
  simp only[h1,if_true]
  exact cY ha (cY ha hw)
 ·split at hw
  ·rename_i hc;simp only[hc]
   exact Vx (tD ha hw)
  ·rename_i hc;simp only[hc]
   split at hw
   ·rename_i hg;simp only[hg,if_true];exact tD ha hw
   ·cases hw
  ·rename_i hc;simp only[hc]
   exact tD ha (cY ha hw)
  ·cases hw
 ·split at hw
  ·rename_i hk;simp only[hk]
   exact cY ha (cY ha (cY ha hw))
  ·cases hw
 ·cases hw
def wA (P:Program) (a:Ek) (mk:jN→(Nat→AH→Prop)→Prop) (He:Nat→TypeId→List Value→Nat→Nat→(Value→AH→Prop)→Prop) (q:Value→AH→Prop):Op→Prop
 |.alloc e=>wZ P e fun z=>mk (.cells z e (0,0) true) fun p h'=>q (pt p 0 0) h'
 |.box e x=>nO P a x fun x=>aN (oB e x) fun b=>mk b fun p h'=>q (pt p 0 0) h'
 |.buildSlice t len parts=>match P.underlying t with
  |some (.slice e)=>wZ P e fun z=>Gf P e fun n=>(match Nat.ble (len*n) 16777216 with
   |true=>An P a (il n) parts.toList fun ps=>Vq (dV z len) fun zs=>aN (mR zs ps) fun l=>He n e l len len q
   |false=>hF)
  |_=>hF
 |.makeSlice t l c=>match P.underlying t with
  |some (.slice e)=>wZ P e fun z=>Gf P e fun n=>dv P e fun m=>nO P a l fun l=>nO P a c fun c=>aN (fi m l c) fun r=>He n e (dV z r.2) r.1 r.2 q
  |_=>hF
 |.makeMap _ none=>mk (.map [] 0) fun p h'=>q (Ty p) h'
 |.makeMap t (some x)=>match P.underlying t with
  |some (.map _ _)=>nO P a x fun x=>jc x (mk (.map [] 0) fun p h'=>q (Ty p) h')
  |_=>hF
 |_=>hF where
      fi:=Go.Ab.He
theorem Zn {a:Ek} {env:List Value} (ha:dC a env) {mk:jN→(Nat→AH→Prop)→Prop} {He:Nat→TypeId→List Value→Nat→Nat→(Value→AH→Prop)→Prop}
  (hS:∀W e l n c k,He W e l n c k→mk (.cells l e (0,0) true) fun p h'=>k (Q1 n c p) h') {q:Value→AH→Prop} {op:Op} (hw:wA P a mk He q op):
  sF P (bB P env) (fun b f=>mk b fun i h'=>q (f i) h') op:=by
 unfold wA at hw
 unfold sF
 split at hw
 ·obtain⟨z,hz,hw⟩:=Nz hw
  simp only[hz];exact hw
 ·exact cY ha hw
 ·split at hw
  ·rename_i hu;simp only[hu]
   obtain⟨z,hz,hw⟩:=Nz hw
   obtain⟨_,hw⟩:=lJ hw
   simp only[hz]
   split at hw
   ·rename_i hb
    rw[if_pos (Nat.le_of_ble_eq_true hb)]
    obtain⟨r,h1,hw⟩:=uX (pl:=fun i=>some (i*P.cellsOf _,P.cellsOf _)) ha (fun i k hk=>⟨_,_,rfl,hk⟩) hw
    simp only[h1]
    exact(Bs hw).mono fun v hv=>hS _ _ _ _ _ _ hv
   ·cases hw
  ·cases hw
 ·split at hw
  ·rename_i hu;simp only[hu]
   obtain⟨z,hz,hw⟩:=Nz hw
   obtain⟨_,hw⟩:=lJ hw
   simp only[hz]
   exact(cY ha (cY ha (Vr hw))).mono fun v hv=>hS _ _ _ _ _ _ hv
  ·cases hw
 ·exact hw
 ·split at hw
  ·rename_i hu;simp only[hu]
   obtain⟨k,n,h1,hw⟩:=cY ha hw
   grind
  ·cases hw
 ·cases hw
end
end Go.Ab
end
section
namespace Go.Ab
noncomputable section
variable {P:Program} {K:FuncId→List Value→Option fM}
theorem dC.cons {a:Ek} {env:List Value} (ha:dC a env) {d:Nat} {v:Value} {k:Kn} (hd:d<env.length) (hb:∀x,k= .b x→v= .bool x) (hs:k= .sk→v=undef):dC ((d,v,k)::a) (env.set d v):=by
 intro t u j hl
 unfold Ek.lk at hl
 split at hl
 ·rename_i e
  have:=Nat.eq_of_beq_eq_true e
  grind
 ·rename_i e
  obtain⟨h1,h2⟩:=ha t u j hl
  refine⟨?_,h2⟩
  rw[List.getElem?_set_ne (fun e'=>by simp_all)]
  exact h1
theorem dC.az {a:Ek} {env:List Value} (ha:dC a env) {d:Nat} {v:Value} {k _k':Kn} (hl:a.lk d=some (v,k)) {b:Bool} (hv:v= .bool b):dC ((d,.bool b,.b b)::a) env:=by
 intro t u j h
 unfold Ek.lk at h
 split at h
 ·rename_i e
  have:=Nat.eq_of_beq_eq_true e
  subst this
  cases h
  exact⟨by rw[←hv];exact(ha _ _ _ hl).1,fun x hx=>(by cases hx;rfl),fun hx=>(by cases hx)⟩
 ·exact ha t u j h
def Ec (n:Nat) (a:Ek) (d:Option Tmp) (v:Value) (k:Kn) (q:Ek→Prop):Prop:=match d with
 |none=>q a
 |some d=>(match Nat.blt d n with
  |true=>q ((d,v,k)::a)
  |false=>hF)
theorem lC {n:Nat} {a:Ek} {env:List Value} (ha:dC a env) (hn:env.length=n) {d:Option Tmp} {v:Value} {k:Kn} {q:Ek→Prop} (hb:∀x,k= .b x→v= .bool x) (hs:k= .sk→v=undef) (hw:Ec n a d v k q):
  ∃a',dC a' (fP env d v)∧(fP env d v).length=n∧q a':=by
 unfold Ec at hw
 split at hw
 ·exact⟨a,ha,hn,hw⟩
 ·rename_i d
  split at hw
  ·rename_i hlt
   have:d<n:=Nat.le_of_ble_eq_true hlt
   exact⟨_,ha.cons (hn.symm▸this) hb hs,by simp[fP,hn],hw⟩
  ·cases hw
def wG (jV:Nat→Option Tmp) (a:Ek) (g:Option (Nat×Bool)) (p s:Ek→Prop):Prop:=match g with
 |none=>p a
 |some (j,want)=>match jV j with
  |none=>hF
  |some d=>match a.lk d with
   |some (_,.b x)=>(match x,want with
    |true,true=>p a
    |false,false=>p a
    |_,_=>s a)
   |some (_,.sk)=>s a
   |some (v,_)=>(match want with
    |true=>Br v (p ((d,.bool true,.b true)::a)) (s ((d,.bool false,.b false)::a))
    |false=>Br v (s ((d,.bool true,.b true)::a)) (p ((d,.bool false,.b false)::a)))
   |none=>hF
theorem ah {all:Array Oper} {a:Ek} {env:List Value} (ha:dC a env) {o:Oper} {p s:Ek→Prop} (hw:wG (fun j=>(all[j]?).bind (·.dst)) a o.guard p s):
  ∃a',dC a' env∧((cB all env o=some true∧p a')∨(cB all env o=some false∧s a')):=by
 unfold wG at hw
 unfold cB
 split at hw
 ·grind
 ·rename_i j want hg
  rw[hg]
  simp only
  split at hw
  ·cases hw
  ·rename_i d hdst
   replace hdst:(all[j]?).bind (·.dst)=some d:=hdst
   rw[hdst]
   simp only[Option.bind_some]
   split at hw
   ·rename_i x hl
    obtain⟨h1,h2,_⟩:=ha _ _ _ hl
    have:=h2 x rfl;subst this
    rw[h1]
    split at hw
    ·grind
    ·grind
    ·rename_i n1 n2
     refine⟨a,ha,.inr ⟨?_,hw⟩⟩
     cases x<;>cases want<;>grind
   ·rename_i hl
    obtain⟨h1,_,h2⟩:=ha _ _ _ hl
    have:=h2 rfl;subst this
    rw[h1]
    exact⟨a,ha,.inr ⟨rfl,hw⟩⟩
   ·rename_i v k _ _ hl
    have h1:=(ha _ _ _ hl).1
    rw[h1]
    split at hw
    ·obtain⟨b,hv,ht,hf⟩:=hw
     refine⟨_,ha.az (_k':= .un) hl hv,?_⟩
     subst hv
     cases b with
     |true=>grind
     |false=>grind
    ·obtain⟨b,hv,ht,hf⟩:=hw
     refine⟨_,ha.az (_k':= .un) hl hv,?_⟩
     subst hv
     cases b with
     |true=>grind
     |false=>grind
   ·cases hw
def M9 (a:Ek) (op:Op):Option Operand:=match op with
 |.pick (.tmp c) x y=>(match a.lk c with
  |some (_,.b true)=>some x
  |some (_,.b false)=>some y
  |_=>none)
 |.move x=>some x
 |.assign x=>some x
 |_=>none
theorem L8 {a:Ek} {env:List Value} (ha:dC a env) {op:Op} {x:Operand} (h:M9 a op=some x):kindOf op= .qG∧∀hh,aM P (bB P env) hh op=some (bB P env x):=by
 unfold M9 at h
 split at h
 ·rename_i c x y
  split at h
  ·rename_i hl
   cases h
   obtain⟨h1,h2,_⟩:=ha _ _ _ hl
   exact⟨rfl,fun hh=>by simp[aM,bB,List.getD_eq_getElem?_getD,h1,h2 true rfl]⟩
  ·rename_i hl
   cases h
   obtain⟨h1,h2,_⟩:=ha _ _ _ hl
   exact⟨rfl,fun hh=>by simp[aM,bB,List.getD_eq_getElem?_getD,h1,h2 false rfl]⟩
  ·cases h
 ·cases h;exact⟨rfl,fun _=>rfl⟩
 ·cases h;exact⟨rfl,fun _=>rfl⟩
 ·cases h
def Za (a:Ek) (x:Operand):Kn:=match x with
 |.const (.bool y)=> .b y
 |.tmp t=>(match a.lk t with
  |some (_,.b y)=> .b y
  |_=> .un)
 |_=> .un
theorem Qy {a:Ek} {env:List Value} (ha:dC a env) {x:Operand}:(∀y,Za a x= .b y→bB P env x= .bool y)∧Za a x≠.sk:=by
 unfold Za
 split
 ·exact⟨fun y h=>(by cases h;simp[bB,cG]),fun h=>(by cases h)⟩
 ·split
  ·rename_i hl
   obtain⟨h1,h2,_⟩:=ha _ _ _ hl
   exact⟨fun y h=>(by cases h;simp[bB,List.getD_eq_getElem?_getD,h1,h2 _ rfl]),fun h=>(by cases h)⟩
  grind
 grind
def R1 (M:Nat) (op:Op) (d:Option Tmp) (q:Kn→Prop):Prop:=match op,d with
 |.assign _,_=>hP (q .un)
 |_,some d=>(match Nat.beq (Nat.land (Nat.shiftRight M d) 1) 1 with
  |true=>q .un
  |false=>q .ex)
 |_,none=>q .un
theorem Jo {M:Nat} {op:Op} {d:Option Tmp} {q:Kn→Prop} (h:R1 M op d q):q .un∨q .ex:=by
 unfold R1 at h
 split at h
 ·exact .inl h
 ·grind
 ·exact .inl h
def bq (M:Nat) (op:Op) (d:Option Tmp) (a:Ek) (x:Operand) (q:Kn→Prop):Prop:=match Za a x with
 |.b y=>q (.b y)
 |_=>R1 M op d q
theorem Wf {M:Nat} {op:Op} {d:Option Tmp} {a:Ek} {x:Operand} {q:Kn→Prop} (h:bq M op d a x q):(∃y,Za a x= .b y∧q (.b y))∨q .un∨q .ex:=by
 unfold bq at h
 split at h
 ·grind
 ·exact .inr (Jo h)
def im:Op→List Operand
 |.move x|.assign x|.load _ x|.nilCheck x|.unOp _ _ x|.convert _ _ x|.fieldAddr _ x _|.field _ x _|.box _ x=>[x]
 |.store _ x y|.binOp _ _ x y _|.indexAddr _ x y|.index _ x y=>[x,y]
 |.slice _ x lo hi mx=>x::(lo.toList++(hi.toList++mx.toList))
 |.call c=>c.args.toList
 |_=>[]
def dw (t:Nat):Ek→(Ek→Prop)→Prop
 |[],q=>hP (q [])
 |(t',v,k)::a,q=>(match Nat.beq t' t with
  |true=>(match k with
   |.ex=>q ((t',undef,.no)::a)
   |k=>q ((t',v,k)::a))
  |false=>dw t a fun a=>q ((t',v,k)::a))
theorem Vv {t:Nat}:∀{a:Ek} {q:Ek→Prop},dw t a q→∃a',(∀x r,Ek.lk a' x=some r→a.lk x=some r)∧q a'
 |[],_,h=>⟨_,fun _ _ h=>h,h⟩
 |(t',v,k)::a,q,h=>by
  unfold dw at h
  split at h
  ·split at h
   ·refine⟨_,fun x r hx=>?_,h⟩
    unfold Ek.lk at hx ⊢
    grind
   grind
  ·obtain⟨a1,h1,h2⟩:=Vv h
   refine⟨_,fun x r hx=>?_,h2⟩
   unfold Ek.lk at hx ⊢
   grind
def O0:List Operand→Ek→(Ek→Prop)→Prop
 |[],a,q=>hP (q a)
 |x::l,a,q=>(match x with
  |.tmp t=>dw t a fun a=>O0 l a q
  |_=>O0 l a q)
theorem E3 {env:List Value}:∀{l:List Operand} {a:Ek} {q:Ek→Prop},dC a env→O0 l a q→∃a',dC a' env∧q a'
 |[],a,_,ha,h=>⟨a,ha,h⟩
 |x::l,a,q,ha,h=>by
  unfold O0 at h
  split at h
  ·obtain⟨a1,h1,h2⟩:=Vv h
   exact E3 (l:=l) (fun t v k hl=>ha t v k (h1 _ _ hl)) h2
  ·exact E3 (l:=l) ha h
def fk (P:Program) (K:FuncId→List Value→Option fM) (a:Ek) (h:AH) (q:Value→AH→Prop) (op:Op):Prop:=match kindOf op with
 |.qG=>wL P a h (fun v=>q v h) op
 |.alloc=>wA P a (F5 h) (Hu h) q op
 |.store=>wH P K a h q op
 |.call=>wH P K a h q op
 |.other=>hF
theorem V3 {a:Ek} {env:List Value} (ha:dC a env) {h:AH} {q:Value→AH→Prop} {op:Op} (hw:fk P K a h q op):∃n v h',gW P (run P K n) env h op=some (v,h')∧q v h':=by
 refine Kf ?_
 unfold fk at hw
 unfold wpOp
 split at hw<;>(rename_i hk;simp only[hk])
 ·exact Zt ha hw
 ·exact Zn ha (fun W e l n c k hh=>hh) hw
 ·exact Xt ha hw
 ·exact Xt ha hw
 ·exact hw
def Xl (P:Program) (K:FuncId→List Value→Option fM) (M n:Nat) (jV:Nat→Option Tmp) (o:Oper) (ih:Ek→AH→(Ek→AH→Prop)→Prop) (a:Ek) (h:AH) (q:Ek→AH→Prop):Prop:=match o with
 |⟨dst,op,_,_,_,guard⟩=>wG jV a guard
  (fun a=>O0 (im op) a fun a'=>(match M9 a op with
   |some x=>bq M op dst a x fun k=>nO P a x fun v=>Ec n a' dst v k fun a=>ih a h q
   |none=>R1 M op dst fun k=>fk P K a h (fun v h'=>Ec n a' dst v k fun a=>ih a h' q) op))
  (fun a=>Ec n a dst undef .sk fun a=>ih a h q)
def T6 (P:Program) (K:FuncId→List Value→Option fM) (M n:Nat) (jV:Nat→Option Tmp) (os:List Oper):Ek→AH→(Ek→AH→Prop)→Prop:=
 List.rec (fun a h q=>q a h) (fun o _ ih=>Xl P K M n jV o ih) os
theorem bo {M n:Nat} {op:Op} {dst:Option Tmp} {a a':Ek} {env:List Value} {x:Operand} {q:Ek→Prop} (ha:dC a env) (ha':dC a' env) (hn:env.length=n) (hb:bq M op dst a x fun k=>nO P a x fun v=>Ec n a' dst v k q):
  ∃a2,dC a2 (fP env dst (bB P env x))∧(fP env dst (bB P env x)).length=n∧q a2:=by
 obtain⟨k1,_⟩:=Qy (P:=P) (x:=x) ha
 rcases Wf hb with⟨y,hy,hb⟩|hb|hb
 ·exact lC ha' hn (fun z e=>by grind) (fun e=>by cases e) (cY ha hb)
 ·exact lC ha' hn (fun _ e=>by cases e) (fun e=>by cases e) (cY ha hb)
 ·exact lC ha' hn (fun _ e=>by cases e) (fun e=>by cases e) (cY ha hb)
theorem Kt {M n:Nat} {all:Array Oper}:∀{os:List Oper} {a:Ek} {env:List Value} {h:AH} {q:Ek→AH→Prop},dC a env→env.length=n→T6 P K M n (fun j=>(all[j]?).bind (·.dst)) os a h q→
  ∃m o h' a',run P K m (.ops all os env) h=some (o,h')∧dC a' o.env∧o.env.length=n∧q a' h'
 |[],a,env,h,q,ha,hn,hw=>⟨1,_,h,a,rfl,ha,hn,hw⟩
 |o::os,a,env,h,q,ha,hn,hw=>by
  change Xl P K M n (fun j=>(all[j]?).bind (·.dst)) o (T6 P K M n (fun j=>(all[j]?).bind (·.dst)) os) a h q at hw
  unfold Xl at hw
  obtain⟨a1,ha1,hb⟩:=ah (o:=o) ha hw
  rcases hb with⟨hwant,hb⟩|⟨hwant,hb⟩
  ·obtain⟨a',ha',hb⟩:=E3 ha1 hb
   obtain⟨n1,v,h1,a2,hs,ha2,hn2,hrest⟩:∃n1 v h1 a2,gW P (run P K n1) env h o.op=some (v,h1)∧dC a2 (fP env o.dst v)∧(fP env o.dst v).length=n∧T6 P K M n (fun j=>(all[j]?).bind (·.dst)) os a2 h1 q:=by
    split at hb
    ·rename_i x hx
     obtain⟨hk,hl⟩:=L8 (P:=P) ha1 hx
     obtain⟨a2,h2,h3,h4⟩:=bo ha1 ha' hn hb
     exact⟨0,_,h,a2,by simp only[gW,hk,hl];rfl,h2,h3,h4⟩
    ·rcases Jo hb with hb|hb
     ·obtain⟨n1,v,h1,hs,hp⟩:=V3 ha1 hb
      obtain⟨a2,h2,h3,h4⟩:=lC ha' hn (fun _ e=>by cases e) (fun e=>by cases e) hp
      grind
     ·obtain⟨n1,v,h1,hs,hp⟩:=V3 ha1 hb
      obtain⟨a2,h2,h3,h4⟩:=lC ha' hn (fun _ e=>by cases e) (fun e=>by cases e) hp
      grind
   obtain⟨n2,out,h',a',hr,hq⟩:=Kt ha2 hn2 hrest
   refine⟨max n1 n2+1,out,h',a',?_,hq⟩
   show lH P (fun t h=>run P K (max n1 n2) t h) all (o::os) env h=_
   simp only[lH,hwant]
   rw[show(fun t h=>run P K (max n1 n2) t h)=run P K (max n1 n2) from rfl,D3 (gM (Nat.le_max_left n1 n2)) hs]
   exact gM (Nat.le_max_right n1 n2) _ _ _ hr
  ·obtain⟨a2,h2,h3,h4⟩:=lC ha1 hn (fun _ e=>by cases e) (fun _=>rfl) hb
   obtain⟨n2,out,h',a',hr,hq⟩:=Kt h2 h3 h4
   refine⟨n2+1,out,h',a',?_,hq⟩
   show lH P (fun t h=>run P K n2 t h) all (o::os) env h=_
   simp only[lH,hwant]
   exact hr
end
end Go.Ab
end
section
namespace Go.Ab
noncomputable section
variable {P:Program} {K:FuncId→List Value→Option fM}
def Y7 (P:Program) (a:Ek) (h:AH) (q:Value→Prop):Op→Prop
 |.call c=>(match c.callee with
  |.builtin b=>(match eY b with
   |true=>I7 P a c.args.toList fun l=>dx P h (fun v _=>q v) c.argTypes b l
   |false=>hF)
  |_=>hF)
 |op=>wL P a h q op
theorem V0 {a:Ek} {env:List Value} (ha:dC a env) {h:AH} {q:Value→Prop} {op:Op} (hw:Y7 P a h q op):eB op=true∧∃v,cH P (bB P env) h op=some v∧q v:=by
 unfold Y7 at hw
 split at hw
 ·split at hw
  ·rename_i hc
   split at hw
   ·rename_i hl
    obtain⟨v,h',h1,h2⟩:=qB (Vx (tD ha hw))
    exact⟨by simp[eB,hc,hl],v,by simp only[cH,hc,hl,if_true,h1];rfl,h2⟩
   ·cases hw
  ·cases hw
 ·obtain⟨hk,v,h1,h2⟩:=sX (Zt ha hw)
  refine⟨?_,v,?_,h2⟩
  ·cases op<;>first|(simp[eB,hk];done)|(simp[kindOf] at hk)
  ·cases op<;>first|exact h1|(simp[kindOf] at hk)
structure WR where
 a:Ek
 h:AH
 v:Value
 dq:Bool
def gh (P:Program) (K:FuncId→List Value→Option fM) (i r:Nat) (a:Ek) (h:AH) (q:Value→AH→Prop) (op:Op):Prop:=
 match eB op with
 |true=>Y7 P a h (fun v=>q v h) op
 |false=>(match kindOf op with
  |.alloc=>(match i with
   |0=>wA P a (qD h r) (rP h r) q op
   |i=>wA P a (qD h (r+i)) (rP h (r+i)) q op)
  |_=>wH P K a h q op)
theorem Vz {all:List Oper} {r i:Nat} {a:Ek} {env:List Value} (ha:dC a env) {h:AH} {q:Value→AH→Prop} {o:Oper} (hwant:cB ⟨all⟩ env o=some true) (hw:gh P K i r a h q o.op):
  ∃n v h',dA P (run P K n) all r i env h o=some (v,h')∧q v h':=by
 unfold gh at hw
 unfold dA
 simp only[hwant]
 split at hw
 ·rename_i hl
  obtain⟨_,v,h1,h2⟩:=V0 ha hw
  exact⟨0,v,h,by simp[hl,h1],h2⟩
 ·rename_i hl
  split at hw
  ·rename_i hk
   have key:∀{j:Nat},wA P a (qD h j) (rP h j) q o.op→j=r+i→∃n v h',dA P (run P K n) all r i env h o=some (v,h')∧q v h':=by
    intro j hj e
    subst e
    obtain⟨_,b,f,h1,h2⟩:=sO (Zn ha (fun W e l n c k hh=>hh) hj)
    exact⟨0,_,_,by simp[dA,hwant,hl,hk,h1],h2⟩
   have:=(show∃n v h',dA P (run P K n) all r i env h o=some (v,h')∧q v h' by
    split at hw
    ·exact key hw rfl
    ·exact key hw rfl)
   unfold dA at this
   simpa only[hwant] using this
  ·obtain⟨hk,n,v,h',h1,h2⟩:=nF (fun g=>rfl) (Xt ha hw)
   refine⟨n,v,h',?_,h2⟩
   have:(kindOf o.op==Kind.alloc)=false:=by rcases hk with h|h<;>rw[h]<;>rfl
   simp[this,hl,h1]
def Je:List (Nat×Nat)→Nat→Bool
 |[],_=>false
 |(a,_)::l,i=>(match Nat.beq a i with
  |true=>true
  |false=>Je l i)
def dt (fl:List (Nat×Nat)) (i:Nat) (a:Ek) (rs:List WR) (k:(AH→Value→Bool→(List WR→Prop)→Prop)→Prop):Prop:=match fl with
 |[]=>hP (k fun _ _ _ q=>q rs)
 |fl=>(match Je fl i with
  |true=>k fun h v r q=>q (⟨a,h,v,r⟩::rs)
  |false=>k fun h _ _ q=>q (⟨[],h,undef,true⟩::rs))
def Rl (fl:List (Nat×Nat)):List WR→List WR→Prop
 |[],[]=>True
 |x::rs,y::gs=>(x=y∨Je fl gs.length=false∧x.h=y.h)∧Rl fl rs gs
 |_,_=>False
theorem Vs {fl:List (Nat×Nat)} {a:Ek} {rs gs:List WR} {i:Nat} {k:(AH→Value→Bool→(List WR→Prop)→Prop)→Prop} (hi:gs.length=i) (hg:fl≠[]→Rl fl rs gs) (hw:dt fl i a rs k):
  ∃R,k R∧∀h v r q,R h v r q→∃rs',(fl≠[]→Rl fl rs' (⟨a,h,v,r⟩::gs))∧q rs':=by
 unfold dt at hw
 split at hw
 ·exact⟨_,hw,fun h v r q hq=>⟨rs,fun e=>absurd rfl e,hq⟩⟩
 ·split at hw
  ·exact⟨_,hw,fun h v r q hq=>⟨⟨a,h,v,r⟩::rs,fun e=>⟨.inl rfl,hg e⟩,hq⟩⟩
  ·rename_i hm
   exact⟨_,hw,fun h v r q hq=>⟨⟨[],h,undef,true⟩::rs,fun e=>⟨.inr ⟨by rw[hi];exact hm,rfl⟩,hg e⟩,hq⟩⟩
theorem Qq {fl:List (Nat×Nat)}:∀{rs gs:List WR},Rl fl rs gs→rs.length=gs.length∧∀(j:Nat) (x y:WR),rs.reverse[j]?=some x→gs.reverse[j]?=some y→x=y∨Je fl j=false∧x.h=y.h
 |[],[],_=>⟨rfl,fun j x y hx=>by simp at hx⟩
 |x::rs,y::gs,h=>by
  obtain⟨h1,h2⟩:=h
  obtain⟨h3,h4⟩:=Qq h2
  refine⟨by simp[h3],fun j u w hu hw=>?_⟩
  rw[List.reverse_cons] at hu hw
  rcases Nat.lt_trichotomy j gs.length with hj|hj|hj
  ·rw[List.getElem?_append_left (by simpa [h3] using hj)] at hu
   rw[List.getElem?_append_left (by simpa using hj)] at hw
   exact h4 j u w hu hw
  ·subst hj
   rw[List.getElem?_append_right (by simp[h3])] at hu
   rw[List.getElem?_append_right (by simp)] at hw
   simp[h3] at hu hw
   subst hu;subst hw
   exact h1
  ·rw[List.getElem?_eq_none (by simp;omega)] at hw
   cases hw
def ff (P:Program) (K:FuncId→List Value→Option fM) (M n:Nat) (jV:Nat→Option Tmp) (r:Nat) (fl:List (Nat×Nat)) (o:Oper) (ih:Nat→Ek→AH→List WR→(List WR→Ek→AH→Prop)→Prop) (i:Nat) (a:Ek) (h:AH) (rs:List WR) (q:List WR→Ek→AH→Prop):Prop:=match o with
 |⟨dst,op,_,_,_,guard⟩=>nK (i+1) fun j=>wG jV a guard
  (fun a=>dt fl i a rs fun R=>O0 (im op) a fun a'=>(match M9 a op with
   |some x=>bq M op dst a x fun k=>nO P a x fun v=>Ec n a' dst v k fun a'=>R h v true fun rs=>ih j a' h rs q
   |none=>R1 M op dst fun k=>gh P K i r a h (fun v h'=>Ec n a' dst v k fun a'=>R h v true fun rs=>ih j a' h' rs q) op))
  (fun a=>dt fl i a rs fun R=>Ec n a dst undef .sk fun a'=>R h undef false fun rs=>ih j a' h rs q)
def Y0 (P:Program) (K:FuncId→List Value→Option fM) (M n:Nat) (jV:Nat→Option Tmp) (r:Nat) (fl:List (Nat×Nat)) (os:List Oper):Nat→Ek→AH→List WR→(List WR→Ek→AH→Prop)→Prop:=
 List.rec (fun _ a h rs q=>q rs a h) (fun o _ ih=>ff P K M n jV r fl o ih) os
def xX (all:List Oper) (rs:List WR) (es:List (List Value)):Prop:=rs.length=es.length∧∀(i:Nat) (o:Oper) (x:WR) (e:List Value),all[i]?=some o→rs[i]?=some x→es[i]?=some e→dC x.a e∧cB ⟨all⟩ e o=some x.dq
theorem xX.snoc {all:List Oper} {rs:List WR} {es:List (List Value)} (hk:xX all rs es) {o:Oper} {x:WR} {e:List Value} (ho:all[rs.length]?=some o) (h1:dC x.a e) (h2:cB ⟨all⟩ e o=some x.dq):xX all (rs++[x]) (es++[e]):=by
 refine⟨by simp[hk.1],fun i o' x' e' ho' hx he=>?_⟩
 rcases Nat.lt_trichotomy i rs.length with hi|hi|hi
 ·rw[List.getElem?_append_left hi] at hx
  rw[List.getElem?_append_left (hk.1▸hi)] at he
  exact hk.2 i o' x' e' ho' hx he
 ·subst hi
  rw[ho] at ho';cases ho'
  simp at hx;subst hx
  rw[hk.1] at he;simp at he;subst he
  exact⟨h1,h2⟩
 ·rw[List.getElem?_eq_none (by simp;omega)] at hx
  cases hx
theorem Lr {M n:Nat} {all:List Oper} {r:Nat} {fl:List (Nat×Nat)}:∀{os:List Oper} {i:Nat} {a:Ek} {env:List Value} {h:AH} {rs gs:List WR} {es:List (List Value)} {q:List WR→Ek→AH→Prop},dC a env→env.length=n→gs.length=i→(∀j,all[i+j]?=os[j]?)→xX all gs.reverse es→(fl≠[]→Rl fl rs gs)→
  Y0 P K M n (fun j=>((⟨all⟩:Array Oper)[j]?).bind (·.dst)) r fl os i a h rs q→
  ∃m rs2 es2 e h' a',eC P (run P K m) all r i os env h=some (List.zipWith (fun x e=>⟨e,x.h,x.v⟩) rs2 es2,e,h')∧rs2.length=es2.length∧xX all (gs.reverse++rs2) (es++es2)∧dC a' e∧e.length=n∧∃rs',(fl≠[]→Rl fl rs' (rs2.reverse++gs))∧q rs' a' h'
 |[],i,a,env,h,rs,gs,es,q,ha,hn,_,_,hok,hg,hw=>⟨0,[],[],env,h,a,rfl,rfl,by simpa using hok,ha,hn,rs,by simpa using hg,hw⟩
 |o::os,i,a,env,h,rs,gs,es,q,ha,hn,hlen,hall,hok,hg,hw=>by
  have hw:ff P K M n (fun j=>((⟨all⟩:Array Oper)[j]?).bind (·.dst)) r fl o (Y0 P K M n (fun j=>((⟨all⟩:Array Oper)[j]?).bind (·.dst)) r fl os) i a h rs q:=hw
  unfold ff at hw
  have hw:=R0 hw
  obtain⟨a1,ha1,hb⟩:=ah (o:=o) ha hw
  have ho:all[gs.reverse.length]?=some o:=by have:=hall 0;rw[List.length_reverse,hlen];simpa using this
  have hall':∀j,all[i+1+j]?=os[j]?:=fun j=>by
   have:=hall (j+1)
   rw[show i+1+j=i+(j+1) by omega,this];simp
  rcases hb with⟨hwant,hb⟩|⟨hwant,hb⟩
  ·obtain⟨R,hb,hR⟩:=Vs hlen hg hb
   obtain⟨n1,v,h1,a2,hs,ha2,hn2,rs',hg',hrest⟩:∃n1 v h1 a2,dA P (run P K n1) all r i env h o=some (v,h1)∧dC a2 (fP env o.dst v)∧(fP env o.dst v).length=n∧
     ∃rs',(fl≠[]→Rl fl rs' (⟨a1,h,v,true⟩::gs))∧Y0 P K M n (fun j=>((⟨all⟩:Array Oper)[j]?).bind (·.dst)) r fl os (i+1) a2 h1 rs' q:=by
    obtain⟨a',ha',hb⟩:=E3 ha1 hb
    split at hb
    ·rename_i x hx
     obtain⟨hk,hl⟩:=L8 (P:=P) ha1 hx
     have hlt:eB o.op=true:=by
      cases hop:o.op<;>rw[hop] at hk<;>first|(simp[eB,kindOf];done)|(simp[kindOf] at hk)
     have hlv:cH P (bB P env) h o.op=some (bB P env x):=by
      have:=hl h
      cases hop:o.op<;>rw[hop] at hk this<;>first|exact this|(simp[kindOf] at hk)
     have fin:∀{a2:Ek} {v:Value},v=bB P env x→dC a2 (fP env o.dst (bB P env x))→(fP env o.dst (bB P env x)).length=n→R h v true (fun rs=>Y0 P K M n (fun j=>((⟨all⟩:Array Oper)[j]?).bind (·.dst)) r fl os (i+1) a2 h rs q)→
       ∃n1 v h1 a2,dA P (run P K n1) all r i env h o=some (v,h1)∧dC a2 (fP env o.dst v)∧(fP env o.dst v).length=n∧∃rs',(fl≠[]→Rl fl rs' (⟨a1,h,v,true⟩::gs))∧Y0 P K M n (fun j=>((⟨all⟩:Array Oper)[j]?).bind (·.dst)) r fl os (i+1) a2 h1 rs' q:=by
      intro a2 v e h2 h3 h4
      subst e
      exact⟨0,_,h,a2,by simp[dA,hwant,hlt,hlv],h2,h3,hR _ _ _ _ h4⟩
     obtain⟨k1,_⟩:=Qy (P:=P) (x:=x) ha1
     rcases Wf hb with⟨y,hy,hb⟩|hb|hb
     ·have hb:=cY ha1 hb
      obtain⟨a2,h2,h3,h4⟩:=lC ha' hn (fun z e=>by cases e;exact k1 _ hy) (fun e=>by cases e) hb
      exact fin rfl h2 h3 h4
     ·have hb:=cY ha1 hb
      obtain⟨a2,h2,h3,h4⟩:=lC ha' hn (fun _ e=>by cases e) (fun e=>by cases e) hb
      exact fin rfl h2 h3 h4
     ·have hb:=cY ha1 hb
      obtain⟨a2,h2,h3,h4⟩:=lC ha' hn (fun _ e=>by cases e) (fun e=>by cases e) hb
      exact fin rfl h2 h3 h4
    ·rcases Jo hb with hb|hb
     ·obtain⟨n1,v,h1,hs,hp⟩:=Vz ha1 hwant hb
      obtain⟨a2,h2,h3,h4⟩:=lC ha' hn (fun _ e=>by cases e) (fun e=>by cases e) hp
      exact⟨n1,v,h1,a2,hs,h2,h3,hR _ _ _ _ h4⟩
     ·obtain⟨n1,v,h1,hs,hp⟩:=Vz ha1 hwant hb
      obtain⟨a2,h2,h3,h4⟩:=lC ha' hn (fun _ e=>by cases e) (fun e=>by cases e) hp
      exact⟨n1,v,h1,a2,hs,h2,h3,hR _ _ _ _ h4⟩
   obtain⟨n2,rs2,es2,e,h',a',hr,hl2,hok2,ha3,hn3,hq⟩:=Lr (i:=i+1) ha2 hn2 (by simp[hlen]) hall' (by rw[List.reverse_cons];exact hok.snoc (x:=⟨a1,h,v,true⟩) ho ha1 hwant) hg' hrest
   refine⟨max n1 n2,⟨a1,h,v,true⟩::rs2,env::es2,e,h',a',?_,by simp[hl2],by simpa using hok2,ha3,hn3,by simpa using hq⟩
   simp only[eC,yE (gM (Nat.le_max_left n1 n2)) hs,rB (gM (Nat.le_max_right n1 n2)) _ hr]
   rfl
  ·obtain⟨R,hb,hR⟩:=Vs hlen hg hb
   obtain⟨a2,h2,h3,h4⟩:=lC ha1 hn (fun _ e=>by cases e) (fun _=>rfl) hb
   obtain⟨rs',hg',h4⟩:=hR _ _ _ _ h4
   obtain⟨n2,rs2,es2,e,h',a',hr,hl2,hok2,ha3,hn3,hq⟩:=Lr (i:=i+1) h2 h3 (by simp[hlen]) hall' (by rw[List.reverse_cons];exact hok.snoc (x:=⟨a1,h,undef,false⟩) ho ha1 hwant) hg' h4
   refine⟨n2,⟨a1,h,undef,false⟩::rs2,env::es2,e,h',a',?_,by simp[hl2],by simpa using hok2,ha3,hn3,by simpa using hq⟩
   have hs:dA P (run P K n2) all r i env h o=some (undef,h):=by simp only[dA,hwant]
   simp only[eC,hs,hr]
   rfl
def N7 (P:Program) (all:List Oper) (rs:List WR) (hEnd:AH) (x:Nat×Nat) (ih:Prop→Prop) (p:Prop):Prop:=match x with
 |(i,s)=>(match all[i]?,rs[i]? with
  |some o,some ⟨a,_,v,true⟩=>(match rs[s]? with
   |some ⟨_,h,_,_⟩=>Y7 P a h (fun x=>mL x v=true) o.op∧ih p
   |none=>Y7 P a hEnd (fun x=>mL x v=true) o.op∧ih p)
  |some _,some ⟨_,_,_,false⟩=>ih p
  |_,_=>hF)
def Tv (P:Program) (all:List Oper) (rs:List WR) (hEnd:AH) (fs:List (Nat×Nat)):Prop→Prop:=List.rec (fun p=>p) (fun x _ ih=>N7 P all rs hEnd x ih) fs
theorem Qj {all:List Oper} {rs:List WR} {es:List (List Value)} {hEnd:AH} (hok:xX all rs es) {p:Prop}:∀{fs:List (Nat×Nat)},Tv P all rs hEnd fs p→(fs.all (lL P all (List.zipWith (fun x e=>⟨e,x.h,x.v⟩) rs es) hEnd)=true)∧p
 |[],hw=>⟨rfl,hw⟩
 |(i,s)::fs,hw=>by
  change N7 P all rs hEnd (i,s) (Tv P all rs hEnd fs) p at hw
  unfold N7 at hw
  simp only at hw
  have hz:∀{j:Nat} {x:WR},rs[j]?=some x→∃e,es[j]?=some e∧(List.zipWith (fun x e=>(⟨e,x.h,x.v⟩:Rec)) rs es)[j]?=some ⟨e,x.h,x.v⟩:=by
   intro j x hx
   have hj:j<es.length:=by rw[←hok.1];exact(List.getElem?_eq_some_iff.1 hx).1
   exact⟨es[j],by simp[hj],by simp[List.getElem?_zipWith,hx,hj]⟩
  split at hw
  ·rename_i o a h v ho hx
   obtain⟨e,he,hze⟩:=hz hx
   obtain⟨ha,hwant⟩:=hok.2 i o _ e ho hx he
   have fin:∀{h2:AH},(match(List.zipWith (fun x e=>(⟨e,x.h,x.v⟩:Rec)) rs es)[s]? with|some q=>q.h|none=>hEnd)=h2→Y7 P a h2 (fun x=>mL x v=true) o.op∧Tv P all rs hEnd fs p→(((i,s)::fs).all (lL P all (List.zipWith (fun x e=>⟨e,x.h,x.v⟩) rs es) hEnd)=true)∧p:=by
    intro h2 hh ⟨h3,h4⟩
    obtain⟨h5,h6⟩:=Qj hok h4
    refine⟨?_,h6⟩
    obtain⟨_,u,hu,hv⟩:=V0 ha h3
    rw[List.all_cons,h5,Bool.and_true]
    cases hc:(List.zipWith (fun x e=>(⟨e,x.h,x.v⟩:Rec)) rs es)[s]?<;>(rw[hc] at hh;simp only at hh;subst hh;simp only[lL,ho,hze,hwant,hc,hu,hv])
   split at hw
   ·rename_i hs
    obtain⟨e2,_,hz2⟩:=hz hs
    exact fin (by rw[hz2]) hw
   ·rename_i hs
    have:(List.zipWith (fun x e=>(⟨e,x.h,x.v⟩:Rec)) rs es)[s]?=none:=by simp[List.getElem?_zipWith,hs]
    exact fin (by rw[this]) hw
  ·rename_i o a h v ho hx
   obtain⟨e,he,hze⟩:=hz hx
   obtain⟨ha,hwant⟩:=hok.2 i o _ e ho hx he
   obtain⟨h5,h6⟩:=Qj hok hw
   refine⟨?_,h6⟩
   rw[List.all_cons,h5,Bool.and_true]
   simp only[lL,ho,hze,hwant]
  ·cases hw
def du:List (Nat×Nat)→List (Nat×Nat)→Bool
 |[],[]=>true
 |(a,b)::l,(c,d)::m=>Nat.beq a c&&(Nat.beq b d&&du l m)
 |_,_=>false
theorem Wl:∀{l m:List (Nat×Nat)},du l m=true→l=m
 |[],[],_=>rfl
 |(a,b)::l,(c,d)::m,h=>by
  simp only[du,Bool.and_eq_true] at h
  rw[Nat.eq_of_beq_eq_true h.1,Nat.eq_of_beq_eq_true h.2.1,Wl h.2.2]
 |[],_::_,h=>by cases h
 |_::_,[],h=>by cases h
def V5 (P:Program) (ops:Array Oper) (fl:List (Nat×Nat)):Bool:=xG ops.toList&&(P.follows .mixedOrders|| !Region.departs ops)&&du (tS ops.toList) fl
def U2:List (Nat×List (Nat×Nat))→Nat→(List (Nat×Nat)→Prop)→Prop
 |[],_,q=>hP (q [])
 |(i,l)::F,id,q=>(match Nat.beq i id with
  |true=>q l
  |false=>U2 F id q)
theorem R9:∀{F:List (Nat×List (Nat×Nat))} {id:Nat} {q:List (Nat×Nat)→Prop},U2 F id q→∃l,q l
 |[],_,_,h=>⟨_,h⟩
 |_::F,_,_,h=>by
  unfold U2 at h
  split at h
  ·exact⟨_,h⟩
  ·exact R9 (F:=F) h
theorem C2 {all:List Oper} {rs gs:List WR} {hEnd:AH} {p:Prop} {fl:List (Nat×Nat)} (hl:rs.length=gs.length) (hg:∀(j:Nat) (x y:WR),rs[j]?=some x→gs[j]?=some y→x=y∨Je fl j=false∧x.h=y.h):
  ∀{fs:List (Nat×Nat)},(∀x∈fs,Je fl x.1=true)→Tv P all rs hEnd fs p→Tv P all gs hEnd fs p
 |[],_,hw=>hw
 |(i,s)::fs,hm,hw=>by
  change N7 P all rs hEnd (i,s) (Tv P all rs hEnd fs) p at hw
  show N7 P all gs hEnd (i,s) (Tv P all gs hEnd fs) p
  have ih:=C2 (hEnd:=hEnd) (all:=all) (p:=p) hl hg (fs:=fs) fun x hx=>hm x (List.mem_cons_of_mem _ hx)
  have hi:rs[i]?=gs[i]?:=by
   have h1:=hm (i,s) List.mem_cons_self
   rcases Nat.lt_or_ge i rs.length with hlt|hge
   ·have h2:rs[i]?=some rs[i]:=List.getElem?_eq_getElem hlt
    have h3:gs[i]?=some (gs[i]'(hl▸hlt)):=List.getElem?_eq_getElem _
    rcases hg i _ _ h2 h3 with h4|⟨h4,_⟩
    ·rw[h2,h3,h4]
    ·rw[h1] at h4;cases h4
   ·rw[List.getElem?_eq_none hge,List.getElem?_eq_none (hl▸hge)]
  unfold N7 at hw ⊢
  simp only at hw ⊢
  rw[←hi]
  split at hw
  ·split at hw
   ·rename_i a1 h1 v1 r1 hs
    have hlt:s<rs.length:=(List.getElem?_eq_some_iff.1 hs).1
    have h3:gs[s]?=some (gs[s]'(hl▸hlt)):=List.getElem?_eq_getElem _
    have h4:h1=(gs[s]'(hl▸hlt)).h:=by
     rcases hg s _ _ hs h3 with h4|⟨_,h4⟩
     ·rw[←h4]
     ·exact h4
    rw[h3]
    generalize gs[s]'(hl▸hlt)=y at h4
    subst h4
    exact⟨hw.1,ih hw.2⟩
   ·rename_i hs
    have h3:gs[s]?=none:=by
     rw[List.getElem?_eq_none_iff] at hs ⊢;omega
    rw[h3]
    exact⟨hw.1,ih hw.2⟩
  ·exact ih hw
  ·cases hw
theorem Rm:∀{fl:List (Nat×Nat)} {x:Nat×Nat},x∈fl→Je fl x.1=true
 |(a,b)::l,x,h=>by
  unfold Je
  split
  ·rfl
  ·rename_i e
   rcases List.mem_cons.1 h with rfl|h
   ·rw[Nat.beq_refl] at e;cases e
   ·exact Rm h
def fj (q:List WR→Prop):List WR→List WR→Prop
 |[],acc=>hP (q acc)
 |x::l,acc=>fj q l (x::acc)
theorem Wn {q:List WR→Prop}:∀{l acc:List WR},fj q l acc→q (l.reverse++acc)
 |[],_,h=>h
 |x::l,acc,h=>by have:=Wn (l:=l) h;simpa using this
def Vw (P:Program) (K:FuncId→List Value→Option fM) (M n:Nat) (F:List (Nat×List (Nat×Nat))) (id:Nat) (ops:Array Oper) (a:Ek) (h:AH) (q:Ek→AH→Prop):Prop:=
 U2 F id fun fl=>nK ops.size fun m=>Ua (V5 P ops fl) h m fun r h1=>(match fl with
  |[]=>Y0 P K M n (fun j=>(ops[j]?).bind (·.dst)) r [] ops.toList 0 a h1 [] fun _ a' h'=>q a' h'
  |fl=>Y0 P K M n (fun j=>(ops[j]?).bind (·.dst)) r fl ops.toList 0 a h1 [] fun rs a' h'=>fj (fun rs=>Tv P ops.toList rs h' fl (q a' h')) rs [])
theorem Un {M n:Nat} {F:List (Nat×List (Nat×Nat))} {id:Nat} {ops:Array Oper} {a:Ek} {env:List Value} (ha:dC a env) (hn:env.length=n) {h:AH} {q:Ek→AH→Prop} (hw:Vw P K M n F id ops a h q):∃m e h' a',kJ P (run P K m) ops env h=some (e,h')∧dC a' e∧e.length=n∧q a' h':=by
 obtain⟨fl,hw⟩:=R9 hw
 obtain⟨hc,hw⟩:=R0 hw
 unfold V5 at hc
 rw[Bool.and_eq_true] at hc
 have hfl:=Wl hc.2
 subst hfl
 obtain⟨m,rs2,es2,e,h',a',hr,hl,hok,ha2,hn2,hq⟩:∃m rs2 es2 e h' a',eC P (run P K m) ops.toList h.next 0 ops.toList env {h with next:=h.next+ops.size}=some (List.zipWith (fun x e=>⟨e,x.h,x.v⟩) rs2 es2,e,h')∧rs2.length=es2.length∧xX ops.toList rs2 es2∧dC a' e∧e.length=n∧Tv P ops.toList rs2 h' (tS ops.toList) (q a' h'):=by
  have h0:xX ops.toList ([]:List WR).reverse []:=⟨rfl,fun i o x e _ hx=>by simp at hx⟩
  split at hw
  ·rename_i e0
   obtain⟨m,rs2,es2,e,h',a',hr,hl,hok,ha2,hn2,rs',_,hq⟩:=Lr (all:=ops.toList) (r:=h.next) (i:=0) (gs:=[]) (es:=[]) ha hn rfl (fun j=>by simp) h0 (fun e=>absurd rfl e) hw
   exact⟨m,rs2,es2,e,h',a',hr,hl,by simpa using hok,ha2,hn2,by rw[e0];exact hq⟩
  ·rename_i e0
   obtain⟨m,rs2,es2,e,h',a',hr,hl,hok,ha2,hn2,rs',hrs,hq⟩:=Lr (all:=ops.toList) (r:=h.next) (i:=0) (rs:=[]) (gs:=[]) (es:=[]) ha hn rfl (fun j=>by simp) h0 (fun _=>trivial) hw
   have h1:=hrs (fun e=>e0 e)
   rw[List.append_nil] at h1
   obtain⟨h2,h3⟩:=Qq h1
   have h4:=Wn hq
   rw[List.append_nil] at h4
   have h5:=C2 (by simpa using h2) h3 (fun x hx=>Rm hx) h4
   rw[List.reverse_reverse] at h5
   exact⟨m,rs2,es2,e,h',a',hr,hl,by simpa using hok,ha2,hn2,h5⟩
 obtain⟨hf,hq⟩:=Qj hok hq
 refine⟨m,e,h',a',?_,ha2,hn2,hq⟩
 unfold kJ
 rw[if_pos hc.1,hr]
 simp only
 rw[if_pos hf]
end
end Go.Ab
end
section
namespace Go.Ab
noncomputable section
variable {P:Program} {K:FuncId→List Value→Option fM}
inductive It where
 |code (p:List Nat) (c:Code)|inBlock (id:Nat)|inLoop (p:List Nat) (b:Code)|inScope (b:Code)|beginRound
def It.it:It→Item
 |.code _ c=> .code c
 |.inBlock id=> .inBlock id
 |.inLoop _ b=> .inLoop b
 |.inScope b=> .inScope b
 |.beginRound=> .beginRound
abbrev vC (k:List It):List Item:=k.map It.it
def jA (b:Nat) (p:List Nat) (x:Code×List It):Code×List It:=match x.1,b with
 |.seq c d,0=>(c,.code (1::p) d::x.2)
 |.seq _ d,1=>(d,x.2)
 |.cond _ t _,0=>(t,x.2)
 |.cond _ _ e,1=>(e,x.2)
 |.block id c,0=>(c,.inBlock id::x.2)
 |.loop c,0=>(c,.inLoop (0::p) c::x.2)
 |.scope c,0=>(c,.inScope c::x.2)
 |.rangeFunc _ _ a c,0=>(a,[.beginRound,.code (1::p) c])
 |.rangeFunc _ _ _ c,1=>(c,[])
 |_,_=>(.skip,[])
def ctx (P:Program) (f:FuncId):List Nat→Code×List It
 |[]=>((A8 P f).getD .skip,[])
 |b::p=>jA b p (ctx P f p)
def Good (P:Program) (f:FuncId):List It→Prop
 |[]=>True
 |.code p c::k=>ctx P f p=(c,k)∧Good P f k
 |.inLoop p b::k=>ctx P f p=(b,.inLoop p b::k)∧Good P f k
 |_::k=>Good P f k
def nD (id:Nat):List It→Option (List It)
 |[]=>none
 |.inBlock i::k=>(match Nat.beq i id with
  |true=>some k
  |false=>nD id k)
 |_::k=>nD id k
theorem mZ {f:FuncId} {id:Nat}:∀{k k':List It},nD id k=some k'→exitTo id (vC k)=some (vC k')∧(Good P f k→Good P f k')
 |[],_,h=>by cases h
 |x::k,k',h=>by
  cases x with
  |inBlock i=>
   unfold nD at h
   split at h
   ·rename_i e
    cases h
    have:=Nat.eq_of_beq_eq_true e;subst this
    exact⟨by simp[vC,It.it,exitTo],fun g=>g⟩
   ·rename_i e
    obtain⟨h1,h2⟩:=mZ (f:=f) h
    refine⟨?_,fun g=>h2 g⟩
    have:(i==id)=false:=by simpa using Nat.ne_of_beq_eq_false e
    simpa [vC,It.it,exitTo,this] using h1
  |code p c=>obtain⟨h1,h2⟩:=mZ (f:=f) (k:=k) h;exact⟨h1,fun g=>h2 g.2⟩
  |inLoop p c=>obtain⟨h1,h2⟩:=mZ (f:=f) (k:=k) h;exact⟨h1,fun g=>h2 g.2⟩
  |inScope c=>obtain⟨h1,h2⟩:=mZ (f:=f) (k:=k) h;exact⟨h1,fun g=>h2 g⟩
  |beginRound=>obtain⟨h1,h2⟩:=mZ (f:=f) (k:=k) h;exact⟨h1,fun g=>h2 g⟩
theorem nE {id:Nat}:∀{k:List It},nD id k=none→exitTo id (vC k)=none
 |[],_=>rfl
 |x::k,h=>by
  cases x with
  |inBlock i=>
   unfold nD at h
   split at h
   ·cases h
   ·rename_i e
    have:(i==id)=false:=by simpa using Nat.ne_of_beq_eq_false e
    simpa [vC,It.it,exitTo,this] using nE h
  |code p c=>exact nE (k:=k) h
  |inLoop p c=>exact nE (k:=k) h
  |inScope c=>exact nE (k:=k) h
  |beginRound=>exact nE (k:=k) h
def iG:Nat→List It→List It
 |0,k=>k
 |n+1,k=>match k with
  |.code p c::k'=>(match c with
   |.skip=>iG n k'
   |.label _=>iG n k'
   |.seq a b=>iG n (.code (0::p) a:: .code (1::p) b::k')
   |.block id b=>iG n (.code (0::p) b:: .inBlock id::k')
   |.scope b=>iG n (.code (0::p) b:: .inScope b::k')
   |.loop b=>iG n (.code (0::p) b:: .inLoop (0::p) b::k')
   |.exit id=>(match nD id k' with
    |some k2=>iG n k2
    |none=>k)
   |_=>k)
  |.inBlock _::k'=>iG n k'
  |.inScope _::k'=>iG n k'
  |.inLoop p b::k'=>iG n (.code p b:: .inLoop p b::k')
  |_=>k
section
variable {f:FuncId} {p:List Nat} {k:List It} {a b c:Code} {id:Nat}
theorem Good.seq (g:Good P f (.code p (.seq a b)::k)):Good P f (.code (0::p) a:: .code (1::p) b::k):=by
 obtain⟨h1,h2⟩:=g
 exact⟨by simp only[ctx,h1,jA],by simp only[ctx,h1,jA],h2⟩
theorem Good.block (g:Good P f (.code p (.block id b)::k)):Good P f (.code (0::p) b:: .inBlock id::k):=by
 obtain⟨h1,h2⟩:=g
 exact⟨by simp only[ctx,h1,jA],h2⟩
theorem Good.scope (g:Good P f (.code p (.scope b)::k)):Good P f (.code (0::p) b:: .inScope b::k):=by
 obtain⟨h1,h2⟩:=g
 exact⟨by simp only[ctx,h1,jA],h2⟩
theorem Good.loop (g:Good P f (.code p (.loop b)::k)):Good P f (.code (0::p) b:: .inLoop (0::p) b::k):=by
 obtain⟨h1,h2⟩:=g
 exact⟨by simp only[ctx,h1,jA],by simp only[ctx,h1,jA],h2⟩
theorem Good.again (g:Good P f (.inLoop p b::k)):Good P f (.code p b:: .inLoop p b::k):=⟨g.1,g⟩
end
theorem jJ {f:FuncId}:∀(n:Nat) {k:List It},Good P f k→vC (iG n k)=iO n (vC k)∧Good P f (iG n k)
 |0,_,g=>⟨rfl,g⟩
 |_+1,[],g=>⟨rfl,g⟩
 |n+1,.inBlock _::k,g=>jJ n (k:=k) g
 |n+1,.inScope _::k,g=>jJ n (k:=k) g
 |n+1,.inLoop _ _::_,g=>jJ n g.again
 |_+1,.beginRound::_,g=>⟨rfl,g⟩
 |n+1,.code p c::k,g=>by
  cases c with
  |skip=>exact jJ n g.2
  |label _=>exact jJ n g.2
  |seq a b=>exact jJ n g.seq
  |block id b=>exact jJ n g.block
  |scope b=>exact jJ n g.scope
  |loop b=>exact jJ n g.loop
  |exit id=>
   show vC (match nD id k with|some k2=>iG n k2|none=>_)=(match exitTo id (vC k) with|some k2=>iO n k2|none=>_)∧Good P f (match nD id k with|some k2=>iG n k2|none=>_)
   cases hx:nD id k with
   |some k2=>
    obtain⟨h1,h2⟩:=mZ (P:=P) (f:=f) hx
    rw[h1]
    exact jJ n (h2 g.2)
   |none=>rw[nE hx];exact⟨rfl,g⟩
  |_=>exact⟨rfl,g⟩
end
end Go.Ab
end
section
namespace Go.Ab
noncomputable section
variable {P:Program} {K:FuncId→List Value→Option fM}
structure FT where
 L:List (Nat×List Nat)
 R:List (Nat×List Nat)
 hr:Bool
 M:Nat:=0
 F:List (Nat×List (Nat×Nat)):=[]
def fe (l:List (List FT)) (f:FuncId):FT:=((l[f/16]?).getD [])[f % 16]?.getD ⟨[],[],false,0,[]⟩
def dp:List Nat→List Nat→Bool
 |[],[]=>true
 |a::l,b::m=>(match Nat.beq a b with
  |true=>dp l m
  |false=>false)
 |_,_=>false
theorem Wh:∀{l m:List Nat},dp l m=true→l=m
 |[],[],_=>rfl
 |a::l,b::m,h=>by
  unfold dp at h
  split at h
  ·rename_i e;rw[Nat.eq_of_beq_eq_true e,Wh h]
  ·cases h
 |[],_::_,h=>by cases h
 |_::_,[],h=>by cases h
def da:List Nat→Nat
 |[]=>1
 |b::p=>2*da p+b
def Io:List (Nat×List Nat)→List Nat→Nat→(Nat→Nat→List Nat→Prop)→Prop
 |[],_,_,_=>hF
 |(n,lv)::L,p,i,q=>(match Nat.beq (da p) n with
  |true=>(match dp p.reverse (Cp n) with
   |true=>q i n lv
   |false=>hF)
  |false=>nK (i+1) fun i=>Io L p i q)
theorem Fi:∀{L:List (Nat×List Nat)} {p:List Nat} {i:Nat} {q:Nat→Nat→List Nat→Prop},Io L p i q→∃j n lv,L[j]?=some (n,lv)∧p=(Cp n).reverse∧q (i+j) n lv
 |[],_,_,_,h=>h.elim
 |(n,lv)::L,p,i,q,h=>by
  unfold Io at h
  split at h
  ·split at h
   ·rename_i e
    exact⟨0,n,lv,rfl,by rw[←Wh e,List.reverse_reverse],h⟩
   ·cases h
  ·obtain⟨j,n',lv',h1,h2,h3⟩:=Fi (R0 h)
   exact⟨j+1,n',lv',h1,h2,by rw[show i+(j+1)=i+1+j by omega];exact h3⟩
def Gt (a:Ek):List Nat→(List Value→Prop)→Prop
 |[],q=>q []
 |t::lv,q=>(match a.lk t with
  |some (v,_)=>Gt a lv fun vs=>q (v::vs)
  |none=>hF)
theorem Eo {a:Ek} {env:List Value} (ha:dC a env):∀{lv:List Nat} {q:List Value→Prop},Gt a lv q→q (lv.map fun t=>env.getD t undef)
 |[],_,h=>h
 |t::lv,q,h=>by
  unfold Gt at h
  split at h
  ·rename_i hl
   have h1:=(ha _ _ _ hl).1
   have:=Eo ha (lv:=lv) h
   simpa only[List.map_cons,List.getD_eq_getElem?_getD,h1,Option.getD_some] using this
  ·cases h
def Zj (P:Program) (K:FuncId→List Value→Option fM) (T:FT) (f:FuncId) (ro:Option Nat) (Q:Out→AH→Prop) (i:Nat) (ds:List Nat) (vs:List Value) (h:AH):Prop:=
 Pt P K f ro Q (Z7 P f) ((T.L[i]?).getD (0,[])).2 (.code (ctx P f (Cp ((T.L[i]?).getD (0,[])).1).reverse).1::vC (ctx P f (Cp ((T.L[i]?).getD (0,[])).1).reverse).2) ds vs h
def wE (T:FT) (a:Ek) (k:List It) (q:Nat→List Value→Prop):Prop:=match k with
 |.code p _::_=>Io T.L p 0 fun i _ lv=>Gt a lv fun vs=>q i vs
 |_=>hF
theorem Yp {T:FT} {f:FuncId} {ro:Option Nat} {Q:Out→AH→Prop} {ds:List Nat} {h:AH} {a:Ek} {env:List Value} {k:List It} (ha:dC a env) (hn:env.length=Z7 P f) (hg:Good P f k) (hw:wE T a k fun i vs=>Zj P K T f ro Q i ds vs h):Ok P K (.todo f ro ds env (vC k)) h Q:=by
 unfold wE at hw
 split at hw
 ·obtain⟨j,n,lv,h1,h2,h3⟩:=Fi hw
  have h3:=Eo ha h3
  simp only[Zj,Nat.zero_add,h1,Option.getD_some,←h2,hg.1] at h3
  have:=h3 (fun t=>env.getD t undef) rfl
  rwa [Di hn] at this
 ·cases hw
def Ht (P:Program) (a:Ek) (h:AH) (r:ResultVar) (ih:(List Value→Prop)→Prop) (p:List Value→Prop):Prop:=match r with
 |.tmp t=>(match a.lk t with
  |some (v,_)=>ih fun l=>p (v::l)
  |none=>hF)
 |.cell x t=>(match a.lk x with
  |some (v,_)=>(match fR P t with
   |some true=>Gf P t fun n=>aN (yS h n v) fun v=>ih fun l=>p (v::l)
   |some false=>aN (wO h v) fun v=>ih fun l=>p (v::l)
   |none=>hF)
  |none=>hF)
def Ot (P:Program) (a:Ek) (h:AH) (rs:List ResultVar):(List Value→Prop)→Prop:=List.rec (fun p=>p []) (fun r _ ih=>Ht P a h r ih) rs
theorem zT {a:Ek} {env:List Value} (ha:dC a env) {h:AH}:∀{rs:List ResultVar} {p:List Value→Prop},Ot P a h rs p→Fs P h env rs p
 |[],_,hw=>hw
 |.tmp t::rs,p,hw=>by
  have hw:Ht P a h (.tmp t) (Ot P a h rs) p:=hw
  unfold Ht at hw
  simp only at hw
  split at hw
  ·rename_i hl
   have h1:=(ha _ _ _ hl).1
   have:=zT ha (rs:=rs) hw
   simpa only[Fs,List.getD_eq_getElem?_getD,h1,Option.getD_some] using this
  ·cases hw
 |.cell x t::rs,p,hw=>by
  have hw:Ht P a h (.cell x t) (Ot P a h rs) p:=hw
  unfold Ht at hw
  simp only at hw
  split at hw
  ·rename_i hl
   have h1:=(ha _ _ _ hl).1
   simp only[Fs,List.getD_eq_getElem?_getD,h1,Option.getD_some]
   split at hw
   ·rename_i hg;simp only[hg]
    exact(lJ hw).2.mono fun v hv=>zT ha hv
   ·rename_i hg;simp only[hg]
    exact hw.mono fun v hv=>zT ha hv
   ·cases hw
  ·cases hw
def Vo (Q:Value→AH→Prop) (l:List Value) (h:AH):Prop:=match l with
 |[v]=>Q v h
 |l=>hP (Q (.tuple ⟨l⟩) h)
theorem Yd {Q:Value→AH→Prop} {h:AH}:(fun l=>Vo Q l h)=fun l=>Q (oneOf l) h:=funext fun l=>match l with
 |[]=>rfl
 |[_]=>rfl
 |_::_::_=>rfl
def Td (P:Program) (f:FuncId) (hr:Bool) (Q:Value→AH→Prop) (lv:oG) (ds:List Nat) (a:Ek) (h:AH):Prop:=match lv with
 |.exit _=>hF
 |_=>(match hr with
  |true=>aN (bQ ds h) fun h2=>Ot P a h2 ((P.funcs[f]?).elim [] fun fn=>fn.results.toList) fun l=>Vo Q l h2
  |false=>(match ds with
   |[]=>Ot P a h ((P.funcs[f]?).elim [] fun fn=>fn.results.toList) fun l=>Vo Q l h
   |_=>hF))
theorem S6 {f:FuncId} {hr:Bool} {Q:Value→AH→Prop} {lv:oG} {ds:List Nat} {a:Ek} {env:List Value} {h:AH} (ha:dC a env) (hw:Td P f hr Q lv ds a h):Js P f Q ⟨lv,ds,env,undef⟩ h:=by
 have key:(∀id,lv≠.exit id)→(aN (bQ ds h) fun h2=>Ot P a h2 ((P.funcs[f]?).elim [] fun fn=>fn.results.toList) fun l=>Vo Q l h2)→Js P f Q ⟨lv,ds,env,undef⟩ h:=by
  intro hne ⟨h2,hc,hk⟩
  simp only[Yd] at hk
  refine Kp ?_
  unfold X3
  cases lv with
  |exit id=>exact absurd rfl (hne id)
  |fU=>exact⟨h2,hc,zT ha hk⟩
  |ret=>exact⟨h2,hc,zT ha hk⟩
 unfold Td at hw
 split at hw
 ·cases hw
 ·rename_i hne
  split at hw
  ·exact key (fun id e=>hne id e) hw
  ·split at hw
   ·exact key (fun id e=>hne id e) ⟨h,rfl,hw⟩
   ·cases hw
end
end Go.Ab
end
section
namespace Go.Ab
noncomputable section
variable {P:Program} {K:FuncId→List Value→Option fM}
def Sv:List It→Bool
 |[]=>true
 |.code _ .ret::_=>true
 |.code _ (.exit _)::_=>true
 |_=>false
def Kl (k:List It):Bool:=match iG 60 k with
 |.code _ (.region _ _ _)::k'=>Sv (iG 60 k')
 |k'=>Sv k'
def fy (P:Program) (K:FuncId→List Value→Option fM) (f:FuncId) (m:Nat) (fv:Value) (num:Nat) (lv:List Nat) (vs:List Value) (d:Nat) (h:AH) (q:Option Code→AH→Prop):Prop:=
 ∀e:Nat→Value,lv.map e=vs→F5 h (lp P f (Cp num) m e d .ready none) fun l h2=>V2 P K fv l h2 fun _ h3=>aN (vZ h3 l) fun r=>(match r with|(pd,h4)=>q pd h4)
def gx (P:Program) (K:FuncId→List Value→Option fM) (E:List Nat→Ek→List It→AH→Prop) (F:oG→List Nat→Ek→AH→Prop) (T:FT) (f:FuncId) (m:Nat) (ro:Option Nat) (ih:List Nat→Ek→List It→AH→Prop) (ds:List Nat) (a:Ek) (k:List It) (h:AH):Prop:=(match k with
  |[]=>F .fU ds a h
  |.code p c::k=>(match c with
   |.skip=>ih ds a k h
   |.label _=>ih ds a k h
   |.seq x y=>ih ds a (.code (0::p) x:: .code (1::p) y::k) h
   |.cond c t e=>(match Za a c with
    |.b true=>ih ds a (.code (0::p) t::k) h
    |.b false=>ih ds a (.code (1::p) e::k) h
    |_=>nO P a c fun v=>Br v
     (match Kl (.code (0::p) t::k) with
     |true=>ih ds a (.code (0::p) t::k) h
     |false=>E ds a (iG 60 (.code (0::p) t::k)) h)
     (match Kl (.code (1::p) e::k) with
     |true=>ih ds a (.code (1::p) e::k) h
     |false=>E ds a (iG 60 (.code (1::p) e::k)) h))
   |.block id b=>ih ds a (.code (0::p) b:: .inBlock id::k) h
   |.loop b=>E ds a (iG 60 (.code (0::p) b:: .inLoop (0::p) b::k)) h
   |.scope b=>ih ds a (.code (0::p) b:: .inScope b::k) h
   |.exit id=>(match nD id k with
    |some k'=>ih ds a k' h
    |none=>(match ro with
     |some _=>F (.exit id) ds a h
     |none=>hF))
   |.ret=>F .ret ds a h
   |.region _ ops false=>T6 P K T.M m (fun j=>(ops[j]?).bind (·.dst)) ops.toList a h fun a' h'=>ih ds a' k h'
   |.region id ops true=>Vw P K T.M m T.F id ops a h fun a' h'=>ih ds a' k h'
   |.rangeFunc fv _ _ body=>nO P a fv fun fv=>Io T.R p 0 fun _ num lv=>Gt a lv fun vs=>(match ro with
    |none=>F5 h (.marks true) fun d h1=>fy P K f m fv num lv vs d h1 fun pd h'=>Ak pd (ih (d::ds) a k h') (F .ret (d::ds) a h')
      ((fL body).map fun id=>(id,(match nD id k with
       |some k'=>ih (d::ds) a k' h'
       |none=>hF)))
    |some l=>aN (mE h l) fun d=>fy P K f m fv num lv vs d h fun pd h'=>Ak pd (ih ds a k h') (F .ret ds a h')
      ((fL body).map fun id=>(id,(match nD id k with
       |some k'=>ih ds a k' h'
       |none=>F (.exit id) ds a h'))))
   |_=>hF)
  |.inBlock _::k=>ih ds a k h
  |.inScope _::k=>ih ds a k h
  |.inLoop p b::k=>E ds a (iG 60 (.code p b:: .inLoop p b::k)) h
  |.beginRound::k=>(match ro with
   |some l=>aN (nL h l) fun h'=>ih ds a k h'
   |none=>hF))
def wT (P:Program) (K:FuncId→List Value→Option fM) (E:List Nat→Ek→List It→AH→Prop) (F:oG→List Nat→Ek→AH→Prop) (T:FT) (f:FuncId) (m:Nat) (ro:Option Nat) (n:Nat):List Nat→Ek→List It→AH→Prop:=
 Nat.rec (fun _ _ _ _=>hF) (fun _ ih=>gx P K E F T f m ro ih) n
theorem N1 {b:Nat} {p q:List Nat} {c:Code} {k k':List It}:(jA b p (c,k)).1=(jA b q (c,k')).1:=by
 unfold jA
 rcases b with _|_|b<;>cases c<;>rfl
theorem Qh {b:Nat} {c:Code} {l:List Nat}:sub c (b::l)=sub (jA b [] (c,[])).1 l:=by
 have hs:∀l:List Nat,sub .skip l= .skip:=fun l=>by cases l<;>simp[sub]
 rcases b with _|_|b<;>cases c<;>simp[sub,jA,hs]
theorem sub_fold:∀(l:List Nat) (c:Code),sub c l=l.foldl (fun c b=>(jA b [] (c,[])).1) c
 |[],c=>by simp[sub]
 |b::l,c=>by rw[Qh,sub_fold l];rfl
theorem F8 {f:FuncId}:∀p:List Nat,(ctx P f p).1=sub ((A8 P f).getD .skip) p.reverse
 |[]=>by simp[ctx,sub]
 |b::p=>by
  have h1:(ctx P f (b::p)).1=(jA b [] ((ctx P f p).1,[])).1:=N1
  rw[h1,F8 p,List.reverse_cons,sub_fold,sub_fold,List.foldl_append]
  rfl
theorem V8 {f:FuncId} {m:Nat} {fv:Operand} {fvv:Value} {num:Nat} {lv:List Nat} {env:List Value} {ps:Array Tmp} {asg body:Code} {d:Nat} {h:AH} {q:Option Code→AH→Prop} (hn:env.length=m) (hc:cd P f (Cp num)= .rangeFunc fv ps asg body)
  (hw:fy P K f m fvv num lv (lv.map fun t=>env.getD t undef) d h q):
  ∃n g first captured o h3 p h4,fvv= .func (.func g) first captured∧dS P g=true∧run P K n (.call g (first.toList++[.func (.yield h.next) #[] #[]]++captured.toList)) (h.alloc (.loop .ready none f env ps asg body d))=some (o,h3)∧
   vZ h3 h.next=some (p,h4)∧q p h4:=by
 subst hn
 refine A4 (lv:=lv) ?_
 intro e he
 have:=hw e he
 simp only[lp,hc,dn] at this
 exact this
theorem jP {f:FuncId} {ro:Option Nat} {ds:List Nat} {env:List Value} {k k':List Item} {h:AH} {Q:Out→AH→Prop} (hw:Ok P K (.todo f ro ds env k') h Q) (hs:∀m,run P K (m+1) (.todo f ro ds env k) h=run P K m (.todo f ro ds env k') h):Ok P K (.todo f ro ds env k) h Q:=vD hs hw
theorem Vl {E:List Nat→Ek→List It→AH→Prop} {F:oG→List Nat→Ek→AH→Prop} {T:FT} {f:FuncId} {m:Nat} {ro:Option Nat} {Q:Out→AH→Prop}
  (hE:∀ds a env k h,dC a env→env.length=m→Good P f k→E ds a k h→Ok P K (.todo f ro ds env (vC k)) h Q) (hF:∀lv ds a env h,dC a env→F lv ds a h→Q ⟨lv,ds,env,undef⟩ h):
  ∀(n:Nat) {ds:List Nat} {a:Ek} {env:List Value} {k:List It} {h:AH},dC a env→env.length=m→Good P f k→wT P K E F T f m ro n ds a k h→Ok P K (.todo f ro ds env (vC k)) h Q
 |0,_,_,_,_,_,_,_,_,hw=>hw.elim
 |n+1,ds,a,env,k,h,ha,hm,hg,hw=>by
  have IH:∀{ds:List Nat} {a:Ek} {env:List Value} {k:List It} {h:AH},dC a env→env.length=m→Good P f k→wT P K E F T f m ro n ds a k h→Ok P K (.todo f ro ds env (vC k)) h Q:=fun x y z w=>Vl hE hF n x y z w
  have nm:∀{k:List It},Good P f k→E ds a (iG 60 k) h→Ok P K (.todo f ro ds env (vC k)) h Q:=fun g hk=>by
   obtain⟨h1,h2⟩:=jJ (P:=P) (f:=f) 60 g
   exact Bb 60 (h1▸hE _ _ _ _ _ ha hm h2 hk)
  have go:∀{k':List It},Good P f k'→(match Kl k' with
     |true=>wT P K E F T f m ro n ds a k' h
     |false=>E ds a (iG 60 k') h)→Ok P K (.todo f ro ds env (vC k')) h Q:=by
   intro k' g hk
   split at hk
   ·exact IH ha hm g hk
   ·exact nm g hk
  change gx P K E F T f m ro (wT P K E F T f m ro n) ds a k h at hw
  unfold gx at hw
  split at hw
  ·exact⟨1,_,rfl,hF _ _ _ _ _ ha hw⟩
  ·rename_i p c k
   split at hw
   ·exact jP (IH ha hm hg.2 hw) fun _=>rfl
   ·exact jP (IH ha hm hg.2 hw) fun _=>rfl
   ·exact jP (IH ha hm hg.seq hw) fun _=>rfl
   ·rename_i c t e
    have g1:Good P f (.code (0::p) t::k):=⟨by simp only[ctx,hg.1,jA],hg.2⟩
    have g2:Good P f (.code (1::p) e::k):=⟨by simp only[ctx,hg.1,jA],hg.2⟩
    obtain⟨k1,k2⟩:=Qy (P:=P) (x:=c) ha
    split at hw
    ·rename_i hk
     exact Fe (Jc (b:=true) (fun _=>IH ha hm g1 hw) (by simp)|>fun x=>by rw[k1 _ hk];exact x)
    ·rename_i hk
     exact Fe (Jc (b:=false) (by simp) (fun _=>IH ha hm g2 hw)|>fun x=>by rw[k1 _ hk];exact x)
    ·exact Fe (let⟨b,x,y,z⟩:=cY ha hw;⟨b,x,fun t=>go g1 (y t),fun t=>go g2 (z t)⟩)
   ·exact jP (IH ha hm hg.block hw) fun _=>rfl
   ·exact jP (nm hg.loop hw) fun _=>rfl
   ·exact jP (IH ha hm hg.scope hw) fun _=>rfl
   ·rename_i id
    split at hw
    ·rename_i k' hx
     obtain⟨h1,h2⟩:=mZ (P:=P) (f:=f) hx
     refine jP (IH ha hm (h2 hg.2) hw) fun m=>?_
     show bX P (run P K m) _ _ _ _ (.code (.exit id)::vC k) _=_
     simp only[bX,h1]
    ·rename_i hx
     split at hw
     ·refine⟨1,(⟨.exit id,ds,env,undef⟩,h),?_,hF _ _ _ _ _ ha hw⟩
      show bX P (run P K 0) _ _ _ _ (.code (.exit id)::vC k) _=_
      simp only[bX,nE hx,Option.isSome_some,if_true]
     ·cases hw
   ·exact⟨1,_,rfl,hF _ _ _ _ _ ha hw⟩
   ·rename_i ops
    obtain⟨n1,o,h1,a',hr,ha',hm',hw⟩:=Kt ha hm hw
    obtain⟨n2,r,hr2,hq⟩:=IH ha' hm' hg.2 hw
    refine⟨max n1 n2+1,r,?_,hq⟩
    show bX P (run P K (max n1 n2)) _ _ _ _ (.code (.region _ ops false)::vC k) _=_
    simp only[bX]
    rw[gM (Nat.le_max_left n1 n2) _ _ _ hr]
    exact gM (Nat.le_max_right n1 n2) _ _ _ hr2
   ·rename_i ops
    obtain⟨n1,e,h1,a',hr,ha',hm',hw⟩:=Un ha hm hw
    obtain⟨n2,r,hr2,hq⟩:=IH ha' hm' hg.2 hw
    refine⟨max n1 n2+1,r,?_,hq⟩
    show bX P (run P K (max n1 n2)) _ _ _ _ (.code (.region _ ops true)::vC k) _=_
    simp only[bX]
    rw[zS (gM (Nat.le_max_left n1 n2)) hr]
    exact gM (Nat.le_max_right n1 n2) _ _ _ hr2
   ·rename_i fv ps asg body
    have hw:=cY ha hw
    obtain⟨j,num,lv,_,hp,hw⟩:=Fi hw
    have hw:=Eo ha hw
    have hc:cd P f (Cp num)= .rangeFunc fv ps asg body:=by
     have:=F8 (P:=P) (f:=f) p
     rw[hg.1,hp,List.reverse_reverse] at this
     exact this.symm
    have ex:∀{ds':List Nat} {h4:AH} {pd:Option Code},Ak pd (wT P K E F T f m ro n ds' a k h4) (F .ret ds' a h4)
      ((fL body).map fun id=>(id,(match nD id k with
       |some k'=>wT P K E F T f m ro n ds' a k' h4
       |none=>(match ro with
        |none=>False
        |some _=>F (.exit id) ds' a h4))))→Ok P K (.todo f ro ds' env ((pd.map Item.code).toList++vC k)) h4 Q:=by
     intro ds' h4 pd hx
     unfold Ak at hx
     split at hx
     ·exact IH ha hm hg.2 hx
     ·exact⟨1,_,rfl,hF _ _ _ _ _ ha hx⟩
     ·rename_i id
      split at hx
      ·rename_i hl
       have:=Ku hl
       subst this
       split at hx
       ·rename_i k' hy
        obtain⟨h1,h2⟩:=mZ (P:=P) (f:=f) hy
        refine jP (IH ha hm (h2 hg.2) hx) fun m=>?_
        show bX P (run P K m) _ _ _ _ (.code (.exit id)::vC k) _=_
        simp only[bX,h1]
       ·rename_i hy
        split at hx
        ·cases hx
        ·refine⟨1,(⟨.exit id,ds',env,undef⟩,h4),?_,hF _ _ _ _ _ ha hx⟩
         show bX P (run P K 0) _ _ _ _ (.code (.exit id)::vC k) _=_
         simp only[bX,nE hy,Option.isSome_some,if_true]
      ·cases hx
     ·cases hx
    split at hw
    ·unfold F5 at hw
     obtain⟨n1,g,first,captured,o,h3,p,h4,hf,hcl,hr,he,hw⟩:=V8 hm hc hw
     obtain⟨n2,r,hr2,hq⟩:=ex hw
     refine⟨max n1 n2+1,r,?_,hq⟩
     show bX P (run P K (max n1 n2)) _ _ _ _ (.code (.rangeFunc fv ps asg body)::vC k) _=_
     unfold vZ at he
     split at he
     ·rename_i hl
      split at he
      ·cases he
      ·rename_i hb
       simp only[Option.map_eq_some_iff] at he
       obtain⟨h5,he,h6⟩:=he
       cases h6
       simp only[bX,hf,hcl,if_true]
       rw[gM (Nat.le_max_left n1 n2) _ _ _ hr]
       simp only[hl,hb,if_false,he]
       exact gM (Nat.le_max_right n1 n2) _ _ _ hr2
     ·cases he
    ·rename_i l
     obtain⟨d,hdf,hw⟩:=hw
     obtain⟨n1,g,first,captured,o,h3,p,h4,hf,hcl,hr,he,hw⟩:=V8 hm hc hw
     obtain⟨n2,r,hr2,hq⟩:=ex hw
     refine⟨max n1 n2+1,r,?_,hq⟩
     show bX P (run P K (max n1 n2)) _ _ _ _ (.code (.rangeFunc fv ps asg body)::vC k) _=_
     unfold vZ at he
     unfold mE at hdf
     split at hdf
     ·rename_i hd0
      cases hdf
      split at he
      ·rename_i hl
       split at he
       ·cases he
       ·rename_i hb
        simp only[Option.map_eq_some_iff] at he
        obtain⟨h5,he,h6⟩:=he
        cases h6
        simp only[bX,hd0,hf,hcl,if_true]
        rw[gM (Nat.le_max_left n1 n2) _ _ _ hr]
        simp only[hl,hb,if_false,he]
        exact gM (Nat.le_max_right n1 n2) _ _ _ hr2
      ·cases he
     ·cases hdf
   ·cases hw
  ·rename_i k;exact jP (IH (k:=k) ha hm hg hw) fun _=>rfl
  ·rename_i k;exact jP (IH (k:=k) ha hm hg hw) fun _=>rfl
  ·exact jP (nm hg.again hw) fun _=>rfl
  ·rename_i k
   split at hw
   ·rename_i l
    obtain⟨h',h1,h2⟩:=hw
    unfold nL at h1
    split at h1
    ·rename_i hg2
     refine vD (t':= .todo f (some l) ds env (vC k)) (h':=h') (fun m=>?_) (IH ha hm hg h2)
     show bX P (run P K m) _ _ _ _ (.beginRound::vC k) _=_
     simp only[bX,hg2,h1]
    ·cases h1
   ·cases hw
end
end Go.Ab
end
section
namespace Go.Ab
noncomputable section
variable {P:Program} {K:FuncId→List Value→Option fM}
theorem Hb {f:FuncId}:∀p:List Nat,Good P f (ctx P f p).2
 |[]=>trivial
 |b::p=>by
  have h0:=Hb (f:=f) p
  have h1:∀c,ctx P f (c::p)=jA c p (ctx P f p):=fun _=>rfl
  rw[h1]
  generalize hx:ctx P f p=x at h0 h1
  obtain⟨c,k⟩:=x
  rcases b with _|_|b<;>cases c<;>simp_all [jA,Good]
def D (P:Program) (K:FuncId→List Value→Option fM) (T:FuncId→FT) (f:FuncId) (i:Nat) (ds:List Nat) (Q:Value→AH→Prop) (vs:List Value) (h:AH):Prop:=Zj P K (T f) f none (Js P f Q) i ds vs h
def R (P:Program) (K:FuncId→List Value→Option fM) (T:FuncId→FT) (f:FuncId) (i:Nat) (l:Nat) (Q:Value→AH→Prop) (vs:List Value) (h:AH):Prop:=Zj P K (T f) f (some l) (uJ l Q) i [] vs h
def fW (P:Program) (f:FuncId) (q:Nat→Code→Prop):Prop:=match P.funcs[f]? with
 |some ⟨_,_,_,_,_,_,n,_,some c,_,_,_,_,_,_,_⟩=>q n c
 |_=>hF
theorem Xg {f:FuncId} {q:Nat→Code→Prop} (h:fW P f q):∃fn c,P.funcs[f]?=some fn∧fn.body=some c∧Z7 P f=fn.ntmps∧A8 P f=some c∧q fn.ntmps c:=by
 unfold fW at h
 split at h
 ·rename_i he
  exact⟨_,_,he,rfl,by simp only[Z7,he,Option.elim_some],by simp only[A8,he,Option.bind_some],h⟩
 ·cases h
def Ju (m:Nat):List Nat→List Value→Ek→(Ek→Prop)→Prop
 |[],[],a,q=>q a
 |t::lv,v::vs,a,q=>(match Nat.blt t m with
  |true=>Ju m lv vs ((t,v,.un)::a) q
  |false=>hF)
 |_,_,_,_=>hF
theorem Fb {m:Nat}:∀{lv:List Nat} {vs:List Value} {a:Ek} {env:List Value} {q:Ek→Prop},dC a env→env.length=m→Ju m lv vs a q→∃a',dC a' ((lv.zip vs).foldl (fun t (p,v)=>t.set p v) env)∧((lv.zip vs).foldl (fun t (p,v)=>t.set p v) env).length=m∧lv.length=vs.length∧q a'
 |[],[],a,env,q,ha,hm,hw=>⟨a,ha,hm,rfl,hw⟩
 |t::lv,v::vs,a,env,q,ha,hm,hw=>by
  unfold Ju at hw
  split at hw
  ·rename_i e
   have ht:t<m:=Nat.le_of_ble_eq_true e
   obtain⟨a',h1,h2,h3,h4⟩:=Fb (ha.cons (k:= .un) (v:=v) (hm.symm▸ht) (fun _ e=>by cases e) (fun e=>by cases e)) (by simpa using hm) hw
   exact⟨a',h1,h2,by simp[h3],h4⟩
  ·cases hw
 |[],_::_,_,_,_,_,_,hw=>hw.elim
 |_::_,[],_,_,_,_,_,hw=>hw.elim
theorem Pq {env:List Value} {t:Nat} {v:Value} (h:∀u,env[t]?=some u→u=v):env.set t v=env:=by
 refine List.ext_getElem? fun i=>?_
 rw[List.getElem?_set]
 by_cases e:t=i
 ·subst e
  rw[if_pos rfl]
  cases he:env[t]? with
  |none=>rw[if_neg (by simpa using he)]
  |some u=>rw[if_pos (List.getElem?_eq_some_iff.1 he).1,h u he]
 ·rw[if_neg e]
theorem B0 {e:Nat→Value} {m:Nat}:∀{lv:List Nat} {vs:List Value},lv.map e=vs→(lv.zip vs).foldl (fun t (p,v)=>t.set p v) ((List.range m).map e)=(List.range m).map e
 |[],_,_=>rfl
 |t::lv,vs,h=>by
  subst h
  rw[List.map_cons,List.zip_cons_cons,List.foldl_cons]
  show List.foldl _ (((List.range m).map e).set t (e t)) _=_
  rw[Pq,B0 rfl]
  intro u hu
  simp only[List.getElem?_map] at hu
  rcases Nat.lt_or_ge t m with hl|hl
  ·rw[List.getElem?_range hl] at hu;cases hu;rfl
  ·rw[List.getElem?_eq_none (by simpa using hl)] at hu;cases hu
theorem dC.nil {env:List Value}:dC [] env:=fun _ _ _ h=>by cases h
def wD (P:Program) (K:FuncId→List Value→Option fM) (T:FuncId→FT) (f:FuncId) (i:Nat) (ds:List Nat) (Q:Value→AH→Prop) (vs:List Value) (h:AH):Prop:=match(T f).L[i]? with
 |some (num,lv)=>Vq (Cp num).reverse fun p=>(match ctx P f p with
  |(c,k)=>fW P f fun m _=>Ju m lv vs [] fun a=>wT P K (fun ds a k h=>wE (T f) a k fun i vs=>D P K T f i ds Q vs h) (Td P f (T f).hr Q) (T f) f m none 200 ds a (.code p c::k) h)
 |none=>hF
theorem bW {f:FuncId} {T:FuncId→FT} {i:Nat} {ds:List Nat} {Q:Value→AH→Prop} {vs:List Value} {h:AH} (hw:wD P K T f i ds Q vs h):D P K T f i ds Q vs h:=by
 unfold wD at hw
 split at hw
 ·rename_i num lv hl
  have hw:=Bs hw
  generalize hx:ctx P f (Cp num).reverse=x at hw
  obtain⟨c,k⟩:=x
  obtain⟨fn,_,_,_,hm,_,hw⟩:=Xg hw
  unfold D Zj
  simp only[hl,Option.getD_some,hx]
  intro e he
  rw[hm]
  obtain⟨a,h1,h2,_,hw⟩:=Fb (env:=(List.range fn.ntmps).map e) dC.nil (by simp) hw
  rw[B0 he] at h1 h2
  have hg:=Hb (P:=P) (f:=f) (Cp num).reverse
  rw[hx] at hg
  exact Vl (fun ds a env k h ha hn hg hE=>Yp ha (hn.trans hm.symm) hg hE) (fun lv ds a env h ha hF=>S6 ha hF) 200 (k:= .code (Cp num).reverse c::k) h1 h2 ⟨hx,hg⟩ hw
 ·cases hw
def jj (P:Program) (K:FuncId→List Value→Option fM) (T:FuncId→FT) (f:FuncId) (i:Nat) (l:Nat) (Q:Value→AH→Prop) (vs:List Value) (h:AH):Prop:=match(T f).L[i]? with
 |some (num,lv)=>Vq (Cp num).reverse fun p=>(match ctx P f p with
  |(c,k)=>fW P f fun m _=>Ju m lv vs [] fun a=>wT P K (fun ds a k h=>(match ds with
   |[]=>wE (T f) a k fun i vs=>R P K T f i l Q vs h
   |_=>hF)) (fun lv ds _ h=>Fo l Q lv ds [] h) (T f) f m (some l) 200 [] a (.code p c::k) h)
 |none=>hF
theorem Ps {f:FuncId} {T:FuncId→FT} {l:Nat} {Q:Value→AH→Prop} {m:Nat} (hm:Z7 P f=m):∀ds a env k h,dC a env→env.length=m→Good P f k→(match ds with
   |[]=>wE (T f) a k fun i vs=>R P K T f i l Q vs h
   |_=>False)→Ok P K (.todo f (some l) ds env (vC k)) h (uJ l Q):=by
 intro ds a env k h ha hn hg hE
 split at hE
 ·exact Yp ha (hn.trans hm.symm) hg hE
 ·cases hE
def Xp:Nat→List Value→Ek→(Ek→Prop)→Prop
 |_,[],a,q=>q a
 |i,v::l,a,q=>nK (i+1) fun j=>Xp j l ((i,v,.un)::a) q
theorem dC.add {a:Ek} {env:List Value} (ha:dC a env) {d:Nat} {v:Value} (hd:env[d]?=some v):dC ((d,v,.un)::a) env:=by
 intro t u j hl
 unfold Ek.lk at hl
 split at hl
 ·rename_i e
  have:=Nat.eq_of_beq_eq_true e
  subst this
  cases hl
  exact⟨hd,fun x e=>(by cases e),fun e=>(by cases e)⟩
 ·exact ha t u j hl
theorem Rp {env:List Value}:∀{l:List Value} {i:Nat} {a:Ek} {q:Ek→Prop},dC a env→(∀j v,l[j]?=some v→env[i+j]?=some v)→Xp i l a q→∃a',dC a' env∧q a'
 |[],_,a,_,ha,_,hw=>⟨a,ha,hw⟩
 |v::l,i,a,q,ha,he,hw=>Rp (l:=l) (ha.add (he 0 v rfl)) (fun j u hu=>by have:=he (j+1) u (by simpa using hu);rwa [show i+1+j=i+(j+1) by omega]) (R0 hw)
def Sq (n m:Nat):List Nat→Ek→(Ek→Prop)→Prop
 |[],a,q=>hP (q a)
 |t::lv,a,q=>(match Nat.ble n t with
  |true=>(match Nat.blt t m with
   |true=>Sq n m lv ((t,undef,.un)::a) q
   |false=>hF)
  |false=>Sq n m lv a q)
theorem Kr {args:List Value} {m:Nat}:∀{lv:List Nat} {a:Ek} {q:Ek→Prop},dC a (args++List.replicate (m - args.length) undef)→Sq args.length m lv a q→∃a',dC a' (args++List.replicate (m - args.length) undef)∧q a'
 |[],a,_,ha,hw=>⟨a,ha,hw⟩
 |t::lv,a,q,ha,hw=>by
  unfold Sq at hw
  split at hw
  ·rename_i h1
   have h1:=Nat.le_of_ble_eq_true h1
   split at hw
   ·rename_i h2
    have h2:t<m:=Nat.le_of_ble_eq_true h2
    refine Kr (ha.add ?_) hw
    rw[List.getElem?_append_right h1,List.getElem?_replicate,if_pos (by omega)]
   ·cases hw
  ·exact Kr ha hw
def wC (P:Program) (K:FuncId→List Value→Option fM) (T:FuncId→FT) (f:FuncId) (args:List Value) (Q:Value→AH→Prop) (h:AH):Prop:=match K f args with
 |none=>fW P f fun m c=>(match Nat.ble args.length m with
  |true=>Xp 0 args [] fun a=>nK args.length fun n=>Sq n m (((T f).L[0]?).getD (0,[])).2 a fun a=>wT P K (fun ds a k h=>wE (T f) a k fun i vs=>D P K T f i ds Q vs h) (Td P f (T f).hr Q) (T f) f m none 200 [] a [.code [] c] h
  |false=>hF)
 |some _=>hF
theorem cW {f:FuncId} {T:FuncId→FT} {args:List Value} {Q:Value→AH→Prop} {h:AH} (hw:wC P K T f args Q h):Cl P K f args h Q:=by
 unfold wC at hw
 split at hw
 ·rename_i hK
  obtain⟨fn,c,hf,hb,hm,hbo,hw⟩:=Xg hw
  refine U0 hf hb hK ?_
  split at hw
  ·rename_i hle
   have hle:args.length≤fn.ntmps:=Nat.le_of_ble_eq_true hle
   obtain⟨a,h1,hw⟩:=Rp (env:=args++List.replicate (fn.ntmps - args.length) undef) dC.nil (fun j v hv=>by
    rw[Nat.zero_add,List.getElem?_append_left (List.getElem?_eq_some_iff.1 hv).1];exact hv) hw
   obtain⟨a,h1,hw⟩:=Kr h1 (R0 hw)
   exact Vl (fun ds a env k h ha hn hg hE=>Yp ha (hn.trans hm.symm) hg hE) (fun lv ds a env h ha hF=>S6 ha hF) 200 (k:=[.code [] c]) h1 (by simp;omega) ⟨by simp only[ctx,hbo,Option.getD_some],trivial⟩ hw
  ·cases hw
 ·cases hw
def ez (P:Program) (K:FuncId→List Value→Option fM) (T:FuncId→FT) (f:FuncId) (num m:Nat) (lv:List Nat) (vs:List Value) (l:Nat) (args:List Value) (Q:Value→AH→Prop) (h:AH):Prop:=Vq (Cp num).reverse fun p=>(match ctx P f p with
 |(.rangeFunc _ ps asg body,_)=>fW P f fun m' _=>(match Nat.beq m' m with
  |true=>Ju m lv vs [] fun a=>Ju m ps.toList args a fun a=>wT P K (fun ds a k h=>(match ds with
   |[]=>wE (T f) a k fun i vs=>R P K T f i l Q vs h
   |_=>hF)) (fun lv ds _ h=>Fo l Q lv ds [] h) (T f) f m (some l) 200 [] a [.code (0::p) asg,.beginRound,.code (1::p) body] h
  |false=>hF)
 |_=>hF)
theorem rW {f:FuncId} {T:FuncId→FT} {num m l d:Nat} {lv:List Nat} {vs args:List Value} {e:Nat→Value} {st:LoopState} {pd:Option Code} {Q:Value→AH→Prop} {h:AH} (hg:h.get l=some (lp P f (Cp num) m e d st pd)) (he:List.map e lv=vs)
  (hw:ez P K T f num m lv vs l args Q h):Dm P K (.func (.yield l) #[] #[]) args h Q:=by
 unfold ez at hw
 have hw:=Bs hw
 split at hw
 ·rename_i fv ps asg body k hx
  obtain⟨fn,_,_,_,hm,_,hw⟩:=Xg hw
  split at hw
  ·rename_i hb
   have hb:=Nat.eq_of_beq_eq_true hb
   obtain⟨a,h1,h2,_,hw⟩:=Fb (env:=(List.range m).map e) dC.nil (by simp) hw
   rw[B0 he] at h1 h2
   obtain⟨a,h1,h2,hl,hw⟩:=Fb h1 h2 hw
   have hc:cd P f (Cp num)= .rangeFunc fv ps asg body:=by
    have:=F8 (P:=P) (f:=f) (Cp num).reverse
    rw[hx,List.reverse_reverse] at this
    exact this.symm
   simp only[lp,hc,dn] at hg
   refine O5 (R8 hg (by simpa using hl.symm) ?_)
   exact Vl (Ps (hm.trans hb)) (fun lv ds a env h ha hF=>by have:=Fm (env:=env) hF;exact this) 200 (k:=[.code (0::(Cp num).reverse) asg,.beginRound,.code (1::(Cp num).reverse) body]) h1 h2
    ⟨by simp only[ctx,hx,jA],by simp only[ctx,hx,jA],trivial⟩ hw
  ·cases hw
 ·cases hw
end
end Go.Ab
end
section
namespace Go.Ab
variable {P:Program} {K:FuncId→List Value→Option fM} {G:Bg} {h:AH} {L L' M:List HP}
theorem Jt {W n m c:Nat} {e:TypeId} {a:Option Addr} {cs zs:List Value} (hm:m≤n) (h0:0<n) (hl:cs.length=m*W) (hs:Hs G h (dP W e a c (n,cs++zs)::L)):Hs G h (dP W e a c (m,cs)::L):=by
 obtain⟨r,r2,⟨hl2,hc,hr⟩,hr2,hd,hi,hi2⟩:=hs.fst
 simp only at hl2 hc
 have hcd:cs.all eE=true:=by grind
 rcases hr with⟨hz,_⟩|⟨hz,_⟩|⟨hcap,b,pre,post,ex,rfl,hle,hrr⟩
 ·grind
 ·grind
 ·simp only at hcap hle hrr
  subst hrr
  refine E2 (r:=hU b (pre++(cs++zs)++post) (some (.mt e ex (pre++(cs++zs)++post).length))) ⟨hs.base,hs.old,hs.wf,hs.fr,_,⟨_,r2,rfl,hr2,hd,rfl⟩,(bA.eG hd).2 ⟨hi,hi2⟩⟩ ?_
  have e1:pre++(cs++zs)++post=pre++cs++(zs++post):=by simp
  refine⟨hl,hcd,.inr (.inr ⟨by simp only;omega,b,pre,zs++post,ex,rfl,?_,by rw[e1]⟩)⟩
  grind
theorem Im {b o j m:Nat} {c:List Value} (hs:Hs G h (aO b o c::L)) (h0:0<c.length) (hm:j+m≤c.length):aW h ⟨b,o+j,none⟩ m=some ((c.drop j).take m):=by
 obtain⟨hb,c',e',x',hg,hle,hall⟩:=hs.cells h0
 simp only[aW,Option.isSome_none,Bool.false_eq_true,if_false,hg]
 rw[if_pos (by omega)]
 congr 1
 refine List.ext_getElem? fun k=>?_
 grind
theorem Jd {A B z:List Value} {j:Nat} (h1:A.length=j) (h2:B.length=z.length):aT (A++B) j z=A++z:=by
 subst h1
 unfold aT
 rw[List.take_left,List.drop_eq_nil_of_le (by rw[List.length_append];omega),List.append_nil]
theorem Aj {α:Type} (l:List α) (i:Nat):l.take i++l.drop i=l:=List.take_append_drop i l
theorem b0 {W bytes n i c:Nat} {e:TypeId} {a:Option Addr} {cs z:List Value} {k:Value→AH→Prop} (hW:0<W) (hz:z.length=W) (hzc:z.all eE=true) (hi:i<n) (hs:Hs G h L) [m:Has (dP W e a c) L (n,cs) L']
  (hk:∀h',Hs G h' (dP W e a c (n - 1,cs.take (i*W)++cs.drop ((i+1)*W))::L')→k (.slice a (n - 1) c) h'):
  aN (uA W h (.slice a n c) none (some (I i)) none) fun v3=>aN (uA W h (.slice a n c) (some (I ((i:Int)+1))) none none) fun v4=>
   aN (jK W bytes e h v3 v4) fun r5=>aN (vU r5.1) fun v8=>aN (uA W r5.2 r5.1 (some v8) (some (I n)) none) fun v9=>aN (mJ z r5.2 v9) fun r10=>k r5.1 r10.2:=by
 have hs:=m.of hs
 have hl:=hs.Ag
 have hc:=hs.Al
 simp only at hl hc
 have hcap:n≤c:=by
  obtain⟨r,r2,⟨_,_,hr⟩,_⟩:=hs.fst
  rcases hr with⟨hz,_⟩|⟨hz,_⟩|⟨hcap,_⟩
  ·simp only at hz;omega
  ·simp only at hz;omega
  ·exact hcap
 obtain⟨b,o,rfl,H,hs2,close⟩:=hs.nC (by omega)
 have hpos:0<n*W:=Nat.mul_pos (by omega) hW
 have hcl:0<cs.length:=by omega
 have b1:iX none c c=some c:=rfl
 have b2:iX (some (I i)) n c=some i:=by simp only[iX];rw[if_pos (by omega)];simp
 have b3:iX none 0 i=some 0:=rfl
 have b4:iX none n c=some n:=rfl
 have b5:iX (some (I ((i:Int)+1))) 0 n=some (i+1):=by simp only[iX];rw[if_pos (by omega)];congr 1
 have b6:iX (some (I ((n - 1:Nat):Int))) 0 n=some (n - 1):=by simp only[iX];grind
 have b7:iX (some (I n)) n c=some n:=by simp only[iX];grind
 have hne0:¬c=0:=by omega
 refine⟨.slice (some ⟨b,o,none⟩) i c,?_,?_⟩
 ·simp only[uA,b1,b2,b3,Option.isNone_some,Bool.false_and,Option.isSome_none,Bool.false_eq_true,if_false,hne0,bG]
  rw[if_pos (by omega)]
  simp
 have mulS:(i+1)*W=i*W+W:=by rw[Nat.add_mul,Nat.one_mul]
 have hiW:(i+1)*W≤n*W:=Nat.mul_le_mul_right W hi
 have hrest:(n - (i+1))*W=n*W - (i+1)*W:=Nat.sub_mul _ _ _
 have hnW:(n - 1)*W=n*W - W:=by rw[Nat.sub_mul,Nat.one_mul]
 have fin:∀h1,Hs G h1 (aO b o (cs.take (i*W)++cs.drop ((i+1)*W)++cs.drop ((n - 1)*W))::H::L')→
   aN (vU (.slice (some ⟨b,o,none⟩) (n - 1) c)) fun v8=>aN (uA W h1 (.slice (some ⟨b,o,none⟩) (n - 1) c) (some v8) (some (I n)) none) fun v9=>aN (mJ z h1 v9) fun r10=>k (.slice (some ⟨b,o,none⟩) (n - 1) c) r10.2:=by
  intro h1 hs3
  refine eV ?_
  have hlast:¬c=n - 1:=by omega
  refine⟨.slice (some ⟨b,o+(n - 1)*W,none⟩) (n - (n - 1)) (c - (n - 1)),?_,?_⟩
  ·have b7':iX (some (I n)) (n - 1) c=some n:=b7
   simp only[uA,b1,b7',b6,Option.isNone_some,Bool.false_and,Option.isSome_none,Bool.false_eq_true,if_false,hlast,bG]
   grind
  have h1n:n - (n - 1)=1:=by omega
  rw[h1n]
  have hlen:(cs.take (i*W)++cs.drop ((i+1)*W)).length=(n - 1)*W:=by
   grind
  have hz1:dV z 1=z:=by simp[dV]
  have hall:(cs.take (i*W)++cs.drop ((i+1)*W)).all eE=true:=by
   grind
  obtain⟨h2,hst,hs4⟩:=hs3.write (j:=(n - 1)*W) (vs:=z) (by grind) hzc (by grind)
  refine⟨(.tuple #[],h2),?_,?_⟩
  ·simp only[mJ,Nat.one_ne_zero,if_false,hz1,hst,Option.map_some]
  refine hk h2 ?_
  have hsp:aT (cs.take (i*W)++cs.drop ((i+1)*W)++cs.drop ((n - 1)*W)) ((n - 1)*W) z=cs.take (i*W)++cs.drop ((i+1)*W)++z:=Jd hlen (by grind)
  rw[hsp] at hs4
  refine Jt (n:=n) (zs:=z) (by omega) (by omega) hlen (close h2 _ _ ?_ ?_ hs4)
  ·grind
  ·grind
 by_cases hlst:i+1=n
 ·
  have hd0:cs.drop ((i+1)*W)=[]:=List.drop_eq_nil_of_le (by rw[hlst];omega)
  have key:∀v4:Value,mB v4=some 0→eM h W 0 v4=some []→aN (jK W bytes e h (.slice (some ⟨b,o,none⟩) i c) v4) fun r5=>aN (vU r5.1) fun v8=>aN (uA W r5.2 r5.1 (some v8) (some (I n)) none) fun v9=>aN (mJ z r5.2 v9) fun r10=>k r5.1 r10.2:=by
   intro v4 h1 h2
   refine⟨(.slice (some ⟨b,o,none⟩) i c,h),?_,?_⟩
   ·simp only[jK,h1,h2,List.all_nil,Bool.not_true,List.length_nil,Nat.zero_mul,bne_self_eq_false,Bool.or_self,Bool.false_eq_true,if_false,Nat.add_zero]
    grind
   ·have hin:i=n - 1:=by omega
    have:=fin h (by
     rw[hd0,List.append_nil,hin,Aj];exact hs2)
    rw[hin];exact this
  by_cases hci:c=i+1
  ·obtain⟨hb,c',e',x',hg,hle,hall⟩:=hs2.cells hcl
   have hex:iS h b=some x':=by simp only[iS,hg]
   cases x' with
   |true=>
    refine⟨lF,?_,key _ rfl rfl⟩
    simp only[uA,b1,b4,b5,Option.isNone_none,Option.isSome_none,Bool.and_false,Bool.false_eq_true,if_false,bG,hex]
    grind
   |false=>
    refine⟨nW ⟨b,o+(i+1)*W,none⟩,?_,key _ rfl rfl⟩
    simp only[uA,b1,b4,b5,Option.isNone_none,Option.isSome_none,Bool.and_false,Bool.false_eq_true,if_false,bG,hex]
    grind
  ·refine⟨.slice (some ⟨b,o+(i+1)*W,none⟩) (n - (i+1)) (c - (i+1)),?_,?_⟩
   ·simp only[uA,b1,b4,b5,Option.isNone_none,Option.isSome_none,Bool.and_false,Bool.false_eq_true,if_false,bG,hci]
    rw[if_pos hcap]
   ·have:n - (i+1)=0:=by omega
    rw[this]
    exact key _ rfl (by simp[eM])
 ·have hci:¬c=i+1:=by omega
  refine⟨.slice (some ⟨b,o+(i+1)*W,none⟩) (n - (i+1)) (c - (i+1)),?_,?_⟩
  ·simp only[uA,b1,b4,b5,Option.isNone_none,Option.isSome_none,Bool.and_false,Bool.false_eq_true,if_false,bG,hci]
   rw[if_pos hcap]
  have hn1:¬n - (i+1)=0:=by omega
  have hld:aW h ⟨b,o+(i+1)*W,none⟩ ((n - (i+1))*W)=some (cs.drop ((i+1)*W)):=by
   rw[Im hs2 hcl (by omega),List.take_of_length_le (by grind)]
  have hdl:(cs.drop ((i+1)*W)).length=(n - (i+1))*W:=by grind
  have hdc:(cs.drop ((i+1)*W)).all eE=true:=List.all_eq_true.2 fun v hv=>List.all_eq_true.1 hc v (List.mem_of_mem_drop hv)
  obtain⟨h1,hst,hs3⟩:=hs2.write (j:=i*W) (vs:=cs.drop ((i+1)*W)) (by omega) hdc hcl
  have hsum:i+(n - (i+1))=n - 1:=by omega
  refine⟨(.slice (some ⟨b,o,none⟩) (n - 1) c,h1),?_,?_⟩
  ·simp only[jK,mB,eM,if_neg hn1,Nat.le_refl,if_true,hld,hdc,hdl,Bool.not_true,bne_self_eq_false,Bool.or_self,Bool.false_eq_true,if_false,bG,hst,Option.map_some,Option.isSome_none,hsum]
   grind
  refine fin h1 ?_
  have hsp:aT cs (i*W) (cs.drop ((i+1)*W))=cs.take (i*W)++cs.drop ((i+1)*W)++cs.drop ((n - 1)*W):=by
   unfold aT
   grind
  grind
end Go.Ab
end
section
namespace Go.Ab
variable {P:Program} {K:FuncId→List Value→Option fM} {G:Bg} {h:AH} {L L' M:List HP}
def dy (G:Bg) (W:Nat) (e:TypeId) (v:Value) (l:List (List Value)):HP:=fun r=>
 (∀x∈l,x.length=W)∧((O2 G W v l.length (fun i=>l.getD i [])∧r=bA.emp)∨∃a c,v= .slice a l.length c∧dP W e a c (l.length,l.flatten) r)
variable {W:Nat} {e:TypeId} {v:Value} {l:List (List Value)}
theorem Hs.Zq {A:HP} {p:Prop} (hs:Hs G h (A::L)) (k:∀r,A r→p):p:=by
 obtain⟨r,r2,h1,_⟩:=hs.fst
 exact k r h1
theorem Vc (hs:Hs G h (dy G W e v l::L)):∀x∈l,x.length=W:=hs.Zq fun _ hr=>hr.1
theorem Xw (hl:∀x∈l,x.length=W) (ho:O2 G W v l.length (fun i=>l.getD i [])) (hs:Hs G h L):Hs G h (dy G W e v l::L):=
 Hs.join (A:=[]) hs fun _ hr=>⟨hl,.inl ⟨ho,hr⟩⟩
theorem A7 {W:Nat}:∀{l:List (List Value)} {i:Nat} {x:List Value},(∀x∈l,x.length=W)→l[i]?=some x→(l.flatten.drop (i*W)).take W=x∧i*W+W≤l.flatten.length
 |[],i,x,_,h=>by simp at h
 |y::l,0,x,hl,h=>by
  grind
 |y::l,i+1,x,hl,h=>by
  have hy:=hl y List.mem_cons_self
  obtain⟨h1,h2⟩:=A7 (fun z hz=>hl z (List.mem_cons_of_mem _ hz)) (by simpa using h)
  rw[List.flatten_cons,show(i+1)*W=y.length+i*W by grind,List.drop_append,List.drop_of_length_le (by omega),Nat.add_sub_cancel_left,List.nil_append,List.length_append]
  grind
theorem Z4 {i:Nat} {x:List Value} {k:Value→Prop} (hs:Hs G h (dy G W e v l::L)) (hW:0<W) (hx:l[i]?=some x) (hk:k (.agg ⟨x⟩)):aN (vA W v (I i)) fun p=>aN (yS h W p) k:=by
 obtain⟨hi,hxi⟩:=List.getElem?_eq_some_iff.1 hx
 have hxl:x.length=W:=Vc hs x (hxi▸List.getElem_mem hi)
 obtain⟨r,hst,hin⟩:=hs.res
 obtain⟨r1,r2,hr,h2,hd,rfl⟩:=hst
 obtain⟨hl,hr⟩:=hr
 rcases hr with⟨ho,rfl⟩|⟨a,c,rfl,hr⟩
 ·obtain⟨a,c,rfl,hall⟩:=ho
  obtain⟨b,o,cells,rfl,hob,hc,hle⟩:=hall i hi
  refine dW hi ?_
  rw[show pt b (o+i*W) 0=pt b o (i*W) by simp[pt]]
  refine Sz hs hob (l:=x) ?_ hxl hle hk
  rw[hc]
  simp[hx]
 ·have hs':Hs G h (dP W e a c (l.length,l.flatten)::L):=⟨hs.base,hs.old,hs.wf,hs.fr,⟨_,⟨r1,r2,hr,h2,hd,rfl⟩,hin⟩⟩
  obtain⟨b,o,rfl,hs'⟩:=hs'.hM (by omega)
  refine dW hi ?_
  rw[show pt b (o+i*W) 0=pt b o (i*W) by simp[pt]]
  exact aP hs' hW (A7 hl hx).1 hxl hk
end Go.Ab
end
section
namespace Go.Ab
variable {P:Program} {K:FuncId→List Value→Option fM} {G:Bg} {h:AH} {L L' M:List HP} {W:Nat} {e:TypeId}
theorem W2 {n i c:Nat} {a:Option Addr} {cs x:List Value} {k:Value→Prop} (hs:Hs G h L) [m:Has (dP W e a c) L (n,cs) L'] (hW:0<W) (hi:i<n) (hx:(cs.drop (i*W)).take W=x) (hl:x.length=W) (hk:k (.agg ⟨x⟩)):aN (vA W (.slice a n c) (I i)) fun p=>aN (yS h W p) k:=by
 have hs:=m.of hs
 obtain⟨b,o,rfl,hs'⟩:=hs.hM (by omega)
 refine dW hi ?_
 rw[show pt b (o+i*W) 0=pt b o (i*W) by simp[pt]]
 exact aP hs' hW hx hl hk
end Go.Ab
end
section
namespace Go.Ab
variable {P:Program} {K:FuncId→List Value→Option fM} {G:Bg} {h:AH} {L L' M:List HP}
end Go.Ab
end
section
namespace Go.Ab
variable {P:Program} {K:FuncId→List Value→Option fM} {G:Bg} {h:AH} {L L' M:List HP}
class Fx {α:Type} (enc:α→List Value) (W:outParam Nat):Prop where
 len:∀x,(enc x).length=W
 g9:∀x,(enc x).all eE=true
def eL {α:Type} (enc:α→List Value) (l:List α):List Value:=l.flatMap enc
section
variable {α:Type} {enc:α→List Value} {W:Nat} [F:Fx enc W]
omit F in
@[simp] theorem W8:eL enc []=[]:=rfl
omit F in
theorem mY {x:α} {l:List α}:eL enc (x::l)=enc x++eL enc l:=rfl
omit F in
theorem Ll {l m:List α}:eL enc (l++m)=eL enc l++eL enc m:=by simp[eL]
theorem R6 {l:List α}:(eL enc l).length=l.length*W:=by
 induction l with
 |nil=>simp
 |cons x l ih=>rw[mY,List.length_append,F.len,ih,List.length_cons,Nat.succ_mul];omega
include F in
theorem Qb {l:List α}:(eL enc l).all eE=true:=by
 induction l with
 |nil=>rfl
 |cons x l ih=>rw[mY,List.all_append,F.g9,ih];rfl
theorem Mb {l:List α}:∀{i:Nat},(eL enc l).drop (i*W)=eL enc (l.drop i):=by
 induction l with
 |nil=>intro i;simp
 |cons x l ih=>
  intro i
  cases i with
  |zero=>simp
  |succ i=>
   rw[mY,List.drop_succ_cons,Nat.succ_mul,List.drop_append,List.drop_of_length_le (by rw[F.len];omega),F.len,show i*W+W - W=i*W by omega,ih,List.nil_append]
theorem Uk {l:List α}:∀{i:Nat},(eL enc l).take (i*W)=eL enc (l.take i):=by
 induction l with
 |nil=>intro i;simp
 |cons x l ih=>
  intro i
  cases i with
  |zero=>simp
  |succ i=>
   rw[mY,List.take_succ_cons,mY,Nat.succ_mul,List.take_append,List.take_of_length_le (by rw[F.len];omega),F.len,show i*W+W - W=i*W by omega,ih]
theorem V1 {l:List α} {i:Nat} {x:α} (h:l[i]?=some x):((eL enc l).drop (i*W)).take W=enc x:=by
 obtain⟨hi,he⟩:=List.getElem?_eq_some_iff.1 h
 rw[Mb,List.drop_eq_getElem_cons hi,mY,he]
 exact List.take_left' (F.len x)
theorem Ui {l:List α} {i j:Nat} {x:α} {v:Value} (h:l[i]?=some x) (hv:(enc x)[j]?=some v):(eL enc l)[i*W+j]?=some v:=by
 have h1:=V1 (enc:=enc) h
 grind
def ls (enc:α→List Value) (W:Nat) (e:TypeId) (a:Option Addr) (c:Nat) (l:List α):HP:=dP W e a c (l.length,eL enc l)
omit F in
theorem F9 [Fx enc W] {e:TypeId} (hs:Hs G h L):Hs G h (ls enc W e none 0 []::L):=gH hs
variable {e:TypeId} {a:Option Addr} {c:Nat} {l:List α}
omit F in
theorem Kv {x:α} (hs:Hs G h (dP W e a c (1,enc x)::L)):Hs G h (ls enc W e a c [x]::L):=by
 unfold ls
 rw[mY,W8,List.append_nil]
 exact hs
theorem V9 {i:Int} {x:α} {k:Value→Prop} (hs:Hs G h L) [m:Has (ls enc W e a c) L l L'] (hW:0<W) (h0:0≤i) (hx:l[i.toNat]?=some x) (hk:k (.agg ⟨enc x⟩)):aN (vA W (.slice a l.length c) (I i)) fun p=>aN (yS h W p) k:=by
 obtain⟨j,rfl⟩:=Int.eq_ofNat_of_zero_le h0
 rw[Int.toNat_natCast] at hx
 exact W2 (e:=e) (cs:=eL enc l) (show Hs G h (dP W e a c (l.length,eL enc l)::L') from m.of hs) hW (List.getElem?_eq_some_iff.1 hx).1 (V1 hx) (F.len x) hk
omit F in
theorem pD [Fx enc W] {bytes c2:Nat} {a2:Option Addr} {l2:List α} {k:Value×AH→Prop} (hs:Hs G h L) [m:Has (ls enc W e a c) L l L'] [m2:Has (ls enc W e a2 c2) L' l2 M] (hsz:(l.length+l2.length)*(bytes+1)≤2^46)
  (hk:∀a' c' h',Hs G h' (ls enc W e a' c' (l++l2)::ls enc W e a2 c2 l2::M)→k (.slice a' (l++l2).length c',h')):aN (jK W bytes e h (.slice a l.length c) (.slice a2 l2.length c2)) k:=by
 have hs1:=m.of hs
 have hs2:Hs G h (ls enc W e a2 c2 l2::ls enc W e a c l::M):=(hs1.perm ((m2.perm.cons _).trans (List.Perm.swap _ _ _)))
 have hs3:Hs G h (dP W e a c (l.length,eL enc l)::dP W e a2 c2 (l2.length,eL enc l2)::M):=hs2.tE
 refine oW hs3 hsz fun a' c' h' hs'=>?_
 have:=hk a' c' h'
 unfold ls at this
 rw[List.length_append,Ll] at this
 exact this hs'
end
end Go.Ab
end
section
namespace Go.Ab
variable {P:Program} {K:FuncId→List Value→Option fM} {G:Bg} {h:AH} {L L' M:List HP}
end Go.Ab
end
section
namespace Go.Ab
variable {P:Program} {K:FuncId→List Value→Option fM} {G:Bg} {h:AH} {L L' M:List HP}
end Go.Ab
end
section
namespace Go.Ab
variable {P:Program} {K:FuncId→List Value→Option fM} {G:Bg} {h:AH} {L L' M:List HP}
def pE (p:Nat):List Value:=[pt p 0 0]
instance:Fx pE 1 where
 len _:=rfl
 g9 _:=rfl
theorem bf {e:TypeId} {a:Option Addr} {c i:Nat} {l:List Nat} {k:Value→Prop} (hs:Hs G h L) [m:Has (ls pE 1 e a c) L l L'] (hi:i<l.length) (hk:k (pt (l.getD i 0) 0 0)):aN (vA 1 (.slice a l.length c) (I i)) fun p=>aN (wO h p) k:=by
 have hx:l[i]?=some (l.getD i 0):=by rw[List.getD_eq_getElem?_getD,List.getElem?_eq_getElem hi];rfl
 have hs:Hs G h (dP 1 e a c (l.length,eL pE l)::L'):=m.of hs
 obtain⟨b,o,rfl,hs'⟩:=hs.hM (by omega)
 refine dW hi ?_
 rw[show pt b (o+i*1) 0=pt b o (i*1) by simp[pt]]
 have e2:(eL pE l)[i*1]?=some (pt (l.getD i 0) 0 0):=Ui (enc:=pE) (W:=1) (j:=0) hx rfl
 exact aE (b:=b) (o:=o) (j:=i*1) hs' e2 hk
def Jv {α:Type} (R:Nat→Nat→α→HP) (l:List Nat) (s:Nat→α):HP:=mU l.length fun k=>R k (l.getD k 0) (s k)
def Rj {α:Type} (R:Nat→Nat→α→HP) (l:List Nat) (s:Nat→α) (i:Nat):HP:=sp (((List.range l.length).erase i).map fun k=>R k (l.getD k 0) (s k))
variable {α:Type} {R:Nat→Nat→α→HP} {l:List Nat} {s:Nat→α} {i q:Nat} {x:α}
theorem pC (hi:i<l.length) (hs:Hs G h L) [m:Has (Jv R l) L s L']:Hs G h (R i (l.getD i 0) (s i)::Rj R l s i::L'):=(show Hs G h (mU l.length (fun k=>R k (l.getD k 0) (s k))::L') from m.of hs).tX i hi
theorem Yk (hi:i<l.length) (hs:Hs G h (R i q x::Rj R l s i::L)):Hs G h (Jv R (l.set i q) (fun j=>if j=i then x else s j)::L):=by
 unfold Jv
 rw[List.length_set]
 refine Hs.bu (i:=i) (f:=fun k=>R k (l.getD k 0) (s k)) hi (fun j hj=>?_) ?_
 ·simp only[if_neg hj,List.getD_eq_getElem?_getD,List.getElem?_set]
  rw[if_neg (fun e=>hj e.symm)]
 ·simp only[if_true,List.getD_eq_getElem?_getD,List.getElem?_set,hi,Option.getD_some]
  exact hs
theorem Qx (hi:i<l.length) (hs:Hs G h (R i (l.getD i 0) x::Rj R l s i::L)):Hs G h (Jv R l (fun j=>if j=i then x else s j)::L):=by
 have:=Yk hi hs
 rwa [show l.set i (l.getD i 0)=l by
  refine List.ext_getElem? fun j=>?_
  rw[List.getElem?_set]
  split
  ·rename_i e;subst e;rw[List.getD_eq_getElem?_getD,List.getElem?_eq_getElem hi];rfl
  ·rfl] at this
theorem Uz (hs:Hs G h L):Hs G h (Jv R [] s::L):=Hs.X0 hs
theorem U3 (hs:Hs G h (R l.length q (s l.length)::Jv R l s::L)):Hs G h (Jv R (l++[q]) s::L):=by
 unfold Jv
 rw[List.length_append,List.length_singleton]
 refine Hs.Yq ?_
 have e:(l++[q]).getD l.length 0=q:=by simp[List.getD_eq_getElem?_getD]
 rw[e]
 have hs2:=hs.perm (List.Perm.swap _ _ _)
 refine(On (f:=fun k=>R k (l.getD k 0) (s k)) (fun j hj=>?_) hs2).perm (List.Perm.swap _ _ _)
 simp only[List.getD_eq_getElem?_getD,List.getElem?_append_left hj]
end Go.Ab
end
section
namespace Go.Ab
open Go Go.RowKit
variable {P:Program} {H:Type}
def qQ (f:DataW H→Option (List Value)) (w:Nat):List (DataW H)→Option (List Value)
 |[]=>some []
 |d::ds=>match f d with
  |some c=>if c.length=w then(qQ f w ds).map (c++·) else none
  |none=>none
def pX (f:TypeId→DataW H→Option (List Value)) (w:TypeId→Nat):List Field→List (DataW H)→Nat→Option (List Value)
 |[],[],_=>some []
 |x::fs,d::ds,o=>match f x.type d with
  |some c=>if x.offset=o∧c.length=w x.type then(pX f w fs ds (o+c.length)).map (c++·) else none
  |none=>none
 |_,_,_=>none
def Bj (P:Program):Nat→TypeId→DataW H→Option (List Value)
 |0,_,_=>none
 |n+1,t,d=>match P.underlying t,d with
  |some (.int _),.lit (.int k m)=>some [.int k m]
  |some .bool,.lit (.bool b)=>some [.bool b]
  |some .string,.lit (.string s)=>some [.string ⟨s.toArray⟩]
  |some (.array _ e),.agg ds=>match qQ (Bj P n e) (P.cellsOf e) ds with
   |some l=>if l.length=P.cellsOf t then some l else none
   |none=>none
  |some (.struct fs),.agg ds=>match pX (Bj P n) P.cellsOf fs.toList ds 0 with
   |some l=>if l.length=P.cellsOf t then some l else none
   |none=>none
  |_,_=>none
theorem zN {f:DataW H→Option (List Value)} {w:Nat}:∀{ds:List (DataW H)} {l:List Value},qQ f w ds=some l→l.length=ds.length*w
 |[],l,h=>by simp[qQ] at h;subst h;simp
 |d::ds,l,h=>by
  unfold qQ at h
  split at h
  ·rename_i c hc
   split at h
   ·rename_i hl
    simp only[Option.map_eq_some_iff] at h
    obtain⟨r,hr,rfl⟩:=h
    have:=zN hr
    simp[this,hl,Nat.succ_mul];omega
   ·cases h
  ·cases h
theorem D6 {f:DataW H→Option (List Value)} {w:Nat} {T:List Value→Option (DataW H×List MemPlace)} (ih:∀c x l,T c=some x→f x.1=some l→c=l):∀(xs:List (DataW H×List MemPlace)) (cs l:List Value),
    qQ f w (xs.map (·.1))=some l→cs.length=xs.length*w→(∀i,i<xs.length→T ((cs.drop (i*w)).take w)=xs[i]?)→cs=l
 |[],cs,l,h,hl,_=>by simp[qQ] at h;subst h;exact List.eq_nil_of_length_eq_zero (by simpa using hl)
 |x::xs,cs,l,h,hl,hx=>by
  simp only[List.map_cons,qQ] at h
  split at h
  ·rename_i c hc
   split at h
   ·rename_i hcl
    simp only[Option.map_eq_some_iff] at h
    obtain⟨r,hr,rfl⟩:=h
    have h0:=hx 0 (by simp)
    simp only[Nat.zero_mul,List.drop_zero,List.getElem?_cons_zero] at h0
    have e0:=ih _ _ _ h0 hc
    have e1:=D6 ih xs (cs.drop w) r hr (by rw[List.length_drop,hl,List.length_cons,Nat.succ_mul];omega) fun i hi=>by
     have:=hx (i+1) (by simp;omega)
     rw[List.getElem?_cons_succ] at this
     rw[List.drop_drop,←this,Nat.succ_mul,Nat.add_comm]
    rw[←List.take_append_drop w cs,e0,e1]
   ·cases h
  ·cases h
theorem zM {f:TypeId→DataW H→Option (List Value)} {w:TypeId→Nat} {T:TypeId→List Value→Option (DataW H×List MemPlace)} (ih:∀t c x l,T t c=some x→f t x.1=some l→c=l) {cs:List Value}:∀(fs:List Field) (xs:List (DataW H×List MemPlace)) (o:Nat) (l:List Value),
    pX f w fs (xs.map (·.1)) o=some l→(∀(i:Nat) (x:Field),fs[i]?=some x→T x.type ((cs.drop x.offset).take (w x.type))=xs[i]?)→(cs.drop o).take l.length=l
 |[],[],o,l,h,_=>by simp[pX] at h;subst h;simp
 |[],_::_,_,_,h,_=>by simp[pX] at h
 |_::_,[],_,_,h,_=>by simp[pX] at h
 |y::fs,x::xs,o,l,h,hx=>by
  simp only[List.map_cons,pX] at h
  split at h
  ·rename_i c hc
   split at h
   ·rename_i hcl
    simp only[Option.map_eq_some_iff] at h
    obtain⟨r,hr,rfl⟩:=h
    have h0:=hx 0 y rfl
    have e0:=ih _ _ _ _ h0 hc
    have e1:=zM ih fs xs (o+c.length) r hr fun i z hz=>hx (i+1) z hz
    rw[hcl.1,←hcl.2] at e0
    rw[List.length_append,List.take_add,List.drop_drop,e0,e1]
   ·cases h
  ·cases h
variable {enc:TypeId×Value→H} {w:World} {base:Nat} {spare:Nat→Bool} {held:Bool}
theorem Ke:∀(n:Nat) {t:TypeId} {cs l:List Value} {x:DataW H×List MemPlace} {fuel:Nat},DataW.trod enc P w base spare held fuel t cs=some x→Bj P n t x.1=some l→cs=l:=by
 intro n
 induction n with
 |zero=>intro t cs l x fuel _ h;cases h
 |succ n ih=>
  intro t cs l x fuel ht h
  unfold Bj at h
  split at h
  ·rename_i hu hd
   obtain⟨m,rfl,hx,_⟩:=DataW.trod_int hu ht
   rw[hx] at hd
   cases hd;cases h;rfl
  ·rename_i hu hd
   obtain⟨m,rfl,hx⟩:=DataW.trod_bool hu ht
   rw[hx] at hd
   cases hd;cases h;rfl
  ·rename_i hu hd
   obtain⟨m,rfl,hx,_⟩:=DataW.trod_string hu ht
   rw[hx] at hd
   cases hd;cases h;rfl
  ·rename_i hu hd
   obtain⟨xs,m,_,hx,hl,hxl,hxs⟩:=DataW.trod_array hu ht
   rw[hx] at hd
   cases hd
   split at h
   ·rename_i r hr
    split at h
    ·rename_i hrl
     cases h
     have:=zN hr
     rw[List.length_map] at this
     exact D6 (T:=DataW.trod enc P w base spare held m _) (fun c y l h1 h2=>ih h1 h2) xs cs l hr (by rw[hl,←hrl,this]) fun i hi=>hxs i (by omega)
    ·cases h
   ·cases h
  ·rename_i hu hd
   obtain⟨xs,m,_,hx,hl,hxl,hxs⟩:=DataW.trod_struct hu ht
   rw[hx] at hd
   cases hd
   split at h
   ·rename_i r hr
    split at h
    ·rename_i hrl
     cases h
     have:=zM (w:=P.cellsOf) (T:=fun t c=>DataW.trod enc P w base spare held m t c) (fun t c y l h1 h2=>ih h1 h2) (cs:=cs) _ xs 0 l hr fun i y hy=>hxs i y (by rw[←hy,Array.getElem?_toList])
     rw[List.drop_zero,List.take_of_length_le (by omega)] at this
     exact this
    ·cases h
   ·cases h
  ·cases h
theorem vV {n:String} {d:DataW Unit}:∀{laid:List (String×DataW Unit)} {ps:List MemPlace},DataW.LaidVars P w laid ps→(n,d)∈laid→
  ∃g t cs fuel p,P.globalNamed n=some g∧(P.globals[g]?).map (·.type)=some t∧w.var? P n=some cs∧DataW.trod (fun _=>()) P w 0 (fun _=>true) false fuel t cs.toList=some (d,p)
 |[],_,_,hm=>by cases hm
 |(n',d')::r,ps,h,hm=>by
  obtain⟨g,t,cs,fuel,p,q,h1,h2,h3,h4,h5,_⟩:=h
  rcases List.mem_cons.1 hm with e|e
  ·cases e;exact⟨g,t,cs,fuel,p,h1,h2,h3,h4⟩
  ·exact vV h5 e
theorem By {laid:List (String×DataW Unit)} {n:String} {d:DataW Unit} {g:Nat} {t:TypeId} {l:List Value} (fuel:Nat) (hp:(laid.all fun x=>x.2.handleName?.isNone)=true) (h:laidMetH P laid w) (hm:(n,d)∈laid)
  (hg:P.globalNamed n=some g) (ht:(P.globals[g]?).map (·.type)=some t) (hc:Bj P fuel t d=some l):∃e fz,w.heap[g]?=some (.cells ⟨l⟩ e fz):=by
 rw[Go.MakeChecks.laidMetH_plain _ _ _ hp] at h
 obtain⟨ps,hv,_⟩:=h
 obtain⟨g',t',cs,f,p,h1,h2,h3,h4⟩:=vV hv hm
 obtain rfl:=Option.some.inj (hg.symm.trans h1)
 obtain rfl:=Option.some.inj (ht.symm.trans h2)
 have:=Ke fuel h4 hc
 simp only[World.var?,hg,Option.bind_some] at h3
 split at h3
 ·rename_i c e fz hb
  cases h3
  refine⟨e,fz,?_⟩
  rw[hb]
  cases cs;simp at this;subst this;rfl
 ·cases h3
end Go.Ab
end
section
namespace Go.Ab
open Go Go.RowKit Go.ChangeShapes Go.WideShapes Go.ChangeAt
variable {H:Type} {enc:TypeId×Value→H}
def K7 (P:Program) (ts:List TypeId):Bool:=ts.all fun t=>P.readableRec t&&decide (t<P.types.size)
theorem Dk {P:Program} (hl:laidOutB P=true) {W W':World} (hb:Below W.heap.size W W'):∀(ts:List TypeId) {vs:List Value} {ds:List (DataW H)} {ps:List MemPlace},K7 P ts=true→
  DataW.TrodAll enc P W 0 (fun _=>true) true ts vs ds ps→DataW.TrodAll enc P W' 0 (fun b=>decide (b<W.heap.size)) true ts vs ds ps
 |[],vs,ds,ps,_,h=>by
  obtain⟨rfl,rfl,rfl⟩:=trodAll_nil h
  exact trodAll_mk0
 |t::ts,vs,ds,ps,hr,h=>by
  obtain⟨v,vs',d,ds',p,q,rfl,rfl,rfl,h1,h2⟩:=trodAll_cons h
  simp only[K7,List.all_cons,Bool.and_eq_true,decide_eq_true_eq] at hr
  have lt0:∀x∈p,x.block<W.heap.size:=by obtain⟨m,hm⟩:=h1;exact DataW.trod_lt m _ _ _ hm
  exact trodAll_cons_mk (Below.trod hl hr.1.1 hr.1.2 h1 hb lt0) (Dk hl hb ts hr.2 h2)
theorem Nc {P:Program} {w:World} {base:Nat} {spare:Nat→Bool} {held:Bool}:∀(ts:List TypeId) {vs:List Value} {ds:List (DataW H)} {ps:List MemPlace},
    DataW.TrodAll enc P w base spare held ts vs ds ps→ds.length=ts.length
 |[],vs,ds,ps,h=>by obtain⟨rfl,rfl,rfl⟩:=trodAll_nil h;rfl
 |t::ts,vs,ds,ps,h=>by
  obtain⟨v,vs',d,ds',p,q,rfl,rfl,rfl,h1,h2⟩:=trodAll_cons h
  simp[Nc ts h2]
theorem Ac {C:Checked} {os:Os} (started:os.Started) {f:FuncId} {fn:Func} {s:ChangeSpec} {laid:List (String×DataW Unit)} {tb:TypeId} {fresh handsOn:Bool}
  (own:ownKnob C.prog.godebug=none) (noInit:C.prog.inits.idxOf? f=none) (hfn:C.prog.funcs[f]?=some fn) (hlo:laidOutB C.prog=true) (hps:K7 C.prog fn.params.toList=true)
  (hres:fn.resultTypes= #[tb]) (htb:C.prog.underlying tb=some .bool) (hvars:s.vars=[])
  (hspec:∀ds:List (DataW H),ds.length=fn.params.size→s.fn H ds={results:=[.lit (.bool true)],args:=ds})
  (witness:∃(w:World) (tape:Tape) (i:Input),w.os=os∧(w.forCall tape i).Shaped C.prog∧i.vars=[]∧Input.okWide C.prog (w.forCall tape i) .any w.heap.size f i∧
   ((s.pre enc C.prog fn [] false (w.forCall tape i).memory i.args∧laidMetH C.prog laid (w.forCall tape i).memory)∧sizedMet enc C.prog fn (OpenSpec.ofChange s) false (w.forCall tape i).memory i.args)∧({}:Assume).holds C.prog (lone (Frame.enter C.prog f i.args .normal) [] (w.forCall tape i)))
  (walk:∀(W:World) (base:Nat) (args:List Value) (ds:List (DataW H)) (ps:List MemPlace),DataW.TrodAll enc C.prog W 0 (fun _=>true) true fn.params.toList args ds ps→
   (∀(j:Nat) t v,fn.params[j]?=some t→args[j]?=some v→Value.okWide C.prog W .any base t v)→laidMetH C.prog laid W→Calls C.prog f ⟨args⟩ W fun e W'=>e= .returned (.bool true)∧Below W.heap.size W W'):
  ReturnsInHanded {} C os f .any (fun w args=>(s.pre enc C.prog fn [] false w args∧laidMetH C.prog laid w)∧sizedMet enc C.prog fn (OpenSpec.ofChange s) false w args) (s.post enc C.prog fn false fresh handsOn false):=by
 refine returnsInHanded_of_change_and (C:=C) (X:=fun w _=>laidMetH C.prog laid w) (fun _ _ _ hh h=>h.of_heap hh) own started noInit hfn witness ?_
 intro W base args ds gs before hval hW _ _ hL _
 have hW':=hW
 obtain⟨p,q,hA,hV,rfl,hfz,hnd⟩:=hW
 rw[hvars] at hV
 obtain⟨rfl,rfl⟩:=trodVars_none hV
 have hsp:=hspec ds (by rw[Nc _ hA];simp)
 obtain⟨args⟩:=args
 refine(walk W base args ds p hA (fun j t v h1 h2=>hval j t v h1 (by simpa using h2)) hL).mono fun e W' ⟨he,bel⟩=>?_
 subst he
 refine⟨_,rfl,ds,[],_,[],p,[],hW',?_,?_,?_,bel.frame _,fun h=>by cases h⟩
 ·rw[List.append_nil,hsp,hres]
  exact trodAll_mk1 (shut_bool htb _)
 ·rw[List.append_nil,hsp]
  exact Dk hlo bel _ hps hA
 ·rw[List.append_nil,hsp,hvars]
  rfl
theorem lS {k:IntKind} {ks:List (Option IntKind)} {l:List Value} (h:Flat (some k::ks) l):∃(n:Int) (l':List Value),l= .int k n::l'∧Flat ks l':=by
 cases l with
 |nil=>exact h.elim
 |cons v l=>obtain⟨⟨n,rfl,_⟩,h⟩:=h;exact⟨n,l,rfl,h⟩
theorem Bq {l:List Value} (h:Flat [] l):l=[]:=by
 cases l with
 |nil=>rfl
 |cons v l=>exact h.elim
theorem C7 {P:Program} {W:World} {base:Nat} {t e:TypeId} {v:Value} {d:DataW H} {p:List MemPlace} {n:Nat} {ks:List (Option IntKind)} (ht:P.underlying t=some (.slice e)) (he:nV P n e=some ks) (hc:P.cellsOf e=ks.length) (h0:0<ks.length)
  (hok:Value.okWide P W .any base t v) (h:DataW.Trod enc P W 0 (fun _=>true) true t v d p):∃a len cap,v= .slice a len cap∧yR ks W a len cap:=by
 obtain⟨a,len,cap,rfl⟩:=okWide_slice ht hok
 obtain⟨fuel,hf⟩:=h
 obtain⟨a',len',cap',hcs,hr⟩:=N8 ht he hc h0 hf
 simp[Value.cells] at hcs
 obtain⟨rfl,rfl,rfl⟩:=hcs
 exact⟨_,_,_,rfl,hr⟩
theorem E9 {P:Program} {W:World} {base:Nat} {t:TypeId} {fs:Array Field} {v:Value} {d:DataW H} {p:List MemPlace} {n:Nat} {ks:List (Option IntKind)} (ht:P.underlying t=some (.struct fs)) (he:nV P n t=some ks)
  (hok:Value.okWide P W .any base t v) (h:DataW.Trod enc P W 0 (fun _=>true) true t v d p):∃l,v= .agg ⟨l⟩∧Flat ks l:=by
 simp only[Value.okWide,ht] at hok
 obtain⟨cs,rfl,_,_⟩:=hok
 obtain⟨fuel,hf⟩:=h
 obtain⟨l⟩:=cs
 exact⟨l,rfl,wN n he hf⟩
theorem xV {P:Program} {W:World} {base:Nat} {t e:TypeId} {m:Nat} {v:Value} {d:DataW H} {p:List MemPlace} {n:Nat} {ks:List (Option IntKind)} (ht:P.underlying t=some (.array m e)) (he:nV P n t=some ks)
  (hok:Value.okWide P W .any base t v) (h:DataW.Trod enc P W 0 (fun _=>true) true t v d p):∃l,v= .agg ⟨l⟩∧Flat ks l:=by
 simp only[Value.okWide,ht] at hok
 obtain⟨cs,rfl,_,_⟩:=hok
 obtain⟨fuel,hf⟩:=h
 obtain⟨l⟩:=cs
 exact⟨l,rfl,wN n he hf⟩
end Go.Ab
end
section
namespace Go.Ab
open Go Go.RowKit Go.ChangeShapes Go.WideShapes Go.ChangeAt
variable {H:Type} {enc:TypeId×Value→H}
end Go.Ab
end
section
namespace Go.Ab
open Go Go.RowKit Go.ChangeShapes Go.WideShapes Go.ChangeAt
theorem Kh {α:Type} {f:α→List Value} {R:α→Prop} {W n:Nat} {at':Nat→List Value} (hex:∀i,i<n→∃x,at' i=f x∧R x):
  ∃l:List α,l.length=n∧(∀x∈l,R x)∧∀(G:Bg) (v:Value),O2 G W v n at'→O2 G W v (l.map f).length (fun i=>(l.map f).getD i []):=by
 let l:List α:=(List.finRange n).map fun i=>(hex i.1 i.2).choose
 have hl:l.length=n:=by simp[l]
 have hg:∀i,(hi:i<n)→l[i]?=some (hex i hi).choose:=fun i hi=>by
  simp[l,List.getElem?_map,List.getElem?_eq_getElem (show i<(List.finRange n).length by simp;exact hi)]
 refine⟨l,hl,fun x hx=>?_,fun G v ho=>?_⟩
 ·obtain⟨i,_,rfl⟩:=List.mem_map.1 hx
  exact(hex i.1 i.2).choose_spec.2
 ·obtain⟨a,c,rfl,hall⟩:=ho
  rw[List.length_map,hl]
  refine⟨a,c,rfl,fun i hi=>?_⟩
  obtain⟨b,o,cells,h1,h2,h3,h4⟩:=hall i hi
  refine⟨b,o,cells,h1,h2,?_,h4⟩
  rw[h3,(hex i hi).choose_spec.1]
  show f _=(l.map f).getD i []
  rw[List.getD_eq_getElem?_getD,List.getElem?_map,hg i hi]
  rfl
variable {G:Bg} {h:AH} {L:List HP}
end Go.Ab
end
